/-
  types: Vars and its closure.
-/
import Derived.Test.YtncakfcafkfmfaaTys
import Derived.Test.YtncakfcafkfmfaaTyZ
import Derived.Test.YtncakfcafkfmfaaTyd
namespace Go.Proofs.Ytncakfcafkfmfaa
open Go
set_option linter.unusedSimpArgs false
set_option linter.unusedVariables false

abbrev vwF (bo bw : Nat) : Value := .func (.func 49) #[] #[.pointer (some ⟨bo, 0, none⟩), .pointer (some ⟨bw, 0, none⟩)]
set_option maxHeartbeats 4000000 in
theorem walkV_ok {B bo bw : Nat} {F : Nat → Prop} (hFB : ∀ k, F k → k < B) (hbo : B ≤ bo) (hbw : B ≤ bw) (hbb : bo ≠ bw) : ∀ (N : Nat) (G : Nat → Prop) (w : World) (l : List Int) (A : Option Addr) (c : Nat) (a1 a2 a3 : Value) (t : Ty), sz t ≤ N → Own w G 3 1 (.slice A l.length c) l.length (l.map I6) → Blk w bo #[.slice A l.length c] 33 → Blk w bw #[vwF bo bw] 73 → TV w F (a1, a2, a3) t →
    (∀ k, G k → B ≤ k ∧ k < w.heap.size ∧ k ≠ bo ∧ k ≠ bw) → l.length + (vars t).length ≤ 1000000000 →
    Ret Try.prog 49 #[.agg #[a1, a2, a3], .pointer (some ⟨bo, 0, none⟩), .pointer (some ⟨bw, 0, none⟩)] w fun _ w' => ∃ A' c', Own w' (Grow G w w') 3 1 (.slice A' (nubA l (vars t)).length c') (nubA l (vars t)).length ((nubA l (vars t)).map I6) ∧ Blk w' bo #[.slice A' (nubA l (vars t)).length c'] 33 ∧ Upd (fun k => k = bo ∨ G k) w w' := by
  intro N
  induction N with
  | zero =>
    intro G w l A c a1 a2 a3 t hN
    have := sz_pos t
    omega
  | succ N ih =>
    intro G w l A c a1 a2 a3 t hN ho hob hwb ht hG hlen
    obtain ⟨m, A0, k0, xk, rfl, rfl, rfl, hm, hr, hl, hb, hk⟩ := ht.open
    have hks : TVs w F xk t.kids := ⟨hl, hk⟩
    have hvt := vars_top t
    have hlo := hob.lt
    have hlw := hwb.lt
    refine enterRet (vs := [_, _, _]) (N := 32) Try.func49 rfl rfl rfl ?_
    have hU := Upd.refl (fun k => k = bo ∨ G k) w
    refine WC.keep [(0, _), (1, _), (2, _)] ⟨rfl, rfl, rfl, trivial⟩ ?_
    refine WC.seq ?_
    refine WC.region ?_
    refine WL.cons (SO.alloc rfl rfl rfl rfl (r_boxAgg rfl (ev_t rfl)) ?_)
    intro w1 hu1 hB1 hz1
    have hs1 := hu1.size
    replace hU := hU.trans hu1 (by first | exact (fun _ _ h => h) | exact (fun _ _ h => h.elim) | (intro k hl hk; (try simp only [At, New, Grow, From, No] at hk ⊢); omega) | (intro k hl hk; first | exact (show False from hk).elim | exact .inr hk | (simp only [At] at hk; subst hk; first | exact .inl rfl | (exfalso; omega)) | (rcases hk with hk | hk; exact .inl hk; have h9 := (hG1 k hk).2; rcases h9 with h | h; exact .inr h; (exfalso; omega))))
    replace hr := hr.upd hu1 (fun k hk hl hS => by have := hFB k hk; first | exact (show False from hS).elim | (simp only [At] at hS; omega) | (have := hG k hS; omega) | (have := hG1 k hS; omega) | (rcases hS with hS | hS; omega; have := hG1 k hS; omega))
    replace hks := hks.upd hu1 (fun k hk hl hS => by have := hFB k hk; first | exact (show False from hS).elim | (simp only [At] at hS; omega) | (have := hG k hS; omega) | (have := hG1 k hS; omega) | (rcases hS with hS | hS; omega; have := hG1 k hS; omega))
    replace ho := ho.upd hu1 (fun k hk hl hS => by first | exact (show False from hS).elim | (simp only [At] at hS; have := hG k hk; omega) | (simp only [At] at hS; rcases hk with hk | hk; have := hG k hk; omega; omega) | (simp only [At] at hS; have := hG1 k hk; omega))
    replace hob := hob.upd hu1 (by first | exact (fun h => h) | (simp only [At]; omega) | (intro hS; have := hG _ hS; omega) | (intro hS; have := hG1 _ hS; omega) | (intro hS; rcases hS with hS | hS; omega; have := hG1 _ hS; omega))
    replace hwb := hwb.upd hu1 (by first | exact (fun h => h) | (simp only [At]; omega) | (intro hS; have := hG _ hS; omega) | (intro hS; have := hG1 _ hS; omega) | (intro hS; rcases hS with hS | hS; omega; have := hG1 _ hS; omega))
    refine WL.nil ?_
    refine WX.keep [(1, _), (2, _), (3, _)] ⟨rfl, rfl, rfl, trivial⟩ ?_
    refine WX.next ?_
    -- cut 1: live [2, 3]
    refine WC.cut (fun E wA => ∃ (G1 : Nat → Prop) (A1 : Option Addr) (c1 : Nat), Upd (fun k => k = bo ∨ G k) w wA ∧ w.heap.size < wA.heap.size ∧ (∀ k, G1 k → (B ≤ k ∧ k < wA.heap.size ∧ k ≠ w.heap.size ∧ k ≠ bo ∧ k ≠ bw) ∧ (G k ∨ w.heap.size ≤ k)) ∧ Own wA G1 3 1 (.slice A1 (nubA l (topv t)).length c1) (nubA l (topv t)).length ((nubA l (topv t)).map I6) ∧ Blk wA bo #[.slice A1 (nubA l (topv t)).length c1] 33 ∧ Blk wA bw #[vwF bo bw] 73 ∧   Blk wA w.heap.size #[.string ⟨t.nm.toArray⟩, .int .i64 m, .slice A0 t.kids.length k0] typ ∧ Rd wA F (.slice A0 t.kids.length k0) t.kids.length 3 (xk.flatMap c3) ∧ TVs wA F xk t.kids ∧   E = [(2, .pointer (some ⟨bw, 0, none⟩)), (3, .pointer (some ⟨w.heap.size, 0, none⟩))]) ?_ ?_
    · refine WC.seq ?_
      refine WC.region ?_
      first | refine WL.val rfl rfl rfl rfl (r_field0 rfl (ev_t rfl) fld_28_0) ?_ | refine WL.val rfl rfl rfl rfl (r_fieldAt rfl (ev_t rfl) fld_28_0) ?_
      refine WL.val rfl rfl rfl rfl (r_load rfl (ev_t rfl) flat_9 (Blk.cell hB1 rfl)) ?_
      refine WL.val rfl rfl rfl rfl (r_eqlStrL rfl (ev_t rfl) ev_c) ?_
      refine WL.val rfl rfl rfl rfl (r_move rfl (ev_t rfl)) ?_
      refine WL.cases 9 rfl (fun hb1_3 => ?_) (fun hb1_3 => ?_)
      · try (exfalso; first | (simp at hb1_3; done) | (simp only [decide_eq_true_eq, decide_eq_false_iff_not, Bool.not_eq_true', Bool.not_eq_false', Bool.not_eq_true, Bool.not_eq_false] at hb1_3; omega) | omega)
        all_goals
         try simp only [decide_eq_true_eq, decide_eq_false_iff_not, Bool.not_eq_true', Bool.not_eq_false', Bool.not_eq_true, Bool.not_eq_false, Option.isNone_none, Option.isNone_some, Option.isSome_none, Option.isSome_some, ne_eq, Decidable.not_not] at hb1_3
         obtain ⟨x, rfl⟩ := Ty.nm_nil.1 hb1_3
         obtain rfl := (hm x rfl).symm
         refine WL.val rfl rfl rfl rfl (r_load rfl (ev_t rfl) flat_33 (Blk.cell hob rfl)) ?_
         first | refine WL.val rfl rfl rfl rfl (r_field0 rfl (ev_t rfl) fld_28_1) ?_ | refine WL.val rfl rfl rfl rfl (r_fieldAt rfl (ev_t rfl) fld_28_1) ?_
         refine WL.val rfl rfl rfl rfl (r_load rfl (ev_t rfl) flat_3 (Blk.cell hB1 rfl)) ?_
         refine WL.cons (SO.call (contains_ok (ho.rd (by omega))) rfl body_32 ⟨(ev_t rfl), (ev_t rfl), trivial⟩ rfl rfl rfl rfl ?_)
         rintro v w2 ⟨rfl, he⟩
         obtain rfl := he.symm
         refine WL.val rfl rfl rfl rfl (r_not rfl (ev_t rfl)) ?_
         refine WL.val rfl rfl rfl rfl (r_pickT rfl (ev_t rfl) (ev_t rfl)) ?_
         refine WL.nil ?_
         refine WX.keep [(1, _), (2, _), (3, _), (15, _)] ⟨rfl, rfl, rfl, rfl, trivial⟩ ?_
         refine WX.next ?_
         refine WC.cond rfl (ev_t rfl) (fun hc1 => ?_) (fun hc1 => ?_)
         · try (exfalso; first | (simp at hc1; done) | (simp only [decide_eq_true_eq, decide_eq_false_iff_not, Bool.not_eq_true', Bool.not_eq_false', Bool.not_eq_true, Bool.not_eq_false] at hc1; omega) | omega)
           all_goals
            try simp only [decide_eq_true_eq, decide_eq_false_iff_not, Bool.not_eq_true', Bool.not_eq_false', Bool.not_eq_true, Bool.not_eq_false, Option.isNone_none, Option.isNone_some, Option.isSome_none, Option.isSome_some, ne_eq, Decidable.not_not] at hc1
            have hx : x ∉ l := by simpa using hc1
            have hnub : nubA l (topv (.v x)) = l ++ [x] := by show nubA l [x] = _; rw [nubA_cons, if_neg hx]; rfl
            refine WC.region ?_
            refine WL.val rfl rfl rfl rfl (r_load rfl (ev_t rfl) flat_33 (Blk.cell hob rfl)) ?_
            first | refine WL.val rfl rfl rfl rfl (r_field0 rfl (ev_t rfl) fld_28_1) ?_ | refine WL.val rfl rfl rfl rfl (r_fieldAt rfl (ev_t rfl) fld_28_1) ?_
            refine WL.val rfl rfl rfl rfl (r_load rfl (ev_t rfl) flat_3 (Blk.cell hB1 rfl)) ?_
            refine WL.cons (SO.alloc rfl rfl rfl rfl (r_buildSlice1 (vs := [_]) rfl ⟨(ev_t rfl), trivial⟩ rfl row_33 rfl rfl) ?_)
            intro w3 hu3 hB3 hz3
            have hs3 := hu3.size
            replace hU := hU.trans hu3 (by first | exact (fun _ _ h => h) | exact (fun _ _ h => h.elim) | (intro k hl hk; (try simp only [At, New, Grow, From, No] at hk ⊢); omega) | (intro k hl hk; first | exact (show False from hk).elim | exact .inr hk | (simp only [At] at hk; subst hk; first | exact .inl rfl | (exfalso; omega)) | (rcases hk with hk | hk; exact .inl hk; have h9 := (hG1 k hk).2; rcases h9 with h | h; exact .inr h; (exfalso; omega))))
            replace hr := hr.upd hu3 (fun k hk hl hS => by have := hFB k hk; first | exact (show False from hS).elim | (simp only [At] at hS; omega) | (have := hG k hS; omega) | (have := hG1 k hS; omega) | (rcases hS with hS | hS; omega; have := hG1 k hS; omega))
            replace hks := hks.upd hu3 (fun k hk hl hS => by have := hFB k hk; first | exact (show False from hS).elim | (simp only [At] at hS; omega) | (have := hG k hS; omega) | (have := hG1 k hS; omega) | (rcases hS with hS | hS; omega; have := hG1 k hS; omega))
            replace ho := ho.upd hu3 (fun k hk hl hS => by first | exact (show False from hS).elim | (simp only [At] at hS; have := hG k hk; omega) | (simp only [At] at hS; rcases hk with hk | hk; have := hG k hk; omega; omega) | (simp only [At] at hS; have := hG1 k hk; omega))
            replace hob := hob.upd hu3 (by first | exact (fun h => h) | (simp only [At]; omega) | (intro hS; have := hG _ hS; omega) | (intro hS; have := hG1 _ hS; omega) | (intro hS; rcases hS with hS | hS; omega; have := hG1 _ hS; omega))
            replace hwb := hwb.upd hu3 (by first | exact (fun h => h) | (simp only [At]; omega) | (intro hS; have := hG _ hS; omega) | (intro hS; have := hG1 _ hS; omega) | (intro hS; rcases hS with hS | hS; omega; have := hG1 _ hS; omega))
            replace hB1 := hB1.upd hu3 (by first | exact (fun h => h) | (simp only [At]; omega) | (intro hS; have := hG _ hS; omega) | (intro hS; have := hG1 _ hS; omega) | (intro hS; rcases hS with hS | hS; omega; have := hG1 _ hS; omega))
            refine WL.cons (SO.append ho (show Rd _ _ _ 1 1 [I6 x] from Rd.of_blk (F := At _) (n := 1) (sz := 1) hB3 rfl rfl (by omega)) row_33 (fun u hu => by simp at hu; subst hu; rfl) (le_maxLen (by omega)) (by omega) rfl (ev_t rfl) (ev_t rfl) rfl rfl rfl rfl ?_)
            intro v4 w4 ho hu4
            have hs4 := hu4.size
            replace hU := hU.trans hu4 (by first | exact (fun _ _ h => h) | exact (fun _ _ h => h.elim) | (intro k hl hk; (try simp only [At, New, Grow, From, No] at hk ⊢); omega) | (intro k hl hk; first | exact (show False from hk).elim | exact .inr hk | (simp only [At] at hk; subst hk; first | exact .inl rfl | (exfalso; omega)) | (rcases hk with hk | hk; exact .inl hk; have h9 := (hG1 k hk).2; rcases h9 with h | h; exact .inr h; (exfalso; omega))))
            replace hr := hr.upd hu4 (fun k hk hl hS => by have := hFB k hk; first | exact (show False from hS).elim | (simp only [At] at hS; omega) | (have := hG k hS; omega) | (have := hG1 k hS; omega) | (rcases hS with hS | hS; omega; have := hG1 k hS; omega))
            replace hks := hks.upd hu4 (fun k hk hl hS => by have := hFB k hk; first | exact (show False from hS).elim | (simp only [At] at hS; omega) | (have := hG k hS; omega) | (have := hG1 k hS; omega) | (rcases hS with hS | hS; omega; have := hG1 k hS; omega))
            replace hob := hob.upd hu4 (by first | exact (fun h => h) | (simp only [At]; omega) | (intro hS; have := hG _ hS; omega) | (intro hS; have := hG1 _ hS; omega) | (intro hS; rcases hS with hS | hS; omega; have := hG1 _ hS; omega))
            replace hwb := hwb.upd hu4 (by first | exact (fun h => h) | (simp only [At]; omega) | (intro hS; have := hG _ hS; omega) | (intro hS; have := hG1 _ hS; omega) | (intro hS; rcases hS with hS | hS; omega; have := hG1 _ hS; omega))
            replace hB1 := hB1.upd hu4 (by first | exact (fun h => h) | (simp only [At]; omega) | (intro hS; have := hG _ hS; omega) | (intro hS; have := hG1 _ hS; omega) | (intro hS; rcases hS with hS | hS; omega; have := hG1 _ hS; omega))
            obtain ⟨A4, c4, rfl, hc4⟩ := Own.form ho
            refine WL.cons (SO.store rfl (ev_t rfl) (ev_t rfl) size_33 hob rfl rfl rfl rfl rfl ?_)
            intro w5 hu5 hob hz5
            have hs5 := hu5.size
            replace hU := hU.trans hu5 (by first | exact (fun _ _ h => h) | exact (fun _ _ h => h.elim) | (intro k hl hk; (try simp only [At, New, Grow, From, No] at hk ⊢); omega) | (intro k hl hk; first | exact (show False from hk).elim | exact .inr hk | (simp only [At] at hk; subst hk; first | exact .inl rfl | (exfalso; omega)) | (rcases hk with hk | hk; exact .inl hk; have h9 := (hG1 k hk).2; rcases h9 with h | h; exact .inr h; (exfalso; omega))))
            replace hr := hr.upd hu5 (fun k hk hl hS => by have := hFB k hk; first | exact (show False from hS).elim | (simp only [At] at hS; omega) | (have := hG k hS; omega) | (have := hG1 k hS; omega) | (rcases hS with hS | hS; omega; have := hG1 k hS; omega))
            replace hks := hks.upd hu5 (fun k hk hl hS => by have := hFB k hk; first | exact (show False from hS).elim | (simp only [At] at hS; omega) | (have := hG k hS; omega) | (have := hG1 k hS; omega) | (rcases hS with hS | hS; omega; have := hG1 k hS; omega))
            replace ho := ho.upd hu5 (fun k hk hl hS => by first | exact (show False from hS).elim | (simp only [At] at hS; have := hG k hk; omega) | (simp only [At] at hS; rcases hk with hk | hk; have := hG k hk; omega; omega) | (simp only [At] at hS; have := hG1 k hk; omega))
            replace hwb := hwb.upd hu5 (by first | exact (fun h => h) | (simp only [At]; omega) | (intro hS; have := hG _ hS; omega) | (intro hS; have := hG1 _ hS; omega) | (intro hS; rcases hS with hS | hS; omega; have := hG1 _ hS; omega))
            replace hB1 := hB1.upd hu5 (by first | exact (fun h => h) | (simp only [At]; omega) | (intro hS; have := hG _ hS; omega) | (intro hS; have := hG1 _ hS; omega) | (intro hS; rcases hS with hS | hS; omega; have := hG1 _ hS; omega))
            refine WL.nil ?_
            refine WX.keep [(2, _), (3, _)] ⟨rfl, rfl, trivial⟩ ?_
            refine WX.meet [(2, _), (3, _)] ⟨rfl, rfl, trivial⟩ ?_
            first
              | (have e : nubA l (topv (.c f ks)) = l := rfl; rw [e]; exact ⟨G, _, _, hU, by omega, fun k hk => ⟨by have := hG k hk; omega, .inl hk⟩, ho, hob, hwb, hB1, hr, hks, rfl⟩)
              | (rw [hnub]; exact ⟨G, _, _, hU, by omega, fun k hk => ⟨by have := hG k hk; omega, .inl hk⟩, ho, hob, hwb, hB1, hr, hks, rfl⟩)
              | (rw [hnub, List.length_append, List.map_append]; exact ⟨_, _, _, hU, by omega, fun k hk => (by rcases hk with hk | hk; have := hG k hk; exact ⟨by omega, .inl hk⟩; exact ⟨by omega, .inr (by omega)⟩), ho, hob, hwb, hB1, hr, hks, rfl⟩)
         · try (exfalso; first | (simp at hc1; done) | (simp only [decide_eq_true_eq, decide_eq_false_iff_not, Bool.not_eq_true', Bool.not_eq_false', Bool.not_eq_true, Bool.not_eq_false] at hc1; omega) | omega)
           all_goals
            try simp only [decide_eq_true_eq, decide_eq_false_iff_not, Bool.not_eq_true', Bool.not_eq_false', Bool.not_eq_true, Bool.not_eq_false, Option.isNone_none, Option.isNone_some, Option.isSome_none, Option.isSome_some, ne_eq, Decidable.not_not] at hc1
            first
              | (have hx : x ∈ l := by simpa using hc1
                 have hnub : nubA l (topv (.v x)) = l := by show nubA l [x] = _; rw [nubA_cons, if_pos hx]; rfl)
              | skip
            refine WC.skip ?_
            refine WX.meet [(2, _), (3, _)] ⟨rfl, rfl, trivial⟩ ?_
            first
              | (have e : nubA l (topv (.c f ks)) = l := rfl; rw [e]; exact ⟨G, _, _, hU, by omega, fun k hk => ⟨by have := hG k hk; omega, .inl hk⟩, ho, hob, hwb, hB1, hr, hks, rfl⟩)
              | (rw [hnub]; exact ⟨G, _, _, hU, by omega, fun k hk => ⟨by have := hG k hk; omega, .inl hk⟩, ho, hob, hwb, hB1, hr, hks, rfl⟩)
              | (rw [hnub, List.length_append, List.map_append]; exact ⟨_, _, _, hU, by omega, fun k hk => (by rcases hk with hk | hk; have := hG k hk; exact ⟨by omega, .inl hk⟩; exact ⟨by omega, .inr (by omega)⟩), ho, hob, hwb, hB1, hr, hks, rfl⟩)
      · try (exfalso; first | (simp at hb1_3; done) | (simp only [decide_eq_true_eq, decide_eq_false_iff_not, Bool.not_eq_true', Bool.not_eq_false', Bool.not_eq_true, Bool.not_eq_false] at hb1_3; omega) | omega)
        all_goals
         try simp only [decide_eq_true_eq, decide_eq_false_iff_not, Bool.not_eq_true', Bool.not_eq_false', Bool.not_eq_true, Bool.not_eq_false, Option.isNone_none, Option.isNone_some, Option.isSome_none, Option.isSome_some, ne_eq, Decidable.not_not] at hb1_3
         obtain ⟨f, ks, rfl⟩ := nm_c hb1_3
         refine WL.skip rfl rfl rfl ?_
         refine WL.skip rfl rfl rfl ?_
         refine WL.skip rfl rfl rfl ?_
         refine WL.skip rfl rfl rfl ?_
         refine WL.skip rfl rfl rfl ?_
         refine WL.val rfl rfl rfl rfl (r_pickF rfl (ev_t rfl) ev_c) ?_
         refine WL.nil ?_
         refine WX.keep [(1, _), (2, _), (3, _), (15, _)] ⟨rfl, rfl, rfl, rfl, trivial⟩ ?_
         refine WX.next ?_
         refine WC.cond_false rfl (ev_t rfl) ?_
         refine WC.skip ?_
         refine WX.meet [(2, _), (3, _)] ⟨rfl, rfl, trivial⟩ ?_
         first
           | (have e : nubA l (topv (.c f ks)) = l := rfl; rw [e]; exact ⟨G, _, _, hU, by omega, fun k hk => ⟨by have := hG k hk; omega, .inl hk⟩, ho, hob, hwb, hB1, hr, hks, rfl⟩)
           | (rw [hnub]; exact ⟨G, _, _, hU, by omega, fun k hk => ⟨by have := hG k hk; omega, .inl hk⟩, ho, hob, hwb, hB1, hr, hks, rfl⟩)
           | (rw [hnub, List.length_append, List.map_append]; exact ⟨_, _, _, hU, by omega, fun k hk => (by rcases hk with hk | hk; have := hG k hk; exact ⟨by omega, .inl hk⟩; exact ⟨by omega, .inr (by omega)⟩), ho, hob, hwb, hB1, hr, hks, rfl⟩)
    · clear hU hr hks ho hob hwb hB1
      rintro E wA ⟨G1, A1, c1, hU, hsz1, hG1, ho, hob, hwb, hB1, hr, hks, rfl⟩
      refine WC.seq ?_
      refine WC.region ?_
      first | refine WL.val rfl rfl rfl rfl (r_field0 rfl (ev_t rfl) fld_28_2) ?_ | refine WL.val rfl rfl rfl rfl (r_fieldAt rfl (ev_t rfl) fld_28_2) ?_
      refine WL.val rfl rfl rfl rfl (r_load rfl (ev_t rfl) flat_26 (Blk.cell hB1 rfl)) ?_
      refine WL.val rfl rfl rfl rfl (r_lenSlice (ts := #[]) rfl (ev_t rfl) elem_26) ?_
      refine WL.val rfl rfl rfl rfl (r_move rfl ev_c) ?_
      refine WL.nil ?_
      refine WX.keep [(2, _), (22, _), (23, _), (24, _)] ⟨rfl, rfl, rfl, rfl, trivial⟩ ?_
      refine WX.next ?_
      refine WC.block ?_
      -- loop 1: live [2, 22, 23, 24]
      refine WC.keep [(2, _), (22, _), (23, _), (24, _)] ⟨rfl, rfl, rfl, rfl, trivial⟩ ?_
      refine WC.loop (fun q E wB => ∃ (i : Nat) (G1 : Nat → Prop) (A1 : Option Addr) (c1 : Nat) (lc : List Int), i ≤ t.kids.length ∧ q = t.kids.length - i ∧ lc = nubA l (topv t ++ ((t.kids.take i).map vars).flatten) ∧ Upd (fun k => k = bo ∨ G k) w wB ∧ w.heap.size < wB.heap.size ∧ (∀ k, G1 k → (B ≤ k ∧ k < wB.heap.size ∧ k ≠ w.heap.size ∧ k ≠ bo ∧ k ≠ bw) ∧ (G k ∨ w.heap.size ≤ k)) ∧ Own wB G1 3 1 (.slice A1 lc.length c1) lc.length (lc.map I6) ∧ Blk wB bo #[.slice A1 lc.length c1] 33 ∧ Blk wB bw #[vwF bo bw] 73 ∧   Rd wB F (.slice A0 t.kids.length k0) t.kids.length 3 (xk.flatMap c3) ∧ TVs wB F xk t.kids ∧   E = [(2, .pointer (some ⟨bw, 0, none⟩)), (22, .slice A0 t.kids.length k0), (23, .int .i64 (t.kids.length : Int)), (24, .int .i64 (i : Int))]) (t.kids.length) ?_ ?_
      · exact ⟨0, G1, A1, c1, _, by omega, by omega, by rw [List.take_zero]; simp, hU, hsz1, hG1, ho, hob, hwb, hr, hks, rfl⟩
      · clear hU hr hks ho hob hwb hB1 hG1
        rintro q E wB ⟨i, G1, A1, c1, lc, hi, rfl, hlc, hU, hsz1, hG1, ho, hob, hwb, hr, hks, rfl⟩
        refine WC.seq ?_
        refine WC.region ?_
        refine WL.val rfl rfl rfl rfl (r_lss rfl (ev_t rfl) (ev_t rfl)) ?_
        refine WL.nil ?_
        refine WX.keep [(2, _), (22, _), (23, _), (24, _), (25, _)] ⟨rfl, rfl, rfl, rfl, rfl, trivial⟩ ?_
        refine WX.next ?_
        refine WC.seq ?_
        refine WC.cond rfl (ev_t rfl) (fun hc4 => ?_) (fun hc4 => ?_)
        · try (exfalso; first | (simp at hc4; done) | (simp only [decide_eq_true_eq, decide_eq_false_iff_not, Bool.not_eq_true', Bool.not_eq_false', Bool.not_eq_true, Bool.not_eq_false] at hc4; omega) | omega)
          all_goals
           try simp only [decide_eq_true_eq, decide_eq_false_iff_not, Bool.not_eq_true', Bool.not_eq_false', Bool.not_eq_true, Bool.not_eq_false, Option.isNone_none, Option.isNone_some, Option.isSome_none, Option.isSome_some, ne_eq, Decidable.not_not] at hc4
           have hi' : i < t.kids.length := by omega
           obtain ⟨b0, off, rfl, _⟩ := hr.open (by omega)
           have hki : t.kids[i]? = some t.kids[i] := List.getElem?_eq_getElem hi'
           have hfs := take_flat_succ hi'
           have hfl := flat_len_le hi'
           have hkz : sz t.kids[i] < sz t := by
             cases t with
             | v x => simp [Ty.kids] at hi'
             | c f ks => exact sz_kid (List.getElem_mem hi')
           generalize t.kids[i] = kk at *
           obtain ⟨⟨ca, cb, cc⟩, hxi, htk⟩ := hks.get hki
           have hnl := (nubA_len (topv t ++ ((t.kids.take i).map vars).flatten) l).2
           rw [← hlc] at hnl
           have hvl : (vars t).length = (topv t).length + ((t.kids.map vars).flatten).length := by rw [hvt, List.length_append]
           rw [List.length_append] at hnl
           obtain ⟨m3, A3, k3, xk3, rfl, rfl, rfl, _⟩ := htk.open
           refine WC.skip ?_
           refine WX.next ?_
           refine WC.seq ?_
           refine WC.block ?_
           refine WC.seq ?_
           refine WC.region ?_
           refine WL.val rfl rfl rfl rfl (r_indexAddr rfl (ev_t rfl) (ev_t rfl) elem_26 size_28 (by omega) (by omega)) ?_
           refine WL.val rfl rfl rfl rfl (r_loadAgg (vs := [_, _, _]) rfl (ev_t rfl) agg_28 size_28 (kid_cells hr hxi rfl)) ?_
           skip
           refine WL.cons (SO.alloc rfl rfl rfl rfl (r_alloc rfl zero_28) ?_)
           intro w6 hu6 hB6 hz6
           have hs6 := hu6.size
           replace hU := hU.trans hu6 (by first | exact (fun _ _ h => h) | exact (fun _ _ h => h.elim) | (intro k hl hk; (try simp only [At, New, Grow, From, No] at hk ⊢); omega) | (intro k hl hk; first | exact (show False from hk).elim | exact .inr hk | (simp only [At] at hk; subst hk; first | exact .inl rfl | (exfalso; omega)) | (rcases hk with hk | hk; exact .inl hk; have h9 := (hG1 k hk).2; rcases h9 with h | h; exact .inr h; (exfalso; omega))))
           replace hr := hr.upd hu6 (fun k hk hl hS => by have := hFB k hk; first | exact (show False from hS).elim | (simp only [At] at hS; omega) | (have := hG k hS; omega) | (have := hG1 k hS; omega) | (rcases hS with hS | hS; omega; have := hG1 k hS; omega))
           replace hks := hks.upd hu6 (fun k hk hl hS => by have := hFB k hk; first | exact (show False from hS).elim | (simp only [At] at hS; omega) | (have := hG k hS; omega) | (have := hG1 k hS; omega) | (rcases hS with hS | hS; omega; have := hG1 k hS; omega))
           replace ho := ho.upd hu6 (fun k hk hl hS => by first | exact (show False from hS).elim | (simp only [At] at hS; have := hG k hk; omega) | (simp only [At] at hS; rcases hk with hk | hk; have := hG k hk; omega; omega) | (simp only [At] at hS; have := hG1 k hk; omega))
           replace hob := hob.upd hu6 (by first | exact (fun h => h) | (simp only [At]; omega) | (intro hS; have := hG _ hS; omega) | (intro hS; have := hG1 _ hS; omega) | (intro hS; rcases hS with hS | hS; omega; have := hG1 _ hS; omega))
           replace hwb := hwb.upd hu6 (by first | exact (fun h => h) | (simp only [At]; omega) | (intro hS; have := hG _ hS; omega) | (intro hS; have := hG1 _ hS; omega) | (intro hS; rcases hS with hS | hS; omega; have := hG1 _ hS; omega))
           replace htk := htk.upd hu6 (fun k hk hl hS => by have := hFB k hk; first | exact (show False from hS).elim | (simp only [At] at hS; omega) | (have := hG k hS; omega) | (have := hG1 k hS; omega) | (rcases hS with hS | hS; omega; have := hG1 k hS; omega))
           refine WL.cons (SO.storeAll (us := [_, _, _]) rfl (ev_t rfl) (ev_t rfl) size_28 hB6 rfl rfl rfl rfl rfl ?_)
           intro w7 hu7 hB6 hz7
           have hs7 := hu7.size
           replace hU := hU.trans hu7 (by first | exact (fun _ _ h => h) | exact (fun _ _ h => h.elim) | (intro k hl hk; (try simp only [At, New, Grow, From, No] at hk ⊢); omega) | (intro k hl hk; first | exact (show False from hk).elim | exact .inr hk | (simp only [At] at hk; subst hk; first | exact .inl rfl | (exfalso; omega)) | (rcases hk with hk | hk; exact .inl hk; have h9 := (hG1 k hk).2; rcases h9 with h | h; exact .inr h; (exfalso; omega))))
           replace hr := hr.upd hu7 (fun k hk hl hS => by have := hFB k hk; first | exact (show False from hS).elim | (simp only [At] at hS; omega) | (have := hG k hS; omega) | (have := hG1 k hS; omega) | (rcases hS with hS | hS; omega; have := hG1 k hS; omega))
           replace hks := hks.upd hu7 (fun k hk hl hS => by have := hFB k hk; first | exact (show False from hS).elim | (simp only [At] at hS; omega) | (have := hG k hS; omega) | (have := hG1 k hS; omega) | (rcases hS with hS | hS; omega; have := hG1 k hS; omega))
           replace ho := ho.upd hu7 (fun k hk hl hS => by first | exact (show False from hS).elim | (simp only [At] at hS; have := hG k hk; omega) | (simp only [At] at hS; rcases hk with hk | hk; have := hG k hk; omega; omega) | (simp only [At] at hS; have := hG1 k hk; omega))
           replace hob := hob.upd hu7 (by first | exact (fun h => h) | (simp only [At]; omega) | (intro hS; have := hG _ hS; omega) | (intro hS; have := hG1 _ hS; omega) | (intro hS; rcases hS with hS | hS; omega; have := hG1 _ hS; omega))
           replace hwb := hwb.upd hu7 (by first | exact (fun h => h) | (simp only [At]; omega) | (intro hS; have := hG _ hS; omega) | (intro hS; have := hG1 _ hS; omega) | (intro hS; rcases hS with hS | hS; omega; have := hG1 _ hS; omega))
           replace htk := htk.upd hu7 (fun k hk hl hS => by have := hFB k hk; first | exact (show False from hS).elim | (simp only [At] at hS; omega) | (have := hG k hS; omega) | (have := hG1 k hS; omega) | (rcases hS with hS | hS; omega; have := hG1 k hS; omega))
           refine WL.nil ?_
           refine WX.keep [(2, _), (5, _), (22, _), (23, _), (24, _)] ⟨rfl, rfl, rfl, rfl, rfl, trivial⟩ ?_
           refine WX.next ?_
           refine WC.region ?_
           refine WL.val rfl rfl rfl rfl (r_load rfl (ev_t rfl) flat_73 (Blk.cell hwb rfl)) ?_
           refine WL.val rfl rfl rfl rfl (r_loadAgg (vs := [_, _, _]) rfl (ev_t rfl) agg_28 size_28 (Blk.cellsL hB6)) ?_
           refine WL.cons (SO.callV (vs := [_]) rfl (ev_t rfl) body_49 ⟨(ev_t rfl), trivial⟩ rfl (ih G1 _ lc A1 c1 _ _ _ kk (by omega) ho hob hwb htk (fun k hk => by have := hG1 k hk; omega) (by omega)) rfl rfl rfl rfl ?_)
           rintro v w8 ⟨A5, c5, ho5, hob5, hu8⟩
           have hs8 := hu8.size
           replace hU := hU.trans hu8 (by first | exact (fun _ _ h => h) | exact (fun _ _ h => h.elim) | (intro k hl hk; (try simp only [At, New, Grow, From, No] at hk ⊢); omega) | (intro k hl hk; first | exact (show False from hk).elim | exact .inr hk | (simp only [At] at hk; subst hk; first | exact .inl rfl | (exfalso; omega)) | (rcases hk with hk | hk; exact .inl hk; have h9 := (hG1 k hk).2; rcases h9 with h | h; exact .inr h; (exfalso; omega))))
           replace hr := hr.upd hu8 (fun k hk hl hS => by have := hFB k hk; first | exact (show False from hS).elim | (simp only [At] at hS; omega) | (have := hG k hS; omega) | (have := hG1 k hS; omega) | (rcases hS with hS | hS; omega; have := hG1 k hS; omega))
           replace hks := hks.upd hu8 (fun k hk hl hS => by have := hFB k hk; first | exact (show False from hS).elim | (simp only [At] at hS; omega) | (have := hG k hS; omega) | (have := hG1 k hS; omega) | (rcases hS with hS | hS; omega; have := hG1 k hS; omega))
           replace hwb := hwb.upd hu8 (by first | exact (fun h => h) | (simp only [At]; omega) | (intro hS; have := hG _ hS; omega) | (intro hS; have := hG1 _ hS; omega) | (intro hS; rcases hS with hS | hS; omega; have := hG1 _ hS; omega))
           replace htk := htk.upd hu8 (fun k hk hl hS => by have := hFB k hk; first | exact (show False from hS).elim | (simp only [At] at hS; omega) | (have := hG k hS; omega) | (have := hG1 k hS; omega) | (rcases hS with hS | hS; omega; have := hG1 k hS; omega))
           refine WL.nil ?_
           refine WX.keep [(2, _), (22, _), (23, _), (24, _)] ⟨rfl, rfl, rfl, rfl, trivial⟩ ?_
           refine WX.blockNormal ?_
           refine WX.next ?_
           refine WC.region ?_
           first | refine WL.val rfl rfl rfl rfl (r_addN rfl (ev_t rfl) ev_c (by simp only [inK]; omega)) ?_ | refine WL.val rfl rfl rfl rfl (r_add rfl (ev_t rfl) ev_c) ?_
           refine WL.val rfl rfl rfl rfl (r_move rfl (ev_t rfl)) ?_
           refine WL.nil ?_
           refine WX.keep [(2, _), (22, _), (23, _), (24, _)] ⟨rfl, rfl, rfl, rfl, trivial⟩ ?_
           refine WX.meet [(2, _), (22, _), (23, _), (24, _)] ⟨rfl, rfl, rfl, rfl, trivial⟩ ?_
           refine ⟨t.kids.length - (i + 1), by omega, i + 1, _, A5, c5, nubA lc (vars kk), by omega, rfl, ?_, hU, by omega, fun k hk => ?_, ho5, hob5, hwb, hr, hks, by simp⟩
           · rw [hfs, ← List.append_assoc, nubA_append, ← hlc]
           · rcases hk with hk | hk
             · have := hG1 k hk; exact ⟨by omega, this.2⟩
             · exact ⟨by omega, .inr (by omega)⟩
        · try (exfalso; first | (simp at hc4; done) | (simp only [decide_eq_true_eq, decide_eq_false_iff_not, Bool.not_eq_true', Bool.not_eq_false', Bool.not_eq_true, Bool.not_eq_false] at hc4; omega) | omega)
          all_goals
           try simp only [decide_eq_true_eq, decide_eq_false_iff_not, Bool.not_eq_true', Bool.not_eq_false', Bool.not_eq_true, Bool.not_eq_false, Option.isNone_none, Option.isNone_some, Option.isSome_none, Option.isSome_some, ne_eq, Decidable.not_not] at hc4
           refine WC.exit ?_
           refine WX.thenExit ?_
           refine WX.thenExit ?_
           refine WX.blockHere ?_
           refine WX.endE (l := []) (vs := []) rfl trivial ?_
           obtain rfl : i = t.kids.length := by omega
           rw [List.take_length, ← hvt] at hlc
           subst hlc
           refine ⟨A1, c1, ho.mono fun k hk => ?_, hob, hU⟩
           have := hG1 k hk
           rcases this.2 with h | h
           · exact .inl h
           · exact .inr ⟨h, by omega⟩

theorem tvars_ok {F : Nat → Prop} {w : World} {a1 a2 a3 : Value} {t : Ty} (ht : TV w F (a1, a2, a3) t) (hlen : (vars t).length ≤ 1000000) :
    Ret Try.prog 39 #[.agg #[a1, a2, a3]] w fun v w' => ∃ A c, v = .slice A (varsOf t).length c ∧ Own w' (New w w') 3 1 (.slice A (varsOf t).length c) (varsOf t).length ((varsOf t).map I6) ∧ Upd No w w' := by
  replace ht := ht.bound
  obtain ⟨m, A0, k0, xk, rfl, rfl, rfl, hm, _⟩ := ht.open
  refine enterRet (vs := [_]) (N := 10) Try.func39 rfl rfl rfl ?_
  have hU := Upd.refl No w
  refine WC.keep [(0, _)] ⟨rfl, trivial⟩ ?_
  refine WC.seq ?_
  refine WC.region ?_
  refine WL.cons (SO.alloc rfl rfl rfl rfl (r_boxAgg rfl (ev_t rfl)) ?_)
  intro w1 hu1 hB1 hz1
  have hs1 := hu1.size
  replace hU := hU.trans hu1 (by first | exact (fun _ _ h => h) | exact (fun _ _ h => h.elim) | (intro k hl hk; (try simp only [At, New, Grow, From, No] at hk ⊢); omega) | (intro k hl hk; rcases hk with hk | hk <;> first | exact hk.elim | omega))
  refine WL.val rfl rfl rfl rfl (r_assign rfl ev_c) ?_
  refine WL.nil ?_
  refine WX.keep [(1, _)] ⟨rfl, trivial⟩ ?_
  refine WX.next ?_
  refine WC.seq ?_
  refine WC.region ?_
  refine WL.cons (SO.alloc rfl rfl rfl rfl (r_alloc rfl zero_33) ?_)
  intro w2 hu2 hB2 hz2
  have hs2 := hu2.size
  replace hU := hU.trans hu2 (by first | exact (fun _ _ h => h) | exact (fun _ _ h => h.elim) | (intro k hl hk; (try simp only [At, New, Grow, From, No] at hk ⊢); omega) | (intro k hl hk; rcases hk with hk | hk <;> first | exact hk.elim | omega))
  replace hB1 := hB1.updA hu2
  refine WL.nil ?_
  refine WX.keep [(1, _), (3, _)] ⟨rfl, rfl, trivial⟩ ?_
  refine WX.next ?_
  refine WC.seq ?_
  refine WC.region ?_
  refine WL.cons (SO.alloc rfl rfl rfl rfl (r_alloc rfl zero_73) ?_)
  intro w3 hu3 hB3 hz3
  have hs3 := hu3.size
  replace hU := hU.trans hu3 (by first | exact (fun _ _ h => h) | exact (fun _ _ h => h.elim) | (intro k hl hk; (try simp only [At, New, Grow, From, No] at hk ⊢); omega) | (intro k hl hk; rcases hk with hk | hk <;> first | exact hk.elim | omega))
  replace hB1 := hB1.updA hu3
  replace hB2 := hB2.updA hu3
  refine WL.nil ?_
  refine WX.keep [(1, _), (3, _), (4, _)] ⟨rfl, rfl, rfl, trivial⟩ ?_
  refine WX.next ?_
  refine WC.seq ?_
  refine WC.region ?_
  refine WL.val rfl rfl rfl rfl (r_makeFunc (vs := []) (us := [_, _]) rfl trivial ⟨(ev_t rfl), (ev_t rfl), trivial⟩) ?_
  refine WL.cons (SO.store rfl (ev_t rfl) (ev_t rfl) size_73 hB3 rfl rfl rfl rfl rfl ?_)
  intro w4 hu4 hB3 hz4
  have hs4 := hu4.size
  replace hU := hU.trans hu4 (by first | exact (fun _ _ h => h) | exact (fun _ _ h => h.elim) | (intro k hl hk; (try simp only [At, New, Grow, From, No] at hk ⊢); omega) | (intro k hl hk; rcases hk with hk | hk <;> first | exact hk.elim | omega))
  replace hB1 := hB1.updA hu4
  replace hB2 := hB2.updA hu4
  refine WL.nil ?_
  refine WX.keep [(1, _), (3, _), (4, _)] ⟨rfl, rfl, rfl, trivial⟩ ?_
  refine WX.next ?_
  refine WC.seq ?_
  refine WC.region ?_
  refine WL.val rfl rfl rfl rfl (r_load rfl (ev_t rfl) flat_73 (Blk.cell hB3 rfl)) ?_
  refine WL.val rfl rfl rfl rfl (r_loadAgg (vs := [_, _, _]) rfl (ev_t rfl) agg_28 size_28 (Blk.cellsL hB1)) ?_
  refine WL.cons (SO.callV (vs := [_]) rfl (ev_t rfl) body_49 ⟨(ev_t rfl), trivial⟩ rfl (walkV_ok (B := w.heap.size) (F := fun k => F k ∧ k < w.heap.size) (fun k hk => hk.2) (by omega) (by omega) (by omega) _ (fun _ => False) _ [] none 0 _ _ _ t (Nat.le_refl _) (Own.nil _ _ _ _) hB2 hB3 (ht.upd hU (fun _ _ _ h => h)) (fun k h => h.elim) (by simp only [List.length_nil]; omega)) rfl rfl rfl rfl ?_)
  rintro v w5 ⟨A, c, ho, hob, hu5⟩
  have hs5 := hu5.size
  replace hU := hU.trans hu5 (by first | exact (fun _ _ h => h) | exact (fun _ _ h => h.elim) | (intro k hl hk; (try simp only [At, New, Grow, From, No] at hk ⊢); omega) | (intro k hl hk; rcases hk with hk | hk <;> first | exact hk.elim | omega))
  refine WL.nil ?_
  refine WX.keep [(3, _)] ⟨rfl, trivial⟩ ?_
  refine WX.next ?_
  refine WC.seq ?_
  refine WC.region ?_
  refine WL.val rfl rfl rfl rfl (r_load rfl (ev_t rfl) flat_33 (Blk.cell hob rfl)) ?_
  refine WL.val rfl rfl rfl rfl (r_assign rfl (ev_t rfl)) ?_
  refine WL.nil ?_
  refine WX.keep [(2, _)] ⟨rfl, trivial⟩ ?_
  refine WX.next ?_
  refine WC.ret ?_
  refine WX.retE1 rfl rfl ?_
  exact ⟨A, c, rfl, ho.mono fun k hk => by rcases hk with hk | hk; exact hk.elim; exact ⟨by omega, by omega⟩, hU⟩
end Go.Proofs.Ytncakfcafkfmfaa
