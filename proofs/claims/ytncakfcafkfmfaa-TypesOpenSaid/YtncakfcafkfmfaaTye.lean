/-
  types: Free's closure, and Free.
-/
import Derived.Test.YtncakfcafkfmfaaTyd
namespace Go.Proofs.Ytncakfcafkfmfaa
open Go
set_option linter.unusedSimpArgs false
set_option linter.unusedVariables false

theorem frL_cons {f : Ty → FrS → Option FrS} {ks : List Ty} {i : Nat} {k : Ty} {s s' : FrS} (hk : ks[i]? = some k) (h : frL f (ks.drop i) s = some s') : ∃ s1, f k s = some s1 ∧ frL f (ks.drop (i + 1)) s1 = some s' := by
  have hi : i < ks.length := (List.getElem?_eq_some_iff.1 hk).1
  rw [List.drop_eq_getElem_cons hi] at h
  rw [List.getElem?_eq_getElem hi] at hk
  injection hk with hk
  rw [hk] at h
  simp only [frL] at h
  cases h1 : f k s with
  | none => rw [h1] at h; cases h
  | some s1 => exact ⟨s1, rfl, by rw [h1] at h; exact h⟩

set_option maxHeartbeats 4000000 in
theorem walkF_ok {F : Nat → Prop} {p m1 m2 : Nat} {σ : Sg} {D : Dn} {nn : Int} {xs : List C3} {B bs bp bw ms bo : Nat} : ∀ (n : Nat) (w : World) (G : Nat → Prop) (a b c : Value) (t : Ty) (s s' : FrS), frF σ n t s = some s' → s'.1.length ≤ 1000000000 →
    FrC w F p m1 m2 σ D nn xs B bs bp bw ms bo → FrM w G ms bo s → (∀ k, G k → B ≤ k ∧ k < w.heap.size) → TV w F (a, b, c) t →
    Ret Try.prog 46 #[.agg #[a, b, c], .pointer (some ⟨bs, 0, none⟩), .pointer (some ⟨bp, 0, none⟩), .pointer (some ⟨bw, 0, none⟩), .pointer (some ⟨bo, 0, none⟩)] w fun _ w' => FrM w' (Grow G w w') ms bo s' ∧ Upd (SG G ms bo) w w' := by
  intro n
  induction n with
  | zero => intro w G a b c t s s' h; simp [frF] at h
  | succ n ih =>
    intro w G a b c t s s' hf hlen hC hM hG ht
    obtain ⟨hb1, hb2, hb3, hb4⟩ := hC.b
    obtain ⟨m, A0, k0, xk, rfl, rfl, rfl, hm, hr, hl, hb, hk⟩ := ht.open
    have hks : TVs w F xk t.kids := ⟨hl, hk⟩
    obtain ⟨hmp, A9, c9, hbo, ho⟩ := hM
    refine enterRet (vs := [_, _, _, _, _]) (N := 53) Try.func46 rfl rfl rfl ?_
    have hU := Upd.refl (SG G ms bo) w
    refine WC.keep [(0, _), (1, _), (2, _), (3, _), (4, _)] ⟨rfl, rfl, rfl, rfl, rfl, trivial⟩ ?_
    refine WC.seq ?_
    refine WC.region ?_
    refine WL.cons (SO.alloc rfl rfl rfl rfl (r_boxAgg rfl (ev_t rfl)) ?_)
    intro w1 hu1 hB1 hz1
    have hs1 := hu1.size
    replace hU := hU.trans hu1 (by exact (fun _ _ h => h.elim))
    replace hC := hC.upd hu1 (fun k hS hl => by exact (show False from hS).elim)
    replace hmp := hmp.upd hu1 (fun hS => by exact (show False from hS))
    replace hbo := hbo.upd hu1 (fun hS => by exact (show False from hS))
    replace ho := ho.upd hu1 (fun k hk hl hS => by exact (show False from hS).elim)
    replace hr := hr.upd hu1 (hC.tv (fun k hS => (by exact (show False from hS).elim)))
    replace hks := hks.upd hu1 (hC.tv (fun k hS => (by exact (show False from hS).elim)))
    refine WL.nil ?_
    refine WX.keep [(1, _), (2, _), (3, _), (4, _), (5, _)] ⟨rfl, rfl, rfl, rfl, rfl, trivial⟩ ?_
    refine WX.next ?_
    -- cut 1: live [3, 5]
    refine WC.cut (fun E w9 => ∃ (s1 : FrS) (G1 : Nat → Prop), Upd (SG G ms bo) w w9 ∧ w.heap.size < w9.heap.size ∧ Blk w9 w.heap.size #[.string ⟨t.nm.toArray⟩, .int .i64 m, .slice A0 t.kids.length k0] typ ∧ frL (frF σ n) t.kids s1 = some s' ∧ FrC w9 F p m1 m2 σ D nn xs B bs bp bw ms bo ∧ FrM w9 G1 ms bo s1 ∧ (∀ k, G1 k → B ≤ k ∧ k < w9.heap.size ∧ (G k ∨ w.heap.size ≤ k)) ∧ Rd w9 F (.slice A0 t.kids.length k0) t.kids.length 3 (xk.flatMap c3) ∧ TVs w9 F xk t.kids ∧   E = [(3, .pointer (some ⟨bw, 0, none⟩)), (5, .pointer (some ⟨w.heap.size, 0, none⟩))]) ?_ ?_
    · refine WC.seq ?_
      refine WC.region ?_
      first | refine WL.val rfl rfl rfl rfl (r_field0 rfl (ev_t rfl) fld_28_0) ?_ | refine WL.val rfl rfl rfl rfl (r_fieldAt rfl (ev_t rfl) fld_28_0) ?_
      refine WL.val rfl rfl rfl rfl (r_load rfl (ev_t rfl) flat_9 (Blk.cell hB1 rfl)) ?_
      refine WL.val rfl rfl rfl rfl (r_eqlStrL rfl (ev_t rfl) ev_c) ?_
      refine WL.val rfl rfl rfl rfl (r_move rfl (ev_t rfl)) ?_
      refine WL.cases 13 rfl (fun hb1_3 => ?_) (fun hb1_3 => ?_)
      · try (exfalso; first | (simp at hb1_3; done) | (simp only [decide_eq_true_eq, decide_eq_false_iff_not, Bool.not_eq_true', Bool.not_eq_false', Bool.not_eq_true, Bool.not_eq_false] at hb1_3; omega) | omega)
        all_goals
         try simp only [decide_eq_true_eq, decide_eq_false_iff_not, Bool.not_eq_true', Bool.not_eq_false', Bool.not_eq_true, Bool.not_eq_false, Option.isNone_none, Option.isNone_some, Option.isSome_none, Option.isSome_some, ne_eq, Decidable.not_not] at hb1_3
         obtain ⟨x, rfl⟩ := Ty.nm_nil.1 hb1_3
         obtain rfl := (hm x rfl).symm
         simp only [frF] at hf
         refine WL.val rfl rfl rfl rfl (r_load rfl (ev_t rfl) flat_72 (Blk.cell hC.sv rfl)) ?_
         first | refine WL.val rfl rfl rfl rfl (r_field0 rfl (ev_t rfl) fld_28_1) ?_ | refine WL.val rfl rfl rfl rfl (r_fieldAt rfl (ev_t rfl) fld_28_1) ?_
         refine WL.val rfl rfl rfl rfl (r_load rfl (ev_t rfl) flat_3 (Blk.cell hB1 rfl)) ?_
         refine WL.val rfl rfl rfl rfl (r_lookupW keyI hmp (seen_val _ _) rfl (ev_t rfl) (ev_t rfl) map_72 zero_4) ?_
         refine WL.val rfl rfl rfl rfl (r_not rfl (ev_t rfl)) ?_
         refine WL.val rfl rfl rfl rfl (r_pickT rfl (ev_t rfl) (ev_t rfl)) ?_
         refine WL.nil ?_
         refine WX.keep [(1, _), (2, _), (3, _), (4, _), (5, _), (19, _)] ⟨rfl, rfl, rfl, rfl, rfl, rfl, trivial⟩ ?_
         refine WX.next ?_
         refine WC.cond rfl (ev_t rfl) (fun hc1 => ?_) (fun hc1 => ?_)
         · try (exfalso; first | (simp at hc1; done) | (simp only [decide_eq_true_eq, decide_eq_false_iff_not, Bool.not_eq_true', Bool.not_eq_false', Bool.not_eq_true, Bool.not_eq_false] at hc1; omega) | omega)
           all_goals
            try simp only [decide_eq_true_eq, decide_eq_false_iff_not, Bool.not_eq_true', Bool.not_eq_false', Bool.not_eq_true, Bool.not_eq_false, Option.isNone_none, Option.isNone_some, Option.isSome_none, Option.isSome_some, ne_eq, Decidable.not_not] at hc1
            have hx : x ∉ s.2 := by simpa using hc1
            rw [if_neg hx] at hf
            refine WC.seq ?_
            refine WC.region ?_
            refine WL.val rfl rfl rfl rfl (r_load rfl (ev_t rfl) flat_72 (Blk.cell hC.sv rfl)) ?_
            first | refine WL.val rfl rfl rfl rfl (r_field0 rfl (ev_t rfl) fld_28_1) ?_ | refine WL.val rfl rfl rfl rfl (r_fieldAt rfl (ev_t rfl) fld_28_1) ?_
            refine WL.val rfl rfl rfl rfl (r_load rfl (ev_t rfl) flat_3 (Blk.cell hB1 rfl)) ?_
            refine WL.cons (SO.mapNew keyI hmp ((look_seenE _ _).trans (if_neg hx)) rfl (ev_t rfl) (ev_t rfl) ev_c map_72 rfl rfl rfl ?_)
            intro w2 hu2 hmp hz2
            have hs2 := hu2.size
            replace hU := hU.trans hu2 (by (intro k hl hk; first | exact hk | (simp only [At] at hk; subst hk; first | exact .inl rfl | exact .inr (.inl rfl) | (exfalso; omega)) | exact .inr (.inr hk) | (rcases hk with hk | hk | hk; exact .inl hk; exact .inr (.inl hk); rcases (hG1 k hk).2.2 with h | h; exact .inr (.inr h); (exfalso; omega))))
            replace hC := hC.upd hu2 (fun k hS hl => by (simp only [At] at hS; subst hS; first | exact .inl rfl | exact .inr (.inl rfl) | exact .inr (.inr (by omega))))
            replace hbo := hbo.upd hu2 (fun hS => by (simp only [At] at hS; omega))
            replace ho := ho.upd hu2 (fun k hk hl hS => by (simp only [At] at hS; first | (have := hG k hk; omega) | (rcases hk with hk | hk; have := hG k hk; omega; omega)))
            replace hr := hr.upd hu2 (hC.tv (fun k hS => (by (simp only [At] at hS; subst hS; first | exact .inl rfl | exact .inr (.inl rfl) | exact .inr (.inr (by omega))))))
            replace hks := hks.upd hu2 (hC.tv (fun k hS => (by (simp only [At] at hS; subst hS; first | exact .inl rfl | exact .inr (.inl rfl) | exact .inr (.inr (by omega))))))
            replace hB1 := hB1.upd hu2 (fun hS => by (simp only [At] at hS; omega))
            rw [← seenE_snoc] at hmp
            refine WL.nil ?_
            refine WX.keep [(2, _), (3, _), (4, _), (5, _)] ⟨rfl, rfl, rfl, rfl, trivial⟩ ?_
            refine WX.next ?_
            refine WC.seq ?_
            refine WC.draws' (fun u0_ u1_ => Upd No u0_ u1_) (fun j => [0, 0, 0, 0, 0, 0, 0, 0, 0, 0, 1, 2, 0].getD j 0) (.calm 4 (.held 0 (.calm 1 (.calm 2 (.held 3 (.held 5 (.held 6 (.calm 7 (.calm 8 (.calm 9 (.one 10 (.one 11 (.calm 12 (.done)))))))))))))) mixed (by kernel_rfl) (by repeat (first | with_reducible exact Deaf.body | with_reducible apply Deaf.then)) ?_
            intro w3 hu3
            have hz3 := congrArg Array.size hu3.2.2.2
            replace hu3 := Upd.of_draw hu3
            have hs3 := hu3.size
            replace hU := hU.trans hu3 (by exact (fun _ _ h => h.elim))
            replace hC := hC.upd hu3 (fun k hS hl => by exact (show False from hS).elim)
            replace hmp := hmp.upd hu3 (fun hS => by exact (show False from hS))
            replace hbo := hbo.upd hu3 (fun hS => by exact (show False from hS))
            replace ho := ho.upd hu3 (fun k hk hl hS => by exact (show False from hS).elim)
            replace hr := hr.upd hu3 (hC.tv (fun k hS => (by exact (show False from hS).elim)))
            replace hks := hks.upd hu3 (hC.tv (fun k hS => (by exact (show False from hS).elim)))
            replace hB1 := hB1.upd hu3 (fun hS => by exact (show False from hS))
            have hS3 := Upd.refl No w3
            first | refine WN.calm _ rfl rfl rfl rfl rfl (fun _ => r_field0 rfl (ev_t rfl) fld_28_1) ?_ | refine WN.calm _ rfl rfl rfl rfl rfl (fun _ => r_fieldAt rfl (ev_t rfl) fld_28_1) ?_
            obtain ⟨s3, x3, A3, n3, k3, ok, hL⟩ := hC.isS.lookR x
            refine WN.held _ rfl rfl rfl rfl rfl hS3 (fun w' hS => r_load rfl (ev_t rfl) flat_23 (Blk.cell (hC.pv.upd hS (fun h => h)) rfl)) ?_
            refine WN.calm _ rfl rfl rfl rfl rfl (fun _ => r_nilCheck rfl (ev_t rfl)) ?_
            first | refine WN.calm _ rfl rfl rfl rfl rfl (fun _ => r_field0 rfl (ev_t rfl) fld_59_0) ?_ | refine WN.calm _ rfl rfl rfl rfl rfl (fun _ => r_fieldAt rfl (ev_t rfl) fld_59_0) ?_
            refine WN.held _ rfl rfl rfl rfl rfl hS3 (fun w' hS => r_load rfl (ev_t rfl) flat_56 (Blk.cell (hC.isS.hd.upd hS (fun h => h)) rfl)) ?_
            refine WN.held _ rfl rfl rfl rfl rfl hS3 (fun w' hS => r_load rfl (ev_t rfl) flat_3 (Blk.cell (hB1.upd hS (fun h => h)) rfl)) ?_
            refine WN.held _ rfl rfl rfl rfl rfl hS3 (fun w' hS => r_lookupV keyI (hC.isS.of_.upd hS (fun h => h)) hL.val hL.isS rfl (ev_t rfl) (ev_t rfl) map_56 zero_28) ?_
            refine WN.calm _ rfl rfl rfl rfl rfl (fun _ => r_move rfl (ev_t rfl)) ?_
            refine WN.calm _ rfl rfl rfl rfl rfl (fun _ => r_extract rfl (ev_t rfl) rfl) ?_
            refine WN.calm _ rfl rfl rfl rfl rfl (fun _ => r_extract rfl (ev_t rfl) rfl) ?_
            refine WN.step _ rfl (SO.alloc rfl rfl rfl rfl (r_alloc rfl zero_28) ?_)
            intro w4 hu4 hB4 hz4
            have hs4 := hu4.size
            replace hS3 := Upd.transA hS3 hu4
            replace hU := hU.trans hu4 (by exact (fun _ _ h => h.elim))
            replace hC := hC.upd hu4 (fun k hS hl => by exact (show False from hS).elim)
            replace hmp := hmp.upd hu4 (fun hS => by exact (show False from hS))
            replace hbo := hbo.upd hu4 (fun hS => by exact (show False from hS))
            replace ho := ho.upd hu4 (fun k hk hl hS => by exact (show False from hS).elim)
            replace hr := hr.upd hu4 (hC.tv (fun k hS => (by exact (show False from hS).elim)))
            replace hks := hks.upd hu4 (hC.tv (fun k hS => (by exact (show False from hS).elim)))
            replace hB1 := hB1.upd hu4 (fun hS => by exact (show False from hS))
            replace hL := hL.upd hu4 (hC.tv (fun k hS => (by exact (show False from hS).elim)))
            refine ⟨hS3, ?_⟩
            refine WN.step _ rfl (SO.storeAll (us := [_, _, _]) rfl (ev_t rfl) (ev_t rfl) size_28 hB4 rfl rfl rfl rfl rfl ?_)
            intro w5 hu5 hB4 hz5
            have hs5 := hu5.size
            try replace hS3 := Upd.transA hS3 hu5
            replace hU := hU.trans hu5 (by (intro k hl hk; (try simp only [At, New, Grow, From, No] at hk ⊢); omega))
            replace hC := hC.upd hu5 (fun k hS hl => by (simp only [At] at hS; subst hS; first | exact .inl rfl | exact .inr (.inl rfl) | exact .inr (.inr (by omega))))
            replace hmp := hmp.upd hu5 (fun hS => by (simp only [At] at hS; omega))
            replace hbo := hbo.upd hu5 (fun hS => by (simp only [At] at hS; omega))
            replace ho := ho.upd hu5 (fun k hk hl hS => by (simp only [At] at hS; first | (have := hG k hk; omega) | (rcases hk with hk | hk; have := hG k hk; omega; omega)))
            replace hr := hr.upd hu5 (hC.tv (fun k hS => (by (simp only [At] at hS; subst hS; first | exact .inl rfl | exact .inr (.inl rfl) | exact .inr (.inr (by omega))))))
            replace hks := hks.upd hu5 (hC.tv (fun k hS => (by (simp only [At] at hS; subst hS; first | exact .inl rfl | exact .inr (.inl rfl) | exact .inr (.inr (by omega))))))
            replace hB1 := hB1.upd hu5 (fun hS => by (simp only [At] at hS; omega))
            replace hL := hL.upd hu5 (hC.tv (fun k hS => (by (simp only [At] at hS; subst hS; first | exact .inl rfl | exact .inr (.inl rfl) | exact .inr (.inr (by omega))))))
            refine ⟨trivial, ?_⟩
            refine WN.calm _ rfl rfl rfl rfl rfl (fun _ => r_assign rfl (ev_t rfl)) ?_
            refine WN.done ?_
            refine WX.keep [(3, _), (4, _), (5, _), (6, _), (7, _)] ⟨rfl, rfl, rfl, rfl, rfl, trivial⟩ ?_
            refine WX.next ?_
            refine WC.seq ?_
            refine WC.region ?_
            refine WL.val rfl rfl rfl rfl (r_move rfl (ev_t rfl)) ?_
            refine WL.nil ?_
            refine WX.keep [(3, _), (4, _), (5, _), (6, _), (33, _)] ⟨rfl, rfl, rfl, rfl, rfl, trivial⟩ ?_
            refine WX.next ?_
            refine WC.cond rfl (ev_t rfl) (fun hc4 => ?_) (fun hc4 => ?_)
            · try (exfalso; first | (simp at hc4; done) | (simp only [decide_eq_true_eq, decide_eq_false_iff_not, Bool.not_eq_true', Bool.not_eq_false', Bool.not_eq_true, Bool.not_eq_false] at hc4; omega) | omega)
              all_goals
               try simp only [decide_eq_true_eq, decide_eq_false_iff_not, Bool.not_eq_true', Bool.not_eq_false', Bool.not_eq_true, Bool.not_eq_false, Option.isNone_none, Option.isNone_some, Option.isSome_none, Option.isSome_some, ne_eq, Decidable.not_not] at hc4
               obtain ⟨u, hlu, htu⟩ := hL.yes (by simpa using hc4)
               simp only [hlu] at hf
               refine WC.region ?_
               refine WL.val rfl rfl rfl rfl (r_load rfl (ev_t rfl) flat_73 (Blk.cell hC.wv rfl)) ?_
               refine WL.val rfl rfl rfl rfl (r_loadAgg (vs := [_, _, _]) rfl (ev_t rfl) agg_28 size_28 (Blk.cellsL hB4)) ?_
               refine WL.cons (SO.callV (vs := [_]) rfl (ev_t rfl) body_46 ⟨(ev_t rfl), trivial⟩ rfl (ih _ G _ _ _ u (s.1, s.2 ++ [x]) _ hf hlen hC ⟨hmp, A9, c9, hbo, ho⟩ (fun k hk => by have := hG k hk; omega) htu) rfl rfl rfl rfl ?_)
               rintro v w6 ⟨hM, hu6⟩
               have hfl : frL (frF σ n) (Ty.v x).kids s' = some s' := rfl
               clear hmp hbo ho
               have hs6 := hu6.size
               replace hU := hU.trans hu6 (by exact (fun _ _ h => h))
               replace hC := hC.upd hu6 (fun k hS hl => by (rcases hS with hS | hS | hS; exact .inl hS; exact .inr (.inl hS); first | exact .inr (.inr (hG1 k hS).1) | exact .inr (.inr (hG k hS).1)))
               replace hr := hr.upd hu6 (hC.tv (fun k hS => (by (rcases hS with hS | hS | hS; exact .inl hS; exact .inr (.inl hS); first | exact .inr (.inr (hG1 k hS).1) | exact .inr (.inr (hG k hS).1)))))
               replace hks := hks.upd hu6 (hC.tv (fun k hS => (by (rcases hS with hS | hS | hS; exact .inl hS; exact .inr (.inl hS); first | exact .inr (.inr (hG1 k hS).1) | exact .inr (.inr (hG k hS).1)))))
               replace hB1 := hB1.upd hu6 (fun hS => by (rcases hS with hS | hS | hS <;> first | omega | (have := hG1 _ hS; omega) | (have := hG _ hS; omega)))
               refine WL.nil ?_
               refine WX.keep [(3, _), (5, _)] ⟨rfl, rfl, trivial⟩ ?_
               refine WX.meet [(3, _), (5, _)] ⟨rfl, rfl, trivial⟩ ?_
               refine ⟨_, _, hU, by omega, hB1, hfl, hC, hM, fun k hk => ?_, hr, hks, rfl⟩
               first
                 | (have := hG k hk; exact ⟨this.1, by omega, .inl hk⟩)
                 | (rcases hk with hk | hk; have := hG k hk; exact ⟨this.1, by omega, .inl hk⟩; exact ⟨by omega, by omega, .inr (by omega)⟩)
            · try (exfalso; first | (simp at hc4; done) | (simp only [decide_eq_true_eq, decide_eq_false_iff_not, Bool.not_eq_true', Bool.not_eq_false', Bool.not_eq_true, Bool.not_eq_false] at hc4; omega) | omega)
              all_goals
               try simp only [decide_eq_true_eq, decide_eq_false_iff_not, Bool.not_eq_true', Bool.not_eq_false', Bool.not_eq_true, Bool.not_eq_false, Option.isNone_none, Option.isNone_some, Option.isSome_none, Option.isSome_some, ne_eq, Decidable.not_not] at hc4
               have hlu := hL.no (by simpa using hc4)
               simp only [hlu] at hf
               obtain rfl := (Option.some.inj hf).symm
               have hlen2 : s.1.length + 1 ≤ 1000000000 := by simpa using hlen
               refine WC.region ?_
               refine WL.val rfl rfl rfl rfl (r_load rfl (ev_t rfl) flat_33 (Blk.cell hbo rfl)) ?_
               first | refine WL.val rfl rfl rfl rfl (r_field0 rfl (ev_t rfl) fld_28_1) ?_ | refine WL.val rfl rfl rfl rfl (r_fieldAt rfl (ev_t rfl) fld_28_1) ?_
               refine WL.val rfl rfl rfl rfl (r_load rfl (ev_t rfl) flat_3 (Blk.cell hB1 rfl)) ?_
               refine WL.cons (SO.alloc rfl rfl rfl rfl (r_buildSlice1 (vs := [_]) rfl ⟨(ev_t rfl), trivial⟩ rfl row_33 rfl rfl) ?_)
               intro w7 hu7 hB7 hz7
               have hs7 := hu7.size
               replace hU := hU.trans hu7 (by exact (fun _ _ h => h.elim))
               replace hC := hC.upd hu7 (fun k hS hl => by exact (show False from hS).elim)
               replace hmp := hmp.upd hu7 (fun hS => by exact (show False from hS))
               replace hbo := hbo.upd hu7 (fun hS => by exact (show False from hS))
               replace ho := ho.upd hu7 (fun k hk hl hS => by exact (show False from hS).elim)
               replace hr := hr.upd hu7 (hC.tv (fun k hS => (by exact (show False from hS).elim)))
               replace hks := hks.upd hu7 (hC.tv (fun k hS => (by exact (show False from hS).elim)))
               replace hB1 := hB1.upd hu7 (fun hS => by exact (show False from hS))
               replace hL := hL.upd hu7 (hC.tv (fun k hS => (by exact (show False from hS).elim)))
               replace hB4 := hB4.updA hu7
               refine WL.cons (SO.append ho (show Rd _ _ _ 1 1 [Value.int .i64 x] from Rd.of_blk (F := At _) (n := 1) (sz := 1) hB7 rfl rfl (by omega)) row_33 (fun u hu => by simp at hu; subst hu; rfl) (le_maxLen (by omega)) (by omega) rfl (ev_t rfl) (ev_t rfl) rfl rfl rfl rfl ?_)
               intro v8 w8 ho hu8
               have hs8 := hu8.size
               replace hU := hU.trans hu8 (by (intro k hl hk; first | exact hk | (simp only [At] at hk; subst hk; first | exact .inl rfl | exact .inr (.inl rfl) | (exfalso; omega)) | exact .inr (.inr hk) | (rcases hk with hk | hk | hk; exact .inl hk; exact .inr (.inl hk); rcases (hG1 k hk).2.2 with h | h; exact .inr (.inr h); (exfalso; omega))))
               replace hC := hC.upd hu8 (fun k hS hl => by exact .inr (.inr (hG k hS).1))
               replace hmp := hmp.upd hu8 (fun hS => by (have := hG _ hS; omega))
               replace hbo := hbo.upd hu8 (fun hS => by (have := hG _ hS; omega))
               replace hr := hr.upd hu8 (hC.tv (fun k hS => (by exact .inr (.inr (hG k hS).1))))
               replace hks := hks.upd hu8 (hC.tv (fun k hS => (by exact .inr (.inr (hG k hS).1))))
               replace hB1 := hB1.upd hu8 (fun hS => by (have := hG _ hS; omega))
               obtain ⟨A8, c8, rfl, hc8⟩ := Own.form ho
               refine WL.cons (SO.store rfl (ev_t rfl) (ev_t rfl) size_33 hbo rfl rfl rfl rfl rfl ?_)
               intro w9 hu9 hbo hz9
               have hs9 := hu9.size
               replace hU := hU.trans hu9 (by (intro k hl hk; first | exact hk | (simp only [At] at hk; subst hk; first | exact .inl rfl | exact .inr (.inl rfl) | (exfalso; omega)) | exact .inr (.inr hk) | (rcases hk with hk | hk | hk; exact .inl hk; exact .inr (.inl hk); rcases (hG1 k hk).2.2 with h | h; exact .inr (.inr h); (exfalso; omega))))
               replace hC := hC.upd hu9 (fun k hS hl => by (simp only [At] at hS; subst hS; first | exact .inl rfl | exact .inr (.inl rfl) | exact .inr (.inr (by omega))))
               replace hmp := hmp.upd hu9 (fun hS => by (simp only [At] at hS; omega))
               replace ho := ho.upd hu9 (fun k hk hl hS => by (simp only [At] at hS; first | (have := hG k hk; omega) | (rcases hk with hk | hk; have := hG k hk; omega; omega)))
               replace hr := hr.upd hu9 (hC.tv (fun k hS => (by (simp only [At] at hS; subst hS; first | exact .inl rfl | exact .inr (.inl rfl) | exact .inr (.inr (by omega))))))
               replace hks := hks.upd hu9 (hC.tv (fun k hS => (by (simp only [At] at hS; subst hS; first | exact .inl rfl | exact .inr (.inl rfl) | exact .inr (.inr (by omega))))))
               replace hB1 := hB1.upd hu9 (fun hS => by (simp only [At] at hS; omega))
               refine WL.nil ?_
               refine WX.keep [(3, _), (5, _)] ⟨rfl, rfl, trivial⟩ ?_
               have hM := FrM.mk2 hmp hbo ho
               have hfl : frL (frF σ n) (Ty.v x).kids (s.1 ++ [x], s.2 ++ [x]) = some (s.1 ++ [x], s.2 ++ [x]) := rfl
               refine WX.meet [(3, _), (5, _)] ⟨rfl, rfl, trivial⟩ ?_
               refine ⟨_, _, hU, by omega, hB1, hfl, hC, hM, fun k hk => ?_, hr, hks, rfl⟩
               first
                 | (have := hG k hk; exact ⟨this.1, by omega, .inl hk⟩)
                 | (rcases hk with hk | hk; have := hG k hk; exact ⟨this.1, by omega, .inl hk⟩; exact ⟨by omega, by omega, .inr (by omega)⟩)
         · try (exfalso; first | (simp at hc1; done) | (simp only [decide_eq_true_eq, decide_eq_false_iff_not, Bool.not_eq_true', Bool.not_eq_false', Bool.not_eq_true, Bool.not_eq_false] at hc1; omega) | omega)
           all_goals
            try simp only [decide_eq_true_eq, decide_eq_false_iff_not, Bool.not_eq_true', Bool.not_eq_false', Bool.not_eq_true, Bool.not_eq_false, Option.isNone_none, Option.isNone_some, Option.isSome_none, Option.isSome_some, ne_eq, Decidable.not_not] at hc1
            have hx : x ∈ s.2 := by simpa using hc1
            rw [if_pos hx] at hf
            have hfl : frL (frF σ n) (Ty.v x).kids s = some s' := hf
            have hM : FrM w1 G ms bo s := ⟨hmp, A9, c9, hbo, ho⟩
            refine WC.skip ?_
            refine WX.meet [(3, _), (5, _)] ⟨rfl, rfl, trivial⟩ ?_
            refine ⟨_, _, hU, by omega, hB1, hfl, hC, hM, fun k hk => ?_, hr, hks, rfl⟩
            first
              | (have := hG k hk; exact ⟨this.1, by omega, .inl hk⟩)
              | (rcases hk with hk | hk; have := hG k hk; exact ⟨this.1, by omega, .inl hk⟩; exact ⟨by omega, by omega, .inr (by omega)⟩)
      · try (exfalso; first | (simp at hb1_3; done) | (simp only [decide_eq_true_eq, decide_eq_false_iff_not, Bool.not_eq_true', Bool.not_eq_false', Bool.not_eq_true, Bool.not_eq_false] at hb1_3; omega) | omega)
        all_goals
         try simp only [decide_eq_true_eq, decide_eq_false_iff_not, Bool.not_eq_true', Bool.not_eq_false', Bool.not_eq_true, Bool.not_eq_false, Option.isNone_none, Option.isNone_some, Option.isSome_none, Option.isSome_some, ne_eq, Decidable.not_not] at hb1_3
         obtain ⟨f, ks, rfl⟩ : ∃ f ks, t = .c f ks := by cases t with | v x => exact absurd rfl hb1_3 | c f ks => exact ⟨f, ks, rfl⟩
         simp only [frF] at hf
         have hfl : frL (frF σ n) (Ty.c f ks).kids s = some s' := hf
         have hM : FrM w1 G ms bo s := ⟨hmp, A9, c9, hbo, ho⟩
         refine WL.skip rfl rfl rfl ?_
         refine WL.skip rfl rfl rfl ?_
         refine WL.skip rfl rfl rfl ?_
         refine WL.skip rfl rfl rfl ?_
         refine WL.skip rfl rfl rfl ?_
         refine WL.val rfl rfl rfl rfl (r_pickF rfl (ev_t rfl) ev_c) ?_
         refine WL.nil ?_
         refine WX.keep [(1, _), (2, _), (3, _), (4, _), (5, _), (19, _)] ⟨rfl, rfl, rfl, rfl, rfl, rfl, trivial⟩ ?_
         refine WX.next ?_
         refine WC.cond_false rfl (ev_t rfl) ?_
         refine WC.skip ?_
         refine WX.meet [(3, _), (5, _)] ⟨rfl, rfl, trivial⟩ ?_
         refine ⟨_, _, hU, by omega, hB1, hfl, hC, hM, fun k hk => ?_, hr, hks, rfl⟩
         first
           | (have := hG k hk; exact ⟨this.1, by omega, .inl hk⟩)
           | (rcases hk with hk | hk; have := hG k hk; exact ⟨this.1, by omega, .inl hk⟩; exact ⟨by omega, by omega, .inr (by omega)⟩)
    · clear hU hC hmp hbo ho hr hks
      rintro E w9 ⟨s1, G1, hU, hlt, hB5, hfl, hC, hM, hG1, hr, hks, rfl⟩
      have hb3' := hC.b.2.2.1
      refine WC.seq ?_
      refine WC.region ?_
      first | refine WL.val rfl rfl rfl rfl (r_field0 rfl (ev_t rfl) fld_28_2) ?_ | refine WL.val rfl rfl rfl rfl (r_fieldAt rfl (ev_t rfl) fld_28_2) ?_
      refine WL.val rfl rfl rfl rfl (r_load rfl (ev_t rfl) flat_26 (Blk.cell hB5 rfl)) ?_
      refine WL.val rfl rfl rfl rfl (r_lenSlice (ts := #[]) rfl (ev_t rfl) elem_26) ?_
      refine WL.val rfl rfl rfl rfl (r_move rfl ev_c) ?_
      refine WL.nil ?_
      refine WX.keep [(3, _), (43, _), (44, _), (45, _)] ⟨rfl, rfl, rfl, rfl, trivial⟩ ?_
      refine WX.next ?_
      refine WC.block ?_
      -- loop 1: live [3, 43, 44, 45]
      refine WC.keep [(3, _), (43, _), (44, _), (45, _)] ⟨rfl, rfl, rfl, rfl, trivial⟩ ?_
      refine WC.loop (fun q E w' => ∃ (i : Nat) (s1 : FrS) (G1 : Nat → Prop), i ≤ t.kids.length ∧ q = t.kids.length - i ∧ Upd (SG G ms bo) w w' ∧ w.heap.size < w'.heap.size ∧ frL (frF σ n) (t.kids.drop i) s1 = some s' ∧ FrC w' F p m1 m2 σ D nn xs B bs bp bw ms bo ∧ FrM w' G1 ms bo s1 ∧ (∀ k, G1 k → B ≤ k ∧ k < w'.heap.size ∧ (G k ∨ w.heap.size ≤ k)) ∧ Rd w' F (.slice A0 t.kids.length k0) t.kids.length 3 (xk.flatMap c3) ∧ TVs w' F xk t.kids ∧   E = [(3, .pointer (some ⟨bw, 0, none⟩)), (43, .slice A0 t.kids.length k0), (44, .int .i64 (t.kids.length : Int)), (45, .int .i64 (i : Int))]) (t.kids.length) ?_ ?_
      · exact ⟨0, s1, G1, by omega, by omega, hU, hlt, hfl, hC, hM, hG1, hr, hks, rfl⟩
      · clear hU hC hM hr hks hfl hlt hB5 hG1
        rintro q E w' ⟨i, s1, G1, hi, rfl, hU, hlt, hfl, hC, hM, hG1, hr, hks, rfl⟩
        have hb3' := hC.b.2.2.1
        refine WC.seq ?_
        refine WC.region ?_
        refine WL.val rfl rfl rfl rfl (r_lss rfl (ev_t rfl) (ev_t rfl)) ?_
        refine WL.nil ?_
        refine WX.keep [(3, _), (43, _), (44, _), (45, _), (46, _)] ⟨rfl, rfl, rfl, rfl, rfl, trivial⟩ ?_
        refine WX.next ?_
        refine WC.seq ?_
        refine WC.cond rfl (ev_t rfl) (fun hc8 => ?_) (fun hc8 => ?_)
        · try (exfalso; first | (simp at hc8; done) | (simp only [decide_eq_true_eq, decide_eq_false_iff_not, Bool.not_eq_true', Bool.not_eq_false', Bool.not_eq_true, Bool.not_eq_false] at hc8; omega) | omega)
          all_goals
           try simp only [decide_eq_true_eq, decide_eq_false_iff_not, Bool.not_eq_true', Bool.not_eq_false', Bool.not_eq_true, Bool.not_eq_false, Option.isNone_none, Option.isNone_some, Option.isSome_none, Option.isSome_some, ne_eq, Decidable.not_not] at hc8
           have hi' : i < t.kids.length := by omega
           obtain ⟨b0, off, rfl, _⟩ := hr.open (by omega)
           have hxi : xk[i]? = some xk[i] := List.getElem?_eq_getElem (by have := hks.1; omega)
           have hki : t.kids[i]? = some t.kids[i] := List.getElem?_eq_getElem hi'
           have htk := hks.2 i _ _ hxi hki
           generalize xk[i] = ck at *
           generalize t.kids[i] = kk at *
           obtain ⟨ca, cb, cc⟩ := ck
           have hcel := kid_cells hr hxi rfl
           obtain ⟨m3, A3, k3, xk3, rfl, rfl, rfl, _⟩ := htk.open
           obtain ⟨s2, hf1, hf2⟩ := frL_cons hki hfl
           have hl2 := frL_mono hf2
           refine WC.skip ?_
           refine WX.next ?_
           refine WC.seq ?_
           refine WC.block ?_
           refine WC.seq ?_
           refine WC.region ?_
           refine WL.val rfl rfl rfl rfl (r_indexAddr rfl (ev_t rfl) (ev_t rfl) elem_26 size_28 (by omega) (by omega)) ?_
           refine WL.val rfl rfl rfl rfl (r_loadAgg (vs := [_, _, _]) rfl (ev_t rfl) agg_28 size_28 hcel) ?_
           skip
           refine WL.cons (SO.alloc rfl rfl rfl rfl (r_alloc rfl zero_28) ?_)
           intro w10 hu10 hB10 hz10
           have hs10 := hu10.size
           replace hU := hU.trans hu10 (by exact (fun _ _ h => h.elim))
           replace hC := hC.upd hu10 (fun k hS hl => by exact (show False from hS).elim)
           replace hM := hM.upd hu10 (fun k hS hl => by exact (show False from hS).elim)
           replace hr := hr.upd hu10 (hC.tv (fun k hS => (by exact (show False from hS).elim)))
           replace hks := hks.upd hu10 (hC.tv (fun k hS => (by exact (show False from hS).elim)))
           replace htk := htk.upd hu10 (hC.tv (fun k hS => (by exact (show False from hS).elim)))
           refine WL.cons (SO.storeAll (us := [_, _, _]) rfl (ev_t rfl) (ev_t rfl) size_28 hB10 rfl rfl rfl rfl rfl ?_)
           intro w11 hu11 hB10 hz11
           have hs11 := hu11.size
           replace hU := hU.trans hu11 (by (intro k hl hk; (try simp only [At, New, Grow, From, No] at hk ⊢); omega))
           replace hC := hC.upd hu11 (fun k hS hl => by (simp only [At] at hS; subst hS; first | exact .inl rfl | exact .inr (.inl rfl) | exact .inr (.inr (by omega))))
           replace hM := hM.upd hu11 (fun k hS hl => by (simp only [At] at hS; exact ⟨by omega, by omega, fun h => by have := hG1 k h; omega⟩))
           replace hr := hr.upd hu11 (hC.tv (fun k hS => (by (simp only [At] at hS; subst hS; first | exact .inl rfl | exact .inr (.inl rfl) | exact .inr (.inr (by omega))))))
           replace hks := hks.upd hu11 (hC.tv (fun k hS => (by (simp only [At] at hS; subst hS; first | exact .inl rfl | exact .inr (.inl rfl) | exact .inr (.inr (by omega))))))
           replace htk := htk.upd hu11 (hC.tv (fun k hS => (by (simp only [At] at hS; subst hS; first | exact .inl rfl | exact .inr (.inl rfl) | exact .inr (.inr (by omega))))))
           refine WL.nil ?_
           refine WX.keep [(3, _), (9, _), (43, _), (44, _), (45, _)] ⟨rfl, rfl, rfl, rfl, rfl, trivial⟩ ?_
           refine WX.next ?_
           refine WC.region ?_
           refine WL.val rfl rfl rfl rfl (r_load rfl (ev_t rfl) flat_73 (Blk.cell hC.wv rfl)) ?_
           refine WL.val rfl rfl rfl rfl (r_loadAgg (vs := [_, _, _]) rfl (ev_t rfl) agg_28 size_28 (Blk.cellsL hB10)) ?_
           refine WL.cons (SO.callV (vs := [_]) rfl (ev_t rfl) body_46 ⟨(ev_t rfl), trivial⟩ rfl (ih _ G1 _ _ _ kk _ _ hf1 (by omega) hC hM (fun k hk => by have := hG1 k hk; omega) htk) rfl rfl rfl rfl ?_)
           rintro v w12 ⟨hM2, hu12⟩
           have hs12 := hu12.size
           replace hU := hU.trans hu12 (by (intro k hl hk; first | exact hk | (simp only [At] at hk; subst hk; first | exact .inl rfl | exact .inr (.inl rfl) | (exfalso; omega)) | exact .inr (.inr hk) | (rcases hk with hk | hk | hk; exact .inl hk; exact .inr (.inl hk); rcases (hG1 k hk).2.2 with h | h; exact .inr (.inr h); (exfalso; omega))))
           replace hC := hC.upd hu12 (fun k hS hl => by (rcases hS with hS | hS | hS; exact .inl hS; exact .inr (.inl hS); first | exact .inr (.inr (hG1 k hS).1) | exact .inr (.inr (hG k hS).1)))
           replace hr := hr.upd hu12 (hC.tv (fun k hS => (by (rcases hS with hS | hS | hS; exact .inl hS; exact .inr (.inl hS); first | exact .inr (.inr (hG1 k hS).1) | exact .inr (.inr (hG k hS).1)))))
           replace hks := hks.upd hu12 (hC.tv (fun k hS => (by (rcases hS with hS | hS | hS; exact .inl hS; exact .inr (.inl hS); first | exact .inr (.inr (hG1 k hS).1) | exact .inr (.inr (hG k hS).1)))))
           refine WL.nil ?_
           refine WX.keep [(3, _), (43, _), (44, _), (45, _)] ⟨rfl, rfl, rfl, rfl, trivial⟩ ?_
           refine WX.blockNormal ?_
           refine WX.next ?_
           refine WC.region ?_
           first | refine WL.val rfl rfl rfl rfl (r_addN rfl (ev_t rfl) ev_c (by simp only [inK]; omega)) ?_ | refine WL.val rfl rfl rfl rfl (r_add rfl (ev_t rfl) ev_c) ?_
           refine WL.val rfl rfl rfl rfl (r_move rfl (ev_t rfl)) ?_
           refine WL.nil ?_
           refine WX.keep [(3, _), (43, _), (44, _), (45, _)] ⟨rfl, rfl, rfl, rfl, trivial⟩ ?_
           refine WX.meet [(3, _), (43, _), (44, _), (45, _)] ⟨rfl, rfl, rfl, rfl, trivial⟩ ?_
           refine ⟨t.kids.length - (i + 1), by omega, i + 1, s2, _, by omega, rfl, hU, by omega, hf2, hC, hM2, fun k hk => ?_, hr, hks, by simp⟩
           rcases hk with hk | hk
           · have := hG1 k hk; exact ⟨this.1, by omega, this.2.2⟩
           · exact ⟨by omega, by omega, .inr (by omega)⟩
        · try (exfalso; first | (simp at hc8; done) | (simp only [decide_eq_true_eq, decide_eq_false_iff_not, Bool.not_eq_true', Bool.not_eq_false', Bool.not_eq_true, Bool.not_eq_false] at hc8; omega) | omega)
          all_goals
           try simp only [decide_eq_true_eq, decide_eq_false_iff_not, Bool.not_eq_true', Bool.not_eq_false', Bool.not_eq_true, Bool.not_eq_false, Option.isNone_none, Option.isNone_some, Option.isSome_none, Option.isSome_some, ne_eq, Decidable.not_not] at hc8
           refine WC.exit ?_
           refine WX.thenExit ?_
           refine WX.thenExit ?_
           refine WX.blockHere ?_
           refine WX.endE (l := []) (vs := []) rfl trivial ?_
           obtain rfl : i = t.kids.length := by omega
           rw [List.drop_length] at hfl
           obtain rfl := Option.some.inj hfl
           refine ⟨hM.mono fun k hk => ?_, hU⟩
           have := hG1 k hk
           rcases this.2.2 with h | h
           · exact .inl h
           · exact .inr ⟨h, this.2.1⟩
end Go.Proofs.Ytncakfcafkfmfaa
