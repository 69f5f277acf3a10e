/-
  Several texts put together: Tyw, Tyx.
-/
import Derived.Test.YtncakfcafkfmfaaZd
/-
  types: the reference's Free, in.
-/
namespace Go.Proofs.Ytncakfcafkfmfaa
open Go
set_option linter.unusedSimpArgs false
set_option linter.unusedVariables false

/-- the reference's substitution, all below a block -/
def RfB (w : World) (F Gv Go Gd : Nat → Prop) (p : Nat) (σ : Sg) (D : Dn) (nn : Int) (xs : List C3) (Av Ao Ad : Option Addr) (cv co cd B : Nat) : Prop := IsRf w F Gv Go Gd p σ D nn xs Av Ao Ad cv co cd ∧ ∀ k, (k = p ∨ F k ∨ Gv k ∨ Go k ∨ Gd k) → k < B
theorem RfB.upd {w w' : World} {F Gv Go Gd S : Nat → Prop} {p : Nat} {σ : Sg} {D : Dn} {nn : Int} {xs : List C3} {Av Ao Ad : Option Addr} {cv co cd B : Nat} (h : RfB w F Gv Go Gd p σ D nn xs Av Ao Ad cv co cd B) (hu : Upd S w w') (hn : ∀ k, k < B → ¬ S k) : RfB w' F Gv Go Gd p σ D nn xs Av Ao Ad cv co cd B :=
  ⟨h.1.upd hu (hn p (h.2 p (.inl rfl))) (fun k hk _ => hn k (h.2 k (.inr hk))), h.2⟩
theorem frL_at {f : Ty → FrS → Option FrS} {ks : List Ty} {i : Nat} {k : Ty} {s s' : FrS} (hk : ks[i]? = some k) (h : frL f (ks.drop i) s = some s') : ∃ s1, f k s = some s1 ∧ frL f (ks.drop (i + 1)) s1 = some s' := by
  have hi : i < ks.length := (List.getElem?_eq_some_iff.1 hk).1
  rw [List.drop_eq_getElem_cons hi] at h
  rw [List.getElem?_eq_getElem hi] at hk
  injection hk with hk
  rw [hk] at h
  simp only [frL] at h
  split at h
  · cases h
  · rename_i s1 h1
    exact ⟨s1, h1, h⟩

set_option maxHeartbeats 4000000 in
theorem rfree_ok {B p ps : Nat} {F Gv Go Gd : Nat → Prop} {σ : Sg} {D : Dn} {nn : Int} {xs : List C3} {Av Ao Ad : Option Addr} {cv co cd : Nat} (hFB : ∀ k, F k → k < B) (hps : B ≤ ps) : ∀ (n : Nat) (w : World) (Gl Gs : Nat → Prop) (A As : Option Addr) (c cs : Nat) (a1 a2 a3 : Value) (t : Ty) (s s' : FrS), frF σ n t s = some s' → s'.1.length ≤ 3000000000 → s'.2.length ≤ 3000000000 →
    RfB w F Gv Go Gd p σ D nn xs Av Ao Ad cv co cd B → TV w F (a1, a2, a3) t → Own w Gl 3 1 (.slice A s.1.length c) s.1.length (s.1.map I6) → Blk w ps #[.slice As s.2.length cs] 33 → Own w Gs 3 1 (.slice As s.2.length cs) s.2.length (s.2.map I6) → (∀ k, Gl k → B ≤ k ∧ k < w.heap.size ∧ k ≠ ps ∧ ¬ Gs k) → (∀ k, Gs k → B ≤ k ∧ k < w.heap.size ∧ k ≠ ps) →
    Ret Try.prog 47 #[.pointer (some ⟨p, 0, none⟩), .slice A s.1.length c, .agg #[a1, a2, a3], .pointer (some ⟨ps, 0, none⟩)] w fun v w' => ∃ (Gl' Gs' : Nat → Prop) (A' As' : Option Addr) (c' cs' : Nat), v = .slice A' s'.1.length c' ∧ Own w' Gl' 3 1 (.slice A' s'.1.length c') s'.1.length (s'.1.map I6) ∧ Blk w' ps #[.slice As' s'.2.length cs'] 33 ∧ Own w' Gs' 3 1 (.slice As' s'.2.length cs') s'.2.length (s'.2.map I6) ∧
      (∀ k, Gl' k → (Gl k ∨ w.heap.size ≤ k) ∧ k < w'.heap.size ∧ k ≠ ps ∧ ¬ Gs' k) ∧ (∀ k, Gs' k → (Gs k ∨ w.heap.size ≤ k) ∧ k < w'.heap.size ∧ k ≠ ps) ∧ Upd (fun k => Gl k ∨ Gs k ∨ k = ps) w w' := by
  intro n
  induction n using Nat.strongRecOn with
  | ind n ih =>
    intro w Gl Gs A As c cs a1 a2 a3 t s s' hf hl1 hl2 hI ht hol hsb hos hGl hGs
    obtain ⟨m0, A9, k9, xk9, rfl, rfl, rfl, hm9, _⟩ := ht.open
    have hlps := hsb.lt
    refine enterRet (vs := [_, _, _, _]) (N := 63) Try.func47 rfl rfl rfl ?_
    have hU := Upd.refl (fun k => Gl k ∨ Gs k ∨ k = ps) w
    refine WC.keep [(0, _), (1, _), (2, _), (3, _)] ⟨rfl, rfl, rfl, rfl, trivial⟩ ?_
    refine WC.seq ?_
    refine WC.region ?_
    refine WL.cons (SO.alloc rfl rfl rfl rfl (r_boxAgg rfl (ev_t rfl)) ?_)
    intro w1 hu1 hB1 hz1
    have hs1 := hu1.size
    replace hU := hU.trans hu1 (by exact (fun _ _ h => h.elim))
    replace hI := hI.upd hu1 (fun k hk hS => by exact (show False from hS).elim)
    replace ht := ht.upd hu1 (fun k hk hl hS => by have := hFB k hk; exact (show False from hS).elim)
    replace hol := hol.upd hu1 (fun k hk hl hS => by exact (show False from hS).elim)
    replace hsb := hsb.upd hu1 (fun hS => by exact (show False from hS))
    replace hos := hos.upd hu1 (fun k hk hl hS => by exact (show False from hS).elim)
    refine WL.val rfl rfl rfl rfl (r_assign rfl ev_c) ?_
    refine WL.nil ?_
    refine WX.keep [(0, _), (1, _), (3, _), (6, _)] ⟨rfl, rfl, rfl, rfl, trivial⟩ ?_
    refine WX.next ?_
    refine WC.seq ?_
    refine WC.block ?_
    -- loop 1: live [0, 1, 3, 6]
    refine WC.keep [(0, _), (1, _), (3, _), (6, _)] ⟨rfl, rfl, rfl, rfl, trivial⟩ ?_
    refine WC.loop (fun q E wA => ∃ (t' : Ty) (m : Int) (A0 : Option Addr) (k0 : Nat) (s2 : List Int) (Gs2 : Nat → Prop) (As2 : Option Addr) (cs2 : Nat), frF σ q t' (s.1, s2) = some s' ∧ q ≤ n ∧ (∀ x, t' = .v x → m = x) ∧ Upd (fun k => Gl k ∨ Gs k ∨ k = ps) w wA ∧ w.heap.size < wA.heap.size ∧ RfB wA F Gv Go Gd p σ D nn xs Av Ao Ad cv co cd B ∧ TV wA F (.string ⟨t'.nm.toArray⟩, .int .i64 m, .slice A0 t'.kids.length k0) t' ∧   Blk wA w.heap.size #[.string ⟨t'.nm.toArray⟩, .int .i64 m, .slice A0 t'.kids.length k0] typ ∧ Own wA Gl 3 1 (.slice A s.1.length c) s.1.length (s.1.map I6) ∧ Blk wA ps #[.slice As2 s2.length cs2] 33 ∧ Own wA Gs2 3 1 (.slice As2 s2.length cs2) s2.length (s2.map I6) ∧   (∀ k, Gl k → ¬ Gs2 k) ∧ (∀ k, Gs2 k → (Gs k ∨ w.heap.size < k) ∧ k < wA.heap.size ∧ k ≠ ps ∧ k ≠ w.heap.size ∧ B ≤ k) ∧   E = [(0, .pointer (some ⟨p, 0, none⟩)), (1, .slice A s.1.length c), (3, .pointer (some ⟨ps, 0, none⟩)), (6, .pointer (some ⟨w.heap.size, 0, none⟩))]) (n) ?_ ?_
    · exact ⟨t, m0, A9, k9, s.2, Gs, As, cs, hf, Nat.le_refl _, hm9, hU, by omega, hI, ht, hB1, hol, hsb, hos, fun k hk => (hGl k hk).2.2.2, fun k hk => by have := hGs k hk; exact ⟨.inl hk, by omega, by omega, by omega, by omega⟩, rfl⟩
    · clear hU hI ht hB1 hol hsb hos
      rintro q E wA ⟨t', m, A0, k0, s2, Gs2, As2, cs2, hf2, hqn, hm, hU, hsz, hI, ht, hB1, hol, hsb, hos, hGls, hGs2, rfl⟩
      have hP := frF_FrP hf2
      have hP1 := hP.l1
      have hP2 := hP.l2
      simp only at hP1 hP2
      refine WC.seq ?_
      refine WC.seq ?_
      refine WC.region ?_
      first | refine WL.val rfl rfl rfl rfl (r_field0 rfl (ev_t rfl) fld_28_0) ?_ | refine WL.val rfl rfl rfl rfl (r_fieldAt rfl (ev_t rfl) fld_28_0) ?_
      refine WL.val rfl rfl rfl rfl (r_load rfl (ev_t rfl) flat_9 (Blk.cell hB1 rfl)) ?_
      refine WL.val rfl rfl rfl rfl (r_eqlStrL rfl (ev_t rfl) ev_c) ?_
      refine WL.nil ?_
      refine WX.keep [(0, _), (1, _), (3, _), (6, _), (14, _)] ⟨rfl, rfl, rfl, rfl, rfl, trivial⟩ ?_
      refine WX.next ?_
      refine WC.cond rfl (ev_t rfl) (fun hc1 => ?_) (fun hc1 => ?_)
      · try (exfalso; first | (simp at hc1; done) | (simp only [decide_eq_true_eq, decide_eq_false_iff_not, Bool.not_eq_true', Bool.not_eq_false', Bool.not_eq_true, Bool.not_eq_false] at hc1; omega) | omega)
        all_goals
         try simp only [decide_eq_true_eq, decide_eq_false_iff_not, Bool.not_eq_true', Bool.not_eq_false', Bool.not_eq_true, Bool.not_eq_false, Option.isNone_none, Option.isNone_some, Option.isSome_none, Option.isSome_some, ne_eq, Decidable.not_not] at hc1
         obtain ⟨x, rfl⟩ := Ty.nm_nil.1 hc1
         obtain rfl := (hm x rfl).symm
         obtain ⟨q', rfl⟩ : ∃ q', q = q' + 1 := by
           cases q with
           | zero => simp [frF] at hf2
           | succ q' => exact ⟨q', rfl⟩
         simp only [frF] at hf2
         refine WC.skip ?_
         refine WX.next ?_
         refine WC.block ?_
         refine WC.seq ?_
         refine WC.seq ?_
         refine WC.draws' (fun u0_ u1_ => Upd No u0_ u1_) (fun j => [0, 0, 0, 0, 1, 2].getD j 0) (.calm 0 (.calm 1 (.calm 3 (.held 2 (.one 4 (.one 5 (.done))))))) mixed (by kernel_rfl) (by repeat (first | with_reducible exact Deaf.body | with_reducible apply Deaf.then | with_reducible apply Deaf.block)) ?_
         intro w2 hu2
         have hz2 := congrArg Array.size hu2.2.2.2
         replace hu2 := Upd.of_draw hu2
         have hs2 := hu2.size
         replace hU := hU.trans hu2 (by exact (fun _ _ h => h.elim))
         replace hI := hI.upd hu2 (fun k hk hS => by exact (show False from hS).elim)
         replace ht := ht.upd hu2 (fun k hk hl hS => by have := hFB k hk; exact (show False from hS).elim)
         replace hB1 := hB1.upd hu2 (fun hS => by exact (show False from hS))
         replace hol := hol.upd hu2 (fun k hk hl hS => by exact (show False from hS).elim)
         replace hsb := hsb.upd hu2 (fun hS => by exact (show False from hS))
         replace hos := hos.upd hu2 (fun k hk hl hS => by exact (show False from hS).elim)
         have hS2 := Upd.refl No w2
         refine WN.calm _ rfl rfl rfl rfl rfl (fun _ => r_move rfl (ev_t rfl)) ?_
         refine WN.calm _ rfl rfl rfl rfl rfl (fun _ => r_nilCheck rfl (ev_t rfl)) ?_
         first | refine WN.calm _ rfl rfl rfl rfl rfl (fun _ => r_field0 rfl (ev_t rfl) fld_28_1) ?_ | refine WN.calm _ rfl rfl rfl rfl rfl (fun _ => r_fieldAt rfl (ev_t rfl) fld_28_1) ?_
         refine WN.held _ rfl rfl rfl rfl rfl hS2 (fun w' hS => r_load rfl (ev_t rfl) flat_33 (Blk.cell (hsb.upd hS (fun h => h)) rfl)) ?_
         refine WN.step _ rfl (SO.val rfl rfl rfl rfl (r_load rfl (ev_t rfl) flat_3 (Blk.cell hB1 rfl)) ?_)
         refine ⟨hS2, ?_⟩
         refine WN.step _ rfl (SO.call (has_ok (hos.rd (by omega))) rfl body_30 ⟨(ev_t rfl), (ev_t rfl), trivial⟩ rfl rfl rfl rfl ?_)
         rintro v w3 ⟨rfl, he⟩
         obtain rfl := he.symm
         refine ⟨trivial, ?_⟩
         refine WN.done ?_
         refine WX.keep [(0, _), (1, _), (3, _), (6, _), (20, _)] ⟨rfl, rfl, rfl, rfl, rfl, trivial⟩ ?_
         refine WX.next ?_
         refine WC.cond rfl (ev_t rfl) (fun hc2 => ?_) (fun hc2 => ?_)
         · try (exfalso; first | (simp at hc2; done) | (simp only [decide_eq_true_eq, decide_eq_false_iff_not, Bool.not_eq_true', Bool.not_eq_false', Bool.not_eq_true, Bool.not_eq_false] at hc2; omega) | omega)
           all_goals
            try simp only [decide_eq_true_eq, decide_eq_false_iff_not, Bool.not_eq_true', Bool.not_eq_false', Bool.not_eq_true, Bool.not_eq_false, Option.isNone_none, Option.isNone_some, Option.isSome_none, Option.isSome_some, ne_eq, Decidable.not_not] at hc2
            have hx : x ∈ s2 := by simpa using hc2
            rw [if_pos hx] at hf2
            injection hf2 with hf2
            subst hf2
            refine WC.seq ?_
            refine WC.region ?_
            refine WL.val rfl rfl rfl rfl (r_move rfl (ev_t rfl)) ?_
            refine WL.val rfl rfl rfl rfl (r_assign rfl (ev_t rfl)) ?_
            refine WL.nil ?_
            refine WX.keep [(8, _)] ⟨rfl, trivial⟩ ?_
            refine WX.next ?_
            refine WC.ret ?_
            refine WX.thenRet ?_
            refine WX.blockRet ?_
            refine WX.thenRet ?_
            refine WX.blockRet ?_
            refine WX.thenRet ?_
            refine WX.retE1 rfl rfl ?_
            exact ⟨Gl, Gs2, _, _, _, _, rfl, hol, hsb, hos, fun k hk => ⟨.inl hk, by have := hGl k hk; omega, (hGl k hk).2.2.1, hGls k hk⟩, fun k hk => ⟨by rcases (hGs2 k hk).1 with h | h; exact .inl h; exact .inr (by omega), by have := hGs2 k hk; omega, (hGs2 k hk).2.2.1⟩, hU⟩
         · try (exfalso; first | (simp at hc2; done) | (simp only [decide_eq_true_eq, decide_eq_false_iff_not, Bool.not_eq_true', Bool.not_eq_false', Bool.not_eq_true, Bool.not_eq_false] at hc2; omega) | omega)
           all_goals
            try simp only [decide_eq_true_eq, decide_eq_false_iff_not, Bool.not_eq_true', Bool.not_eq_false', Bool.not_eq_true, Bool.not_eq_false, Option.isNone_none, Option.isNone_some, Option.isSome_none, Option.isSome_some, ne_eq, Decidable.not_not] at hc2
            have hx : x ∉ s2 := by simpa using hc2
            rw [if_neg hx] at hf2
            refine WC.skip ?_
            refine WX.next ?_
            refine WC.seq ?_
            refine WC.draws' (fun u0_ u1_ => Upd (fun k => Gs2 k ∨ k = ps) u0_ u1_) (fun j => [0, 0, 0, 1, 0, 0, 2, 2, 0, 2].getD j 0) (.calm 0 (.calm 1 (.calm 2 (.calm 4 (.held 5 (.two 3 6 (.one 6 (.one 7 (.calm 8 (.one 9 (.done))))) (.one 3 (.one 7 (.calm 8 (.one 9 (.done))))))))))) mixed (by kernel_rfl) (by repeat (first | with_reducible exact Deaf.body | with_reducible apply Deaf.then | with_reducible apply Deaf.block)) ?_
            intro w4 hu4
            have hz4 := congrArg Array.size hu4.2.2.2
            replace hu4 := Upd.of_draw hu4
            have hs4 := hu4.size
            replace hU := hU.trans hu4 (by exact (fun _ _ h => h.elim))
            replace hI := hI.upd hu4 (fun k hk hS => by exact (show False from hS).elim)
            replace ht := ht.upd hu4 (fun k hk hl hS => by have := hFB k hk; exact (show False from hS).elim)
            replace hB1 := hB1.upd hu4 (fun hS => by exact (show False from hS))
            replace hol := hol.upd hu4 (fun k hk hl hS => by exact (show False from hS).elim)
            replace hsb := hsb.upd hu4 (fun hS => by exact (show False from hS))
            replace hos := hos.upd hu4 (fun k hk hl hS => by exact (show False from hS).elim)
            have hS4 := Upd.refl (fun k => Gs2 k ∨ k = ps) w4
            refine WN.calm _ rfl rfl rfl rfl rfl (fun _ => r_move rfl (ev_t rfl)) ?_
            refine WN.calm _ rfl rfl rfl rfl rfl (fun _ => r_move rfl (ev_t rfl)) ?_
            refine WN.calm _ rfl rfl rfl rfl rfl (fun _ => r_nilCheck rfl (ev_t rfl)) ?_
            first | refine WN.calm _ rfl rfl rfl rfl rfl (fun _ => r_field0 rfl (ev_t rfl) fld_28_1) ?_ | refine WN.calm _ rfl rfl rfl rfl rfl (fun _ => r_fieldAt rfl (ev_t rfl) fld_28_1) ?_
            first | refine WN.held _ rfl rfl rfl rfl rfl hS4 (fun w' hS => r_load rfl (ev_t rfl) flat_3 (Blk.cell (hB1.upd hS (fun h => by rcases h with h | h; have := hGs2 _ h; omega; omega)) rfl)) ?_ | refine WN.held _ rfl rfl rfl rfl rfl hS4 (fun w' hS => r_load rfl (ev_t rfl) flat_3 (Blk.cell hB1 rfl)) ?_
            refine WN.fork _ _ rfl rfl ?_ ?_
            · refine SO.val rfl rfl rfl rfl (r_load rfl (ev_t rfl) flat_33 (Blk.cell hsb rfl)) ?_
              refine ⟨hS4, ?_⟩
              refine WN.step _ rfl (SO.alloc rfl rfl rfl rfl (r_buildSlice1 (vs := [_]) rfl ⟨(ev_t rfl), trivial⟩ rfl row_33 rfl rfl) ?_)
              intro w5 hu5 hB5 hz5
              have hs5 := hu5.size
              try replace hS4 := Upd.trans hS4 hu5 (by intro k hl hk; exact (show False from hk).elim)
              replace hU := hU.trans hu5 (by exact (fun _ _ h => h.elim))
              replace hI := hI.upd hu5 (fun k hk hS => by exact (show False from hS).elim)
              replace ht := ht.upd hu5 (fun k hk hl hS => by have := hFB k hk; exact (show False from hS).elim)
              replace hB1 := hB1.upd hu5 (fun hS => by exact (show False from hS))
              replace hol := hol.upd hu5 (fun k hk hl hS => by exact (show False from hS).elim)
              replace hsb := hsb.upd hu5 (fun hS => by exact (show False from hS))
              replace hos := hos.upd hu5 (fun k hk hl hS => by exact (show False from hS).elim)
              refine ⟨trivial, ?_⟩
              refine WN.step _ rfl (SO.append hos (show Rd _ _ _ 1 1 [I6 x] from Rd.of_blk (F := At _) (n := 1) (sz := 1) hB5 rfl rfl (by omega)) row_33 (fun u hu => by simp at hu; subst hu; rfl) (le_maxLen (by omega)) (by omega) rfl (ev_t rfl) (ev_t rfl) rfl rfl rfl rfl ?_)
              intro v6 w6 hos3 hu6
              have hs6 := hu6.size
              try replace hS4 := Upd.trans hS4 hu6 (by intro k hl hk; exact .inl hk)
              replace hU := hU.trans hu6 (by (intro k hl hk; first | exact (show False from hk).elim | exact hacc k hl hk | exact .inl hk | (simp only [At] at hk; subst hk; first | exact .inr (.inr rfl) | (exfalso; omega)) | (rcases (hGs2 k hk).1 with h | h; exact .inr (.inl h); (exfalso; omega)) | (rcases hk with hk | hk; rcases (hGs2 k hk).1 with h | h; exact .inr (.inl h); (exfalso; omega); exact .inr (.inr hk))))
              replace hI := hI.upd hu6 (fun k hk hS => by (have := hGs2 k hS; omega))
              replace ht := ht.upd hu6 (fun k hk hl hS => by have := hFB k hk; (have := hGs2 k hS; omega))
              replace hB1 := hB1.upd hu6 (fun hS => by (have := hGs2 _ hS; omega))
              replace hol := hol.upd hu6 (fun k hk hl hS => by exact hGls k hk hS)
              replace hsb := hsb.upd hu6 (fun hS => by (have := hGs2 _ hS; omega))
              refine ⟨trivial, ?_⟩
              obtain ⟨A6, c6, rfl, hc6⟩ := Own.form hos3
              refine WN.calm _ rfl rfl rfl rfl rfl (fun _ => r_nilCheck rfl (ev_t rfl)) ?_
              refine WN.step _ rfl (SO.store rfl (ev_t rfl) (ev_t rfl) size_33 hsb rfl rfl rfl rfl rfl ?_)
              intro w7 hu7 hsb hz7
              have hs7 := hu7.size
              try replace hS4 := Upd.trans hS4 hu7 (by intro k hl hk; exact .inr hk)
              replace hU := hU.trans hu7 (by (intro k hl hk; (try simp only [At, New, Grow, From, No] at hk ⊢); omega))
              replace hI := hI.upd hu7 (fun k hk hS => by (simp only [At] at hS; omega))
              replace ht := ht.upd hu7 (fun k hk hl hS => by have := hFB k hk; (simp only [At] at hS; omega))
              replace hB1 := hB1.upd hu7 (fun hS => by (simp only [At] at hS; omega))
              replace hol := hol.upd hu7 (fun k hk hl hS => by (simp only [At] at hS; have := hGl k hk; omega))
              replace hos3 := hos3.upd hu7 (fun k hk hl hS => by (simp only [At] at hS; first | (rcases hk with hk | hk; have := hGs2 k hk; omega; omega) | (have := hGs4 k hk; omega)))
              refine ⟨trivial, ?_⟩
              refine WN.done ?_
              refine WX.keep [(0, _), (1, _), (3, _), (6, _)] ⟨rfl, rfl, rfl, rfl, trivial⟩ ?_
              obtain ⟨Gs4, hGs4e⟩ : ∃ Gs4 : Nat → Prop, Gs4 = fun k => Gs2 k ∨ (wA.heap.size ≤ k ∧ k < w7.heap.size) := ⟨_, rfl⟩
              have hos9 : Own w7 Gs4 3 1 _ _ _ := hos3.mono fun k hk => by rw [hGs4e]; exact hk.imp (fun h => h) (fun h => by omega)
              have hGs4 : ∀ k, Gs4 k → (Gs k ∨ w.heap.size < k) ∧ k < w7.heap.size ∧ k ≠ ps ∧ k ≠ w.heap.size ∧ B ≤ k := fun k hk => by
                rw [hGs4e] at hk
                rcases hk with hk | hk
                · have := hGs2 k hk; exact ⟨this.1, by omega, by omega, by omega, by omega⟩
                · exact ⟨.inr (by omega), by omega, by omega, by omega, by omega⟩
              have hGls4 : ∀ k, Gl k → ¬ Gs4 k := fun k hk h => by
                rw [hGs4e] at h
                rcases h with h | h
                · exact hGls k hk h
                · have := hGl k hk; omega
              rw [show s2.map I6 ++ [I6 x] = (s2 ++ [x]).map I6 by simp, show s2.length + 1 = (s2 ++ [x]).length by simp] at hos9
              rw [show s2.length + 1 = (s2 ++ [x]).length by simp] at hsb
              refine WX.next ?_
              refine WC.seq ?_
              refine WC.region ?_
              refine WL.val rfl rfl rfl rfl (r_move rfl (ev_t rfl)) ?_
              first | refine WL.val rfl rfl rfl rfl (r_field0 rfl (ev_t rfl) fld_28_1) ?_ | refine WL.val rfl rfl rfl rfl (r_fieldAt rfl (ev_t rfl) fld_28_1) ?_
              refine WL.val rfl rfl rfl rfl (r_load rfl (ev_t rfl) flat_3 (Blk.cell hB1 rfl)) ?_
              refine WL.cons (SO.call (stands_ok hI.1) rfl body_50 ⟨(ev_t rfl), (ev_t rfl), trivial⟩ rfl rfl rfl rfl ?_)
              rintro v w8 ⟨u, mu, Au, ku, ok, rfl, htu, hmu, hok, hno, hu8⟩
              have hs8 := hu8.size
              replace hU := hU.trans hu8 (by exact (fun _ _ h => h.elim))
              replace hI := hI.upd hu8 (fun k hk hS => by exact (show False from hS).elim)
              replace ht := ht.upd hu8 (fun k hk hl hS => by have := hFB k hk; exact (show False from hS).elim)
              replace hB1 := hB1.upd hu8 (fun hS => by exact (show False from hS))
              replace hol := hol.upd hu8 (fun k hk hl hS => by exact (show False from hS).elim)
              replace hsb := hsb.upd hu8 (fun hS => by exact (show False from hS))
              replace hos9 := hos9.upd hu8 (fun k hk hl hS => by exact (show False from hS).elim)
              refine WL.val rfl rfl rfl rfl (r_move rfl (ev_t rfl)) ?_
              refine WL.val rfl rfl rfl rfl (r_extract rfl (ev_t rfl) rfl) ?_
              refine WL.val rfl rfl rfl rfl (r_extract rfl (ev_t rfl) rfl) ?_
              refine WL.cons (SO.alloc rfl rfl rfl rfl (r_alloc rfl zero_28) ?_)
              intro w9 hu9 hB9 hz9
              have hs9 := hu9.size
              replace hU := hU.trans hu9 (by exact (fun _ _ h => h.elim))
              replace hI := hI.upd hu9 (fun k hk hS => by exact (show False from hS).elim)
              replace ht := ht.upd hu9 (fun k hk hl hS => by have := hFB k hk; exact (show False from hS).elim)
              replace hB1 := hB1.upd hu9 (fun hS => by exact (show False from hS))
              replace hol := hol.upd hu9 (fun k hk hl hS => by exact (show False from hS).elim)
              replace hsb := hsb.upd hu9 (fun hS => by exact (show False from hS))
              replace hos9 := hos9.upd hu9 (fun k hk hl hS => by exact (show False from hS).elim)
              replace htu := htu.upd hu9 (fun k hk hl hS => by have := hFB k hk; exact (show False from hS).elim)
              refine WL.cons (SO.storeAll (us := [_, _, _]) rfl (ev_t rfl) (ev_t rfl) size_28 hB9 rfl rfl rfl rfl rfl ?_)
              intro w10 hu10 hB9 hz10
              have hs10 := hu10.size
              replace hU := hU.trans hu10 (by (intro k hl hk; (try simp only [At, New, Grow, From, No] at hk ⊢); omega))
              replace hI := hI.upd hu10 (fun k hk hS => by (simp only [At] at hS; omega))
              replace ht := ht.upd hu10 (fun k hk hl hS => by have := hFB k hk; (simp only [At] at hS; omega))
              replace hB1 := hB1.upd hu10 (fun hS => by (simp only [At] at hS; omega))
              replace hol := hol.upd hu10 (fun k hk hl hS => by (simp only [At] at hS; have := hGl k hk; omega))
              replace hsb := hsb.upd hu10 (fun hS => by (simp only [At] at hS; omega))
              replace hos9 := hos9.upd hu10 (fun k hk hl hS => by (simp only [At] at hS; have := hGs4 k hk; omega))
              replace htu := htu.upd hu10 (fun k hk hl hS => by have := hFB k hk; (simp only [At] at hS; omega))
              refine WL.val rfl rfl rfl rfl (r_assign rfl (ev_t rfl)) ?_
              refine WL.nil ?_
              refine WX.keep [(0, _), (1, _), (3, _), (6, _), (9, _), (10, _)] ⟨rfl, rfl, rfl, rfl, rfl, rfl, trivial⟩ ?_
              have hb9 := hB9
              refine WX.next ?_
              refine WC.seq ?_
              refine WC.seq ?_
              refine WC.region ?_
              refine WL.val rfl rfl rfl rfl (r_move rfl (ev_t rfl)) ?_
              refine WL.val rfl rfl rfl rfl (r_not rfl (ev_t rfl)) ?_
              refine WL.nil ?_
              refine WX.keep [(0, _), (1, _), (3, _), (6, _), (9, _), (39, _)] ⟨rfl, rfl, rfl, rfl, rfl, rfl, trivial⟩ ?_
              refine WX.next ?_
              refine WC.cond rfl (ev_t rfl) (fun hc6 => ?_) (fun hc6 => ?_)
              · try (exfalso; first | (simp at hc6; done) | (simp only [decide_eq_true_eq, decide_eq_false_iff_not, Bool.not_eq_true', Bool.not_eq_false', Bool.not_eq_true, Bool.not_eq_false] at hc6; omega) | omega)
                all_goals
                 try simp only [decide_eq_true_eq, decide_eq_false_iff_not, Bool.not_eq_true', Bool.not_eq_false', Bool.not_eq_true, Bool.not_eq_false, Option.isNone_none, Option.isNone_some, Option.isSome_none, Option.isSome_some, ne_eq, Decidable.not_not] at hc6
                 obtain rfl : ok = false := by simp_all
                 rw [hno rfl] at hf2
                 injection hf2 with hf2
                 subst hf2
                 refine WC.seq ?_
                 refine WC.region ?_
                 refine WL.val rfl rfl rfl rfl (r_move rfl (ev_t rfl)) ?_
                 first | refine WL.val rfl rfl rfl rfl (r_field0 rfl (ev_t rfl) fld_28_1) ?_ | refine WL.val rfl rfl rfl rfl (r_fieldAt rfl (ev_t rfl) fld_28_1) ?_
                 refine WL.val rfl rfl rfl rfl (r_load rfl (ev_t rfl) flat_3 (Blk.cell hB1 rfl)) ?_
                 refine WL.cons (SO.alloc rfl rfl rfl rfl (r_buildSlice1 (vs := [_]) rfl ⟨(ev_t rfl), trivial⟩ rfl row_33 rfl rfl) ?_)
                 intro w11 hu11 hB11 hz11
                 have hs11 := hu11.size
                 replace hU := hU.trans hu11 (by exact (fun _ _ h => h.elim))
                 replace hI := hI.upd hu11 (fun k hk hS => by exact (show False from hS).elim)
                 replace ht := ht.upd hu11 (fun k hk hl hS => by have := hFB k hk; exact (show False from hS).elim)
                 replace hB1 := hB1.upd hu11 (fun hS => by exact (show False from hS))
                 replace hol := hol.upd hu11 (fun k hk hl hS => by exact (show False from hS).elim)
                 replace hsb := hsb.upd hu11 (fun hS => by exact (show False from hS))
                 replace hos9 := hos9.upd hu11 (fun k hk hl hS => by exact (show False from hS).elim)
                 replace htu := htu.upd hu11 (fun k hk hl hS => by have := hFB k hk; exact (show False from hS).elim)
                 replace hb9 := hb9.upd hu11 (fun hS => by exact (show False from hS))
                 refine WL.cons (SO.append hol (show Rd _ _ _ 1 1 [I6 x] from Rd.of_blk (F := At _) (n := 1) (sz := 1) hB11 rfl rfl (by omega)) row_33 (fun u hu => by simp at hu; subst hu; rfl) (le_maxLen (by omega)) (by omega) rfl (ev_t rfl) (ev_t rfl) rfl rfl rfl rfl ?_)
                 intro v12 w12 hol hu12
                 have hs12 := hu12.size
                 replace hU := hU.trans hu12 (by (intro k hl hk; first | exact (show False from hk).elim | exact hacc k hl hk | exact .inl hk | (simp only [At] at hk; subst hk; first | exact .inr (.inr rfl) | (exfalso; omega)) | (rcases (hGs2 k hk).1 with h | h; exact .inr (.inl h); (exfalso; omega)) | (rcases hk with hk | hk; rcases (hGs2 k hk).1 with h | h; exact .inr (.inl h); (exfalso; omega); exact .inr (.inr hk))))
                 replace hI := hI.upd hu12 (fun k hk hS => by (have := hGl k hS; omega))
                 replace ht := ht.upd hu12 (fun k hk hl hS => by have := hFB k hk; (have := hGl k hS; omega))
                 replace hB1 := hB1.upd hu12 (fun hS => by (have := hGl _ hS; omega))
                 replace hsb := hsb.upd hu12 (fun hS => by (have := hGl _ hS; omega))
                 replace hos9 := hos9.upd hu12 (fun k hk hl hS => by exact hGls4 k hS hk)
                 replace htu := htu.upd hu12 (fun k hk hl hS => by have := hFB k hk; (have := hGl k hS; omega))
                 obtain ⟨A12, c12, rfl, hc12⟩ := Own.form hol
                 refine WL.val rfl rfl rfl rfl (r_assign rfl (ev_t rfl)) ?_
                 refine WL.nil ?_
                 refine WX.keep [(8, _)] ⟨rfl, trivial⟩ ?_
                 refine WX.next ?_
                 refine WC.ret ?_
                 refine WX.thenRet ?_
                 refine WX.blockRet ?_
                 refine WX.thenRet ?_
                 refine WX.blockRet ?_
                 refine WX.thenRet ?_
                 refine WX.retE1 rfl rfl ?_
                 have e1 : s.1.length + 1 = (s.1 ++ [x]).length := by simp
                 have e2 : s.1.map I6 ++ [I6 x] = (s.1 ++ [x]).map I6 := by simp
                 rw [e2, e1] at hol
                 refine ⟨_, Gs4, _, _, _, _, (by simp), hol, hsb, hos9, fun k hk => ?_, fun k hk => ⟨by rcases (hGs4 k hk).1 with h | h; exact .inl h; exact .inr (by omega), by have := hGs4 k hk; omega, (hGs4 k hk).2.2.1⟩, hU⟩
                 rcases hk with hk | hk
                 · have := hGl k hk; exact ⟨.inl hk, by omega, by omega, hGls4 k hk⟩
                 · exact ⟨.inr (by omega), by omega, by omega, fun h => by have := hGs4 k h; omega⟩
              · try (exfalso; first | (simp at hc6; done) | (simp only [decide_eq_true_eq, decide_eq_false_iff_not, Bool.not_eq_true', Bool.not_eq_false', Bool.not_eq_true, Bool.not_eq_false] at hc6; omega) | omega)
                all_goals
                 try simp only [decide_eq_true_eq, decide_eq_false_iff_not, Bool.not_eq_true', Bool.not_eq_false', Bool.not_eq_true, Bool.not_eq_false, Option.isNone_none, Option.isNone_some, Option.isSome_none, Option.isSome_some, ne_eq, Decidable.not_not] at hc6
                 obtain rfl : ok = true := by simp_all
                 rw [hok rfl] at hf2
                 simp only at hf2
                 refine WC.skip ?_
                 refine WX.next ?_
                 refine WC.region ?_
                 refine WL.val rfl rfl rfl rfl (r_loadAgg (vs := [_, _, _]) rfl (ev_t rfl) agg_28 size_28 (Blk.cellsL hb9)) ?_
                 refine WL.cons (SO.storeAll (us := [_, _, _]) rfl (ev_t rfl) (ev_t rfl) size_28 hB1 rfl rfl rfl rfl rfl ?_)
                 intro w13 hu13 hB1 hz13
                 have hs13 := hu13.size
                 replace hU := hU.trans hu13 (by (intro k hl hk; (try simp only [At, New, Grow, From, No] at hk ⊢); omega))
                 replace hI := hI.upd hu13 (fun k hk hS => by (simp only [At] at hS; omega))
                 replace ht := ht.upd hu13 (fun k hk hl hS => by have := hFB k hk; (simp only [At] at hS; omega))
                 replace hol := hol.upd hu13 (fun k hk hl hS => by (simp only [At] at hS; have := hGl k hk; omega))
                 replace hsb := hsb.upd hu13 (fun hS => by (simp only [At] at hS; omega))
                 replace hos9 := hos9.upd hu13 (fun k hk hl hS => by (simp only [At] at hS; have := hGs4 k hk; omega))
                 replace htu := htu.upd hu13 (fun k hk hl hS => by have := hFB k hk; (simp only [At] at hS; omega))
                 replace hb9 := hb9.upd hu13 (fun hS => by (simp only [At] at hS; omega))
                 refine WL.nil ?_
                 refine WX.keep [(0, _), (1, _), (3, _), (6, _)] ⟨rfl, rfl, rfl, rfl, trivial⟩ ?_
                 refine WX.blockNormal ?_
                 refine WX.meet [(0, _), (1, _), (3, _), (6, _)] ⟨rfl, rfl, rfl, rfl, trivial⟩ ?_
                 exact ⟨q', by omega, u, _, _, _, s2 ++ [x], Gs4, _, _, hf2, by omega, hmu, hU, by omega, hI, htu, hB1, hol, hsb, hos9, hGls4, fun k hk => (by have := hGs4 k hk; exact ⟨this.1, by omega, by omega, by omega, by omega⟩), rfl⟩
            · refine SO.alloc rfl rfl rfl rfl (r_buildSlice1 (vs := [_]) rfl ⟨(ev_t rfl), trivial⟩ rfl row_33 rfl rfl) ?_
              intro w14 hu14 hB14 hz14
              have hs14 := hu14.size
              try replace hS4 := Upd.trans hS4 hu14 (by intro k hl hk; exact (show False from hk).elim)
              replace hU := hU.trans hu14 (by exact (fun _ _ h => h.elim))
              replace hI := hI.upd hu14 (fun k hk hS => by exact (show False from hS).elim)
              replace ht := ht.upd hu14 (fun k hk hl hS => by have := hFB k hk; exact (show False from hS).elim)
              replace hB1 := hB1.upd hu14 (fun hS => by exact (show False from hS))
              replace hol := hol.upd hu14 (fun k hk hl hS => by exact (show False from hS).elim)
              replace hsb := hsb.upd hu14 (fun hS => by exact (show False from hS))
              replace hos := hos.upd hu14 (fun k hk hl hS => by exact (show False from hS).elim)
              refine ⟨trivial, ?_⟩
              refine WN.step _ rfl (SO.val rfl rfl rfl rfl (r_load rfl (ev_t rfl) flat_33 (Blk.cell hsb rfl)) ?_)
              refine ⟨hS4, ?_⟩
              refine WN.step _ rfl (SO.append hos (show Rd _ _ _ 1 1 [I6 x] from Rd.of_blk (F := At _) (n := 1) (sz := 1) hB14 rfl rfl (by omega)) row_33 (fun u hu => by simp at hu; subst hu; rfl) (le_maxLen (by omega)) (by omega) rfl (ev_t rfl) (ev_t rfl) rfl rfl rfl rfl ?_)
              intro v15 w15 hos3 hu15
              have hs15 := hu15.size
              try replace hS4 := Upd.trans hS4 hu15 (by intro k hl hk; exact .inl hk)
              replace hU := hU.trans hu15 (by (intro k hl hk; first | exact (show False from hk).elim | exact hacc k hl hk | exact .inl hk | (simp only [At] at hk; subst hk; first | exact .inr (.inr rfl) | (exfalso; omega)) | (rcases (hGs2 k hk).1 with h | h; exact .inr (.inl h); (exfalso; omega)) | (rcases hk with hk | hk; rcases (hGs2 k hk).1 with h | h; exact .inr (.inl h); (exfalso; omega); exact .inr (.inr hk))))
              replace hI := hI.upd hu15 (fun k hk hS => by (have := hGs2 k hS; omega))
              replace ht := ht.upd hu15 (fun k hk hl hS => by have := hFB k hk; (have := hGs2 k hS; omega))
              replace hB1 := hB1.upd hu15 (fun hS => by (have := hGs2 _ hS; omega))
              replace hol := hol.upd hu15 (fun k hk hl hS => by exact hGls k hk hS)
              replace hsb := hsb.upd hu15 (fun hS => by (have := hGs2 _ hS; omega))
              refine ⟨trivial, ?_⟩
              obtain ⟨A15, c15, rfl, hc15⟩ := Own.form hos3
              refine WN.calm _ rfl rfl rfl rfl rfl (fun _ => r_nilCheck rfl (ev_t rfl)) ?_
              refine WN.step _ rfl (SO.store rfl (ev_t rfl) (ev_t rfl) size_33 hsb rfl rfl rfl rfl rfl ?_)
              intro w16 hu16 hsb hz16
              have hs16 := hu16.size
              try replace hS4 := Upd.trans hS4 hu16 (by intro k hl hk; exact .inr hk)
              replace hU := hU.trans hu16 (by (intro k hl hk; (try simp only [At, New, Grow, From, No] at hk ⊢); omega))
              replace hI := hI.upd hu16 (fun k hk hS => by (simp only [At] at hS; omega))
              replace ht := ht.upd hu16 (fun k hk hl hS => by have := hFB k hk; (simp only [At] at hS; omega))
              replace hB1 := hB1.upd hu16 (fun hS => by (simp only [At] at hS; omega))
              replace hol := hol.upd hu16 (fun k hk hl hS => by (simp only [At] at hS; have := hGl k hk; omega))
              replace hos3 := hos3.upd hu16 (fun k hk hl hS => by (simp only [At] at hS; first | (rcases hk with hk | hk; have := hGs2 k hk; omega; omega) | (have := hGs4 k hk; omega)))
              refine ⟨trivial, ?_⟩
              refine WN.done ?_
              refine WX.keep [(0, _), (1, _), (3, _), (6, _)] ⟨rfl, rfl, rfl, rfl, trivial⟩ ?_
              obtain ⟨Gs4, hGs4e⟩ : ∃ Gs4 : Nat → Prop, Gs4 = fun k => Gs2 k ∨ (wA.heap.size ≤ k ∧ k < w16.heap.size) := ⟨_, rfl⟩
              have hos9 : Own w16 Gs4 3 1 _ _ _ := hos3.mono fun k hk => by rw [hGs4e]; exact hk.imp (fun h => h) (fun h => by omega)
              have hGs4 : ∀ k, Gs4 k → (Gs k ∨ w.heap.size < k) ∧ k < w16.heap.size ∧ k ≠ ps ∧ k ≠ w.heap.size ∧ B ≤ k := fun k hk => by
                rw [hGs4e] at hk
                rcases hk with hk | hk
                · have := hGs2 k hk; exact ⟨this.1, by omega, by omega, by omega, by omega⟩
                · exact ⟨.inr (by omega), by omega, by omega, by omega, by omega⟩
              have hGls4 : ∀ k, Gl k → ¬ Gs4 k := fun k hk h => by
                rw [hGs4e] at h
                rcases h with h | h
                · exact hGls k hk h
                · have := hGl k hk; omega
              rw [show s2.map I6 ++ [I6 x] = (s2 ++ [x]).map I6 by simp, show s2.length + 1 = (s2 ++ [x]).length by simp] at hos9
              rw [show s2.length + 1 = (s2 ++ [x]).length by simp] at hsb
              refine WX.next ?_
              refine WC.seq ?_
              refine WC.region ?_
              refine WL.val rfl rfl rfl rfl (r_move rfl (ev_t rfl)) ?_
              first | refine WL.val rfl rfl rfl rfl (r_field0 rfl (ev_t rfl) fld_28_1) ?_ | refine WL.val rfl rfl rfl rfl (r_fieldAt rfl (ev_t rfl) fld_28_1) ?_
              refine WL.val rfl rfl rfl rfl (r_load rfl (ev_t rfl) flat_3 (Blk.cell hB1 rfl)) ?_
              refine WL.cons (SO.call (stands_ok hI.1) rfl body_50 ⟨(ev_t rfl), (ev_t rfl), trivial⟩ rfl rfl rfl rfl ?_)
              rintro v w17 ⟨u, mu, Au, ku, ok, rfl, htu, hmu, hok, hno, hu17⟩
              have hs17 := hu17.size
              replace hU := hU.trans hu17 (by exact (fun _ _ h => h.elim))
              replace hI := hI.upd hu17 (fun k hk hS => by exact (show False from hS).elim)
              replace ht := ht.upd hu17 (fun k hk hl hS => by have := hFB k hk; exact (show False from hS).elim)
              replace hB1 := hB1.upd hu17 (fun hS => by exact (show False from hS))
              replace hol := hol.upd hu17 (fun k hk hl hS => by exact (show False from hS).elim)
              replace hsb := hsb.upd hu17 (fun hS => by exact (show False from hS))
              replace hos9 := hos9.upd hu17 (fun k hk hl hS => by exact (show False from hS).elim)
              refine WL.val rfl rfl rfl rfl (r_move rfl (ev_t rfl)) ?_
              refine WL.val rfl rfl rfl rfl (r_extract rfl (ev_t rfl) rfl) ?_
              refine WL.val rfl rfl rfl rfl (r_extract rfl (ev_t rfl) rfl) ?_
              refine WL.cons (SO.alloc rfl rfl rfl rfl (r_alloc rfl zero_28) ?_)
              intro w18 hu18 hB18 hz18
              have hs18 := hu18.size
              replace hU := hU.trans hu18 (by exact (fun _ _ h => h.elim))
              replace hI := hI.upd hu18 (fun k hk hS => by exact (show False from hS).elim)
              replace ht := ht.upd hu18 (fun k hk hl hS => by have := hFB k hk; exact (show False from hS).elim)
              replace hB1 := hB1.upd hu18 (fun hS => by exact (show False from hS))
              replace hol := hol.upd hu18 (fun k hk hl hS => by exact (show False from hS).elim)
              replace hsb := hsb.upd hu18 (fun hS => by exact (show False from hS))
              replace hos9 := hos9.upd hu18 (fun k hk hl hS => by exact (show False from hS).elim)
              replace htu := htu.upd hu18 (fun k hk hl hS => by have := hFB k hk; exact (show False from hS).elim)
              refine WL.cons (SO.storeAll (us := [_, _, _]) rfl (ev_t rfl) (ev_t rfl) size_28 hB18 rfl rfl rfl rfl rfl ?_)
              intro w19 hu19 hB18 hz19
              have hs19 := hu19.size
              replace hU := hU.trans hu19 (by (intro k hl hk; (try simp only [At, New, Grow, From, No] at hk ⊢); omega))
              replace hI := hI.upd hu19 (fun k hk hS => by (simp only [At] at hS; omega))
              replace ht := ht.upd hu19 (fun k hk hl hS => by have := hFB k hk; (simp only [At] at hS; omega))
              replace hB1 := hB1.upd hu19 (fun hS => by (simp only [At] at hS; omega))
              replace hol := hol.upd hu19 (fun k hk hl hS => by (simp only [At] at hS; have := hGl k hk; omega))
              replace hsb := hsb.upd hu19 (fun hS => by (simp only [At] at hS; omega))
              replace hos9 := hos9.upd hu19 (fun k hk hl hS => by (simp only [At] at hS; have := hGs4 k hk; omega))
              replace htu := htu.upd hu19 (fun k hk hl hS => by have := hFB k hk; (simp only [At] at hS; omega))
              refine WL.val rfl rfl rfl rfl (r_assign rfl (ev_t rfl)) ?_
              refine WL.nil ?_
              refine WX.keep [(0, _), (1, _), (3, _), (6, _), (9, _), (10, _)] ⟨rfl, rfl, rfl, rfl, rfl, rfl, trivial⟩ ?_
              have hb9 := hB18
              refine WX.next ?_
              refine WC.seq ?_
              refine WC.seq ?_
              refine WC.region ?_
              refine WL.val rfl rfl rfl rfl (r_move rfl (ev_t rfl)) ?_
              refine WL.val rfl rfl rfl rfl (r_not rfl (ev_t rfl)) ?_
              refine WL.nil ?_
              refine WX.keep [(0, _), (1, _), (3, _), (6, _), (9, _), (39, _)] ⟨rfl, rfl, rfl, rfl, rfl, rfl, trivial⟩ ?_
              refine WX.next ?_
              refine WC.cond rfl (ev_t rfl) (fun hc6 => ?_) (fun hc6 => ?_)
              · try (exfalso; first | (simp at hc6; done) | (simp only [decide_eq_true_eq, decide_eq_false_iff_not, Bool.not_eq_true', Bool.not_eq_false', Bool.not_eq_true, Bool.not_eq_false] at hc6; omega) | omega)
                all_goals
                 try simp only [decide_eq_true_eq, decide_eq_false_iff_not, Bool.not_eq_true', Bool.not_eq_false', Bool.not_eq_true, Bool.not_eq_false, Option.isNone_none, Option.isNone_some, Option.isSome_none, Option.isSome_some, ne_eq, Decidable.not_not] at hc6
                 obtain rfl : ok = false := by simp_all
                 rw [hno rfl] at hf2
                 injection hf2 with hf2
                 subst hf2
                 refine WC.seq ?_
                 refine WC.region ?_
                 refine WL.val rfl rfl rfl rfl (r_move rfl (ev_t rfl)) ?_
                 first | refine WL.val rfl rfl rfl rfl (r_field0 rfl (ev_t rfl) fld_28_1) ?_ | refine WL.val rfl rfl rfl rfl (r_fieldAt rfl (ev_t rfl) fld_28_1) ?_
                 refine WL.val rfl rfl rfl rfl (r_load rfl (ev_t rfl) flat_3 (Blk.cell hB1 rfl)) ?_
                 refine WL.cons (SO.alloc rfl rfl rfl rfl (r_buildSlice1 (vs := [_]) rfl ⟨(ev_t rfl), trivial⟩ rfl row_33 rfl rfl) ?_)
                 intro w20 hu20 hB20 hz20
                 have hs20 := hu20.size
                 replace hU := hU.trans hu20 (by exact (fun _ _ h => h.elim))
                 replace hI := hI.upd hu20 (fun k hk hS => by exact (show False from hS).elim)
                 replace ht := ht.upd hu20 (fun k hk hl hS => by have := hFB k hk; exact (show False from hS).elim)
                 replace hB1 := hB1.upd hu20 (fun hS => by exact (show False from hS))
                 replace hol := hol.upd hu20 (fun k hk hl hS => by exact (show False from hS).elim)
                 replace hsb := hsb.upd hu20 (fun hS => by exact (show False from hS))
                 replace hos9 := hos9.upd hu20 (fun k hk hl hS => by exact (show False from hS).elim)
                 replace htu := htu.upd hu20 (fun k hk hl hS => by have := hFB k hk; exact (show False from hS).elim)
                 replace hb9 := hb9.upd hu20 (fun hS => by exact (show False from hS))
                 refine WL.cons (SO.append hol (show Rd _ _ _ 1 1 [I6 x] from Rd.of_blk (F := At _) (n := 1) (sz := 1) hB20 rfl rfl (by omega)) row_33 (fun u hu => by simp at hu; subst hu; rfl) (le_maxLen (by omega)) (by omega) rfl (ev_t rfl) (ev_t rfl) rfl rfl rfl rfl ?_)
                 intro v21 w21 hol hu21
                 have hs21 := hu21.size
                 replace hU := hU.trans hu21 (by (intro k hl hk; first | exact (show False from hk).elim | exact hacc k hl hk | exact .inl hk | (simp only [At] at hk; subst hk; first | exact .inr (.inr rfl) | (exfalso; omega)) | (rcases (hGs2 k hk).1 with h | h; exact .inr (.inl h); (exfalso; omega)) | (rcases hk with hk | hk; rcases (hGs2 k hk).1 with h | h; exact .inr (.inl h); (exfalso; omega); exact .inr (.inr hk))))
                 replace hI := hI.upd hu21 (fun k hk hS => by (have := hGl k hS; omega))
                 replace ht := ht.upd hu21 (fun k hk hl hS => by have := hFB k hk; (have := hGl k hS; omega))
                 replace hB1 := hB1.upd hu21 (fun hS => by (have := hGl _ hS; omega))
                 replace hsb := hsb.upd hu21 (fun hS => by (have := hGl _ hS; omega))
                 replace hos9 := hos9.upd hu21 (fun k hk hl hS => by exact hGls4 k hS hk)
                 replace htu := htu.upd hu21 (fun k hk hl hS => by have := hFB k hk; (have := hGl k hS; omega))
                 obtain ⟨A21, c21, rfl, hc21⟩ := Own.form hol
                 refine WL.val rfl rfl rfl rfl (r_assign rfl (ev_t rfl)) ?_
                 refine WL.nil ?_
                 refine WX.keep [(8, _)] ⟨rfl, trivial⟩ ?_
                 refine WX.next ?_
                 refine WC.ret ?_
                 refine WX.thenRet ?_
                 refine WX.blockRet ?_
                 refine WX.thenRet ?_
                 refine WX.blockRet ?_
                 refine WX.thenRet ?_
                 refine WX.retE1 rfl rfl ?_
                 have e1 : s.1.length + 1 = (s.1 ++ [x]).length := by simp
                 have e2 : s.1.map I6 ++ [I6 x] = (s.1 ++ [x]).map I6 := by simp
                 rw [e2, e1] at hol
                 refine ⟨_, Gs4, _, _, _, _, (by simp), hol, hsb, hos9, fun k hk => ?_, fun k hk => ⟨by rcases (hGs4 k hk).1 with h | h; exact .inl h; exact .inr (by omega), by have := hGs4 k hk; omega, (hGs4 k hk).2.2.1⟩, hU⟩
                 rcases hk with hk | hk
                 · have := hGl k hk; exact ⟨.inl hk, by omega, by omega, hGls4 k hk⟩
                 · exact ⟨.inr (by omega), by omega, by omega, fun h => by have := hGs4 k h; omega⟩
              · try (exfalso; first | (simp at hc6; done) | (simp only [decide_eq_true_eq, decide_eq_false_iff_not, Bool.not_eq_true', Bool.not_eq_false', Bool.not_eq_true, Bool.not_eq_false] at hc6; omega) | omega)
                all_goals
                 try simp only [decide_eq_true_eq, decide_eq_false_iff_not, Bool.not_eq_true', Bool.not_eq_false', Bool.not_eq_true, Bool.not_eq_false, Option.isNone_none, Option.isNone_some, Option.isSome_none, Option.isSome_some, ne_eq, Decidable.not_not] at hc6
                 obtain rfl : ok = true := by simp_all
                 rw [hok rfl] at hf2
                 simp only at hf2
                 refine WC.skip ?_
                 refine WX.next ?_
                 refine WC.region ?_
                 refine WL.val rfl rfl rfl rfl (r_loadAgg (vs := [_, _, _]) rfl (ev_t rfl) agg_28 size_28 (Blk.cellsL hb9)) ?_
                 refine WL.cons (SO.storeAll (us := [_, _, _]) rfl (ev_t rfl) (ev_t rfl) size_28 hB1 rfl rfl rfl rfl rfl ?_)
                 intro w22 hu22 hB1 hz22
                 have hs22 := hu22.size
                 replace hU := hU.trans hu22 (by (intro k hl hk; (try simp only [At, New, Grow, From, No] at hk ⊢); omega))
                 replace hI := hI.upd hu22 (fun k hk hS => by (simp only [At] at hS; omega))
                 replace ht := ht.upd hu22 (fun k hk hl hS => by have := hFB k hk; (simp only [At] at hS; omega))
                 replace hol := hol.upd hu22 (fun k hk hl hS => by (simp only [At] at hS; have := hGl k hk; omega))
                 replace hsb := hsb.upd hu22 (fun hS => by (simp only [At] at hS; omega))
                 replace hos9 := hos9.upd hu22 (fun k hk hl hS => by (simp only [At] at hS; have := hGs4 k hk; omega))
                 replace htu := htu.upd hu22 (fun k hk hl hS => by have := hFB k hk; (simp only [At] at hS; omega))
                 replace hb9 := hb9.upd hu22 (fun hS => by (simp only [At] at hS; omega))
                 refine WL.nil ?_
                 refine WX.keep [(0, _), (1, _), (3, _), (6, _)] ⟨rfl, rfl, rfl, rfl, trivial⟩ ?_
                 refine WX.blockNormal ?_
                 refine WX.meet [(0, _), (1, _), (3, _), (6, _)] ⟨rfl, rfl, rfl, rfl, trivial⟩ ?_
                 exact ⟨q', by omega, u, _, _, _, s2 ++ [x], Gs4, _, _, hf2, by omega, hmu, hU, by omega, hI, htu, hB1, hol, hsb, hos9, hGls4, fun k hk => (by have := hGs4 k hk; exact ⟨this.1, by omega, by omega, by omega, by omega⟩), rfl⟩
      · try (exfalso; first | (simp at hc1; done) | (simp only [decide_eq_true_eq, decide_eq_false_iff_not, Bool.not_eq_true', Bool.not_eq_false', Bool.not_eq_true, Bool.not_eq_false] at hc1; omega) | omega)
        all_goals
         try simp only [decide_eq_true_eq, decide_eq_false_iff_not, Bool.not_eq_true', Bool.not_eq_false', Bool.not_eq_true, Bool.not_eq_false, Option.isNone_none, Option.isNone_some, Option.isSome_none, Option.isSome_some, ne_eq, Decidable.not_not] at hc1
         obtain ⟨f, ks, rfl⟩ := nm_c hc1
         obtain ⟨q', rfl⟩ : ∃ q', q = q' + 1 := by
           cases q with
           | zero => simp [frF] at hf2
           | succ q' => exact ⟨q', rfl⟩
         simp only [frF] at hf2
         obtain ⟨m9, A8, k8, xk, e1, e2, e3, _, hr, hl, hb, hk⟩ := ht.open
         injection e3 with e3 _ e5
         subst e3 e5
         have hks : TVs wA F xk ks := ⟨hl, hk⟩
         simp only [Ty.kids] at hr hl hb hB1 ⊢
         refine WC.exit ?_
         refine WX.thenExit ?_
         refine WX.thenExit ?_
         refine WX.blockHere ?_
         refine WX.next ?_
         refine WC.seq ?_
         refine WC.seq ?_
         refine WC.region ?_
         refine WL.val rfl rfl rfl rfl (r_assign rfl ev_c) ?_
         refine WL.nil ?_
         refine WX.keep [(0, _), (1, _), (3, _), (6, _), (11, _)] ⟨rfl, rfl, rfl, rfl, rfl, trivial⟩ ?_
         refine WX.next ?_
         refine WC.block ?_
         -- loop 2: live [0, 1, 3, 6, 11]
         refine WC.keep [(0, _), (1, _), (3, _), (6, _), (11, _)] ⟨rfl, rfl, rfl, rfl, rfl, trivial⟩ ?_
         refine WC.loop (fun q E wB => ∃ (i : Nat) (s3 : FrS) (Gl3 Gs3 : Nat → Prop) (A3 As3 : Option Addr) (c3' cs3 : Nat), i ≤ ks.length ∧ q = ks.length - i ∧ frL (frF σ q') (ks.drop i) s3 = some s' ∧ Upd (fun k => Gl k ∨ Gs k ∨ k = ps) w wB ∧ w.heap.size < wB.heap.size ∧ RfB wB F Gv Go Gd p σ D nn xs Av Ao Ad cv co cd B ∧ Rd wB F (.slice A0 ks.length k0) ks.length 3 (xk.flatMap c3) ∧ TVs wB F xk ks ∧   Blk wB w.heap.size #[.string ⟨(Ty.c f ks).nm.toArray⟩, .int .i64 m, .slice A0 ks.length k0] typ ∧ Own wB Gl3 3 1 (.slice A3 s3.1.length c3') s3.1.length (s3.1.map I6) ∧ Blk wB ps #[.slice As3 s3.2.length cs3] 33 ∧ Own wB Gs3 3 1 (.slice As3 s3.2.length cs3) s3.2.length (s3.2.map I6) ∧   (∀ k, Gl3 k → (Gl k ∨ w.heap.size < k) ∧ k < wB.heap.size ∧ k ≠ ps ∧ k ≠ w.heap.size ∧ B ≤ k ∧ ¬ Gs3 k) ∧ (∀ k, Gs3 k → (Gs k ∨ w.heap.size < k) ∧ k < wB.heap.size ∧ k ≠ ps ∧ k ≠ w.heap.size ∧ B ≤ k) ∧   E = [(0, .pointer (some ⟨p, 0, none⟩)), (1, .slice A3 s3.1.length c3'), (3, .pointer (some ⟨ps, 0, none⟩)), (6, .pointer (some ⟨w.heap.size, 0, none⟩)), (11, .int .i64 (i : Int))]) (ks.length) ?_ ?_
         · exact ⟨0, (s.1, s2), Gl, Gs2, _, _, _, _, by omega, by omega, hf2, hU, by omega, hI, hr, hks, hB1, hol, hsb, hos, fun k hk => (by have := hGl k hk; exact ⟨.inl hk, by omega, by omega, by omega, by omega, hGls k hk⟩), hGs2, rfl⟩
         · clear hU hI hr hks hB1 hol hsb hos
           rintro q E wB ⟨i, s3, Gl3, Gs3, A3, As3, c3', cs3, hi, rfl, hf3, hU, hszB, hI, hr, hks, hB1, hol, hsb, hos, hGl3, hGs3, rfl⟩
           have hacc : ∀ k, k < w.heap.size → (Gl3 k ∨ Gs3 k ∨ k = ps) → Gl k ∨ Gs k ∨ k = ps := fun k hl hk => by
             rcases hk with hk | hk | hk
             · rcases (hGl3 k hk).1 with h | h
               · exact .inl h
               · omega
             · rcases (hGs3 k hk).1 with h | h
               · exact .inr (.inl h)
               · omega
             · exact .inr (.inr hk)
           refine WC.seq ?_
           refine WC.seq ?_
           refine WC.region ?_
           refine WL.val rfl rfl rfl rfl (r_move rfl (ev_t rfl)) ?_
           first | refine WL.val rfl rfl rfl rfl (r_field0 rfl (ev_t rfl) fld_28_2) ?_ | refine WL.val rfl rfl rfl rfl (r_fieldAt rfl (ev_t rfl) fld_28_2) ?_
           refine WL.val rfl rfl rfl rfl (r_load rfl (ev_t rfl) flat_26 (Blk.cell hB1 rfl)) ?_
           refine WL.val rfl rfl rfl rfl (r_lenSlice (ts := #[]) rfl (ev_t rfl) elem_26) ?_
           refine WL.val rfl rfl rfl rfl (r_lss rfl (ev_t rfl) (ev_t rfl)) ?_
           refine WL.nil ?_
           refine WX.keep [(0, _), (1, _), (3, _), (6, _), (11, _), (50, _)] ⟨rfl, rfl, rfl, rfl, rfl, rfl, trivial⟩ ?_
           refine WX.next ?_
           refine WC.cond rfl (ev_t rfl) (fun hc10 => ?_) (fun hc10 => ?_)
           · try (exfalso; first | (simp at hc10; done) | (simp only [decide_eq_true_eq, decide_eq_false_iff_not, Bool.not_eq_true', Bool.not_eq_false', Bool.not_eq_true, Bool.not_eq_false] at hc10; omega) | omega)
             all_goals
              try simp only [decide_eq_true_eq, decide_eq_false_iff_not, Bool.not_eq_true', Bool.not_eq_false', Bool.not_eq_true, Bool.not_eq_false, Option.isNone_none, Option.isNone_some, Option.isSome_none, Option.isSome_some, ne_eq, Decidable.not_not] at hc10
              have hi' : i < ks.length := by omega
              obtain ⟨b0, off, rfl, _⟩ := hr.open (by omega)
              have hki : ks[i]? = some ks[i] := List.getElem?_eq_getElem hi'
              generalize ks[i] = kk at *
              obtain ⟨⟨ca, cb, cc⟩, hxi, htk⟩ := hks.get hki
              obtain ⟨s4, hs4, hf4⟩ := frL_at hki hf3
              have hP4 := frL_FrP (fun t s s' h => frF_FrP h) hf4
              have hP41 := hP4.l1
              have hP42 := hP4.l2
              refine WC.skip ?_
              refine WX.next ?_
              refine WC.seq ?_
              refine WC.block ?_
              refine WC.region ?_
              refine WL.val rfl rfl rfl rfl (r_move rfl (ev_t rfl)) ?_
              refine WL.val rfl rfl rfl rfl (r_move rfl (ev_t rfl)) ?_
              first | refine WL.val rfl rfl rfl rfl (r_field0 rfl (ev_t rfl) fld_28_2) ?_ | refine WL.val rfl rfl rfl rfl (r_fieldAt rfl (ev_t rfl) fld_28_2) ?_
              refine WL.val rfl rfl rfl rfl (r_load rfl (ev_t rfl) flat_26 (Blk.cell hB1 rfl)) ?_
              refine WL.val rfl rfl rfl rfl (r_move rfl (ev_t rfl)) ?_
              refine WL.val rfl rfl rfl rfl (r_indexAddr rfl (ev_t rfl) (ev_t rfl) elem_26 size_28 (by omega) (by omega)) ?_
              refine WL.val rfl rfl rfl rfl (r_loadAgg (vs := [_, _, _]) rfl (ev_t rfl) agg_28 size_28 (kid_cells hr hxi rfl)) ?_
              refine WL.val rfl rfl rfl rfl (r_move rfl (ev_t rfl)) ?_
              refine WL.cons (SO.call (ih q' (by omega) _ Gl3 Gs3 _ _ _ _ _ _ _ kk s3 s4 hs4 (by omega) (by omega) hI htk hol hsb hos (fun k hk => by have := hGl3 k hk; exact ⟨by omega, by omega, by omega, this.2.2.2.2.2⟩) (fun k hk => by have := hGs3 k hk; omega)) rfl body_47 ⟨(ev_t rfl), (ev_t rfl), (ev_t rfl), (ev_t rfl), trivial⟩ rfl rfl rfl rfl ?_)
              rintro v w23 ⟨Gl5, Gs5, A5, As5, c5, cs5, rfl, hol5, hsb5, hos5, hGl5, hGs5, hu23⟩
              have hs23 := hu23.size
              replace hU := hU.trans hu23 (by (intro k hl hk; first | exact (show False from hk).elim | exact hacc k hl hk | exact .inl hk | (simp only [At] at hk; subst hk; first | exact .inr (.inr rfl) | (exfalso; omega)) | (rcases (hGs2 k hk).1 with h | h; exact .inr (.inl h); (exfalso; omega)) | (rcases hk with hk | hk; rcases (hGs2 k hk).1 with h | h; exact .inr (.inl h); (exfalso; omega); exact .inr (.inr hk))))
              replace hI := hI.upd hu23 (fun k hk hS => by (rcases hS with hS | hS | hS; have := hGl3 k hS; omega; have := hGs3 k hS; omega; omega))
              replace hr := hr.upd hu23 (fun k hk hl hS => by have := hFB k hk; (rcases hS with hS | hS | hS; have := hGl3 k hS; omega; have := hGs3 k hS; omega; omega))
              replace hks := hks.upd hu23 (fun k hk hl hS => by have := hFB k hk; (rcases hS with hS | hS | hS; have := hGl3 k hS; omega; have := hGs3 k hS; omega; omega))
              replace hB1 := hB1.upd hu23 (fun hS => by (rcases hS with hS | hS | hS; have := hGl3 _ hS; omega; have := hGs3 _ hS; omega; omega))
              refine WL.val rfl rfl rfl rfl (r_assign rfl (ev_t rfl)) ?_
              refine WL.nil ?_
              refine WX.keep [(0, _), (1, _), (3, _), (6, _), (11, _)] ⟨rfl, rfl, rfl, rfl, rfl, trivial⟩ ?_
              refine WX.blockNormal ?_
              refine WX.next ?_
              refine WC.region ?_
              refine WL.val rfl rfl rfl rfl (r_move rfl (ev_t rfl)) ?_
              first | refine WL.val rfl rfl rfl rfl (r_addN rfl (ev_t rfl) ev_c (by simp only [inK]; omega)) ?_ | refine WL.val rfl rfl rfl rfl (r_add rfl (ev_t rfl) ev_c) ?_
              refine WL.val rfl rfl rfl rfl (r_assign rfl (ev_t rfl)) ?_
              refine WL.nil ?_
              refine WX.keep [(0, _), (1, _), (3, _), (6, _), (11, _)] ⟨rfl, rfl, rfl, rfl, rfl, trivial⟩ ?_
              refine WX.meet [(0, _), (1, _), (3, _), (6, _), (11, _)] ⟨rfl, rfl, rfl, rfl, rfl, trivial⟩ ?_
              refine ⟨ks.length - (i + 1), by omega, i + 1, s4, Gl5, Gs5, _, _, _, _, by omega, rfl, hf4, hU, by omega, hI, hr, hks, hB1, hol5, hsb5, hos5, fun k hk => ?_, fun k hk => ?_, by simp⟩
              · have h := hGl5 k hk
                rcases h.1 with h1 | h1
                · have := hGl3 k h1; exact ⟨this.1, by omega, by omega, by omega, by omega, h.2.2.2⟩
                · exact ⟨.inr (by omega), by omega, by omega, by omega, by omega, h.2.2.2⟩
              · have h := hGs5 k hk
                rcases h.1 with h1 | h1
                · have := hGs3 k h1; exact ⟨this.1, by omega, by omega, by omega, by omega⟩
                · exact ⟨.inr (by omega), by omega, by omega, by omega, by omega⟩
           · try (exfalso; first | (simp at hc10; done) | (simp only [decide_eq_true_eq, decide_eq_false_iff_not, Bool.not_eq_true', Bool.not_eq_false', Bool.not_eq_true, Bool.not_eq_false] at hc10; omega) | omega)
             all_goals
              try simp only [decide_eq_true_eq, decide_eq_false_iff_not, Bool.not_eq_true', Bool.not_eq_false', Bool.not_eq_true, Bool.not_eq_false, Option.isNone_none, Option.isNone_some, Option.isSome_none, Option.isSome_some, ne_eq, Decidable.not_not] at hc10
              obtain rfl : i = ks.length := by omega
              rw [List.drop_length] at hf3
              simp only [frL] at hf3
              injection hf3 with hf3
              subst hf3
              refine WC.exit ?_
              refine WX.thenExit ?_
              refine WX.thenExit ?_
              refine WX.blockHere ?_
              refine WX.next ?_
              refine WC.seq ?_
              refine WC.region ?_
              refine WL.val rfl rfl rfl rfl (r_move rfl (ev_t rfl)) ?_
              refine WL.val rfl rfl rfl rfl (r_assign rfl (ev_t rfl)) ?_
              refine WL.nil ?_
              refine WX.keep [(8, _)] ⟨rfl, trivial⟩ ?_
              refine WX.next ?_
              refine WC.ret ?_
              refine WX.retE1 rfl rfl ?_
              exact ⟨Gl3, Gs3, _, _, _, _, rfl, hol, hsb, hos, fun k hk => (by have := hGl3 k hk; exact ⟨this.1.imp (fun h => h) (fun h => by omega), by omega, by omega, this.2.2.2.2.2⟩), fun k hk => (by have := hGs3 k hk; exact ⟨this.1.imp (fun h => h) (fun h => by omega), by omega, by omega⟩), hU⟩
end Go.Proofs.Ytncakfcafkfmfaa

/-
  types: the reference's in, Unify.
-/
namespace Go.Proofs.Ytncakfcafkfmfaa
open Go
set_option linter.unusedSimpArgs false
set_option linter.unusedVariables false

theorem rin_ok {w : World} {F G : Nat → Prop} {p n : Nat} {σ : Sg} {D : Dn} {nn x : Int} {a1 a2 a3 : Value} {t : Ty} {s' : FrS} (hf : frF σ n t ([], []) = some s') (hlen : s'.1.length ≤ 1000000000) (hI : RS w F G p σ D nn) (hFb : ∀ k, F k → k < w.heap.size) (ht : TV w F (a1, a2, a3) t) :
    Ret Try.prog 36 #[.pointer (some ⟨p, 0, none⟩), .int .i64 x, .agg #[a1, a2, a3]] w fun v w' => v = .bool (decide (x ∈ s'.1)) ∧ Upd No w w' := by
  obtain ⟨Gv, Go, Gd, xs, Av, Ao, Ad, cv, co, cd, hIr, hs⟩ := hI
  have hIB : RfB w F Gv Go Gd p σ D nn xs Av Ao Ad cv co cd w.heap.size := ⟨hIr, fun k hk => by
    rcases hk with rfl | hk | hk | hk | hk
    · exact hs.lt _ hs.hp
    · exact hFb k hk
    · exact hs.lt k (hs.v k hk).1
    · exact hs.lt k (hs.o k hk).1
    · exact hs.lt k (hs.d k hk).1⟩
  have hle := hIr.le
  have hfl := ((frF_FrP hf).i (FrI.nil σ)).len
  obtain ⟨m0, A9, k9, xk9, rfl, rfl, rfl, hm9, _⟩ := ht.open
  refine enterRet (vs := [_, _, _]) (N := 13) Try.func36 rfl rfl rfl ?_
  have hU := Upd.refl No w
  refine WC.keep [(0, _), (1, _), (2, _)] ⟨rfl, rfl, rfl, trivial⟩ ?_
  refine WC.seq ?_
  refine WC.region ?_
  refine WL.cons (SO.alloc rfl rfl rfl rfl (r_boxAgg rfl (ev_t rfl)) ?_)
  intro w1 hu1 hB1 hz1
  have hs1 := hu1.size
  replace hU := hU.trans hu1 (by exact (fun _ _ h => h))
  refine WL.val rfl rfl rfl rfl (r_assign rfl ev_c) ?_
  refine WL.nil ?_
  refine WX.keep [(0, _), (1, _), (5, _)] ⟨rfl, rfl, rfl, trivial⟩ ?_
  refine WX.next ?_
  refine WC.seq ?_
  refine WC.region ?_
  refine WL.cons (SO.alloc rfl rfl rfl rfl (r_alloc rfl zero_33) ?_)
  intro w2 hu2 hB2 hz2
  have hs2 := hu2.size
  replace hU := hU.trans hu2 (by exact (fun _ _ h => h))
  replace hB1 := hB1.updA hu2
  refine WL.nil ?_
  refine WX.keep [(0, _), (1, _), (5, _), (7, _)] ⟨rfl, rfl, rfl, rfl, trivial⟩ ?_
  refine WX.next ?_
  refine WC.seq ?_
  refine WC.region ?_
  refine WL.val rfl rfl rfl rfl (r_move rfl (ev_t rfl)) ?_
  refine WL.val rfl rfl rfl rfl (r_loadAgg (vs := [_, _, _]) rfl (ev_t rfl) agg_28 size_28 (Blk.cellsL hB1)) ?_
  refine WL.cons (SO.call (rfree_ok (B := w.heap.size) (ps := w1.heap.size) hFb (by omega) n _ (fun _ => False) (fun _ => False) none none 0 0 _ _ _ t ([], []) s' hf (by omega) (by omega) (hIB.upd hU (fun _ _ h => h)) (ht.upd hU (fun _ _ _ h => h)) (Own.nil _ _ _ _) hB2 (Own.nil _ _ _ _) (fun k h => h.elim) (fun k h => h.elim)) rfl body_47 ⟨(ev_t rfl), ev_c, (ev_t rfl), (ev_t rfl), trivial⟩ rfl rfl rfl rfl ?_)
  rintro v w3 ⟨Gl, Gs, A5, As5, c5, cs5, rfl, hol, hsb, hos, hGl, hGs, hu3⟩
  have hs3 := hu3.size
  replace hU := hU.trans hu3 (by (intro k hl hk; rcases hk with hk | hk | hk <;> first | exact hk.elim | omega))
  refine WL.val rfl rfl rfl rfl (r_move rfl (ev_t rfl)) ?_
  refine WL.cons (SO.call (has_ok (hol.rd (by omega))) rfl body_30 ⟨(ev_t rfl), (ev_t rfl), trivial⟩ rfl rfl rfl rfl ?_)
  rintro v w4 ⟨rfl, he⟩
  obtain rfl := he.symm
  refine WL.val rfl rfl rfl rfl (r_assign rfl (ev_t rfl)) ?_
  refine WL.nil ?_
  refine WX.keep [(6, _)] ⟨rfl, trivial⟩ ?_
  refine WX.next ?_
  refine WC.ret ?_
  refine WX.retE1 rfl rfl ?_
  exact ⟨rfl, hU⟩

theorem take_zero3 {xs : List C3} {n : Nat} {a b c z1 z2 z3 : Value} (h : xs.length = n) : (xs.flatMap c3 ++ [z1, z2, z3]).take (n * 3) ++ [a, b, c] ++ (xs.flatMap c3 ++ [z1, z2, z3]).drop (n * 3 + 3) = (xs ++ [(a, b, c)]).flatMap c3 := by
  have hl : (xs.flatMap c3).length = n * 3 := by rw [flatMap_len c3_len, h]
  rw [List.take_append_of_le_length (by omega), List.take_of_length_le (by omega), List.drop_eq_nil_of_le (by simp [hl]), List.append_nil]
  simp [c3]

theorem unH_len {n : Nat} {σ : Sg} {D1 : Dn} {a' b' : Ty} {r : Bool} {σ' : Sg} {D' : Dn} (h : unH n (unF n) σ D1 a' b' = some (r, σ', D')) : σ.length ≤ σ'.length ∧ D1.length ≤ D'.length := by
  cases a' <;> cases b' <;> simp only [unH] at h
  · split at h
    · injection h with h; injection h with _ h; injection h with h1 h2; subst h1; subst h2; exact ⟨Nat.le_refl _, Nat.le_refl _⟩
    · exact bdF_len h
  · exact bdF_len h
  · exact unF_len h
  · split at h
    · injection h with h; injection h with _ h; injection h with h1 h2; subst h1; subst h2; exact ⟨Nat.le_refl _, Nat.le_refl _⟩
    · exact unL_len (fun σ D a b r σ' D' h => unF_len h) h

def RUn (n : Nat) (σ : Sg) (D : Dn) (R : UnS) (a b : Ty) : Prop := (∃ x n', a = .v x ∧ look σ x = none ∧ bdF n' σ D x b = some R) ∨ (∃ f ks g ls, a = .c f ks ∧ b = .c g ls ∧ unH n (unF n) σ D a b = some R)
set_option maxHeartbeats 8000000 in
theorem runify_ok {F : Nat → Prop} {p : Nat} {nn : Int} : ∀ (n : Nat) (w : World) (G : Nat → Prop) (σ : Sg) (D : Dn) (a b : Ty) (a1 a2 a3 b1 b2 b3 : Value) (r : Bool) (σ' : Sg) (D' : Dn), unF n σ D a b = some (r, σ', D') → σ'.length ≤ 1000000000 → D'.length ≤ 1000000000 →
    (∀ k, F k → k < w.heap.size) → RS w F G p σ D nn → TV w F (a1, a2, a3) a → TV w F (b1, b2, b3) b →
    Ret Try.prog 23 #[.pointer (some ⟨p, 0, none⟩), .agg #[a1, a2, a3], .agg #[b1, b2, b3]] w fun v w' => v = .bool r ∧ (∃ G', RS w' F G' p σ' D' nn ∧ ∀ k, G' k → G k ∨ w.heap.size ≤ k) ∧ Upd G w w' := by
  intro n
  induction n with
  | zero => intro w G σ D a b a1 a2 a3 b1 b2 b3 r σ' D' h; simp [unF] at h
  | succ n ih =>
    intro w G σ D a b a1 a2 a3 b1 b2 b3 r σ' D' hf hlσ hlD hFb hI hta htb
    have hG0 := hI.lt
    have hle0 := hI.le
    obtain ⟨ma, Aa, ka, xka, rfl, rfl, rfl, hma, hra, hla, hba, hka⟩ := hta.open
    obtain ⟨mb, Ab, kb, xkb, rfl, rfl, rfl, hmb, hrb, hlb, hbb, hkb⟩ := htb.open
    refine enterRet (vs := [_, _, _]) (N := 119) Try.func23 rfl rfl rfl ?_
    have hU := Upd.refl G w
    refine WC.keep [(0, _), (1, _), (2, _)] ⟨rfl, rfl, rfl, trivial⟩ ?_
    refine WC.seq ?_
    refine WC.region ?_
    refine WL.cons (SO.alloc rfl rfl rfl rfl (r_boxAgg rfl (ev_t rfl)) ?_)
    intro w1 hu1 hB1 hz1
    have hs1 := hu1.size
    replace hU := hU.trans hu1 (by exact (fun _ _ h => h.elim))
    replace hI := hI.upd hu1 (fun k hk hl hS => by exact (show False from hS).elim)
    replace hta := hta.upd hu1 (fun k hk hl hS => by exact (show False from hS).elim)
    replace htb := htb.upd hu1 (fun k hk hl hS => by exact (show False from hS).elim)
    refine WL.cons (SO.alloc rfl rfl rfl rfl (r_boxAgg rfl (ev_t rfl)) ?_)
    intro w2 hu2 hB2 hz2
    have hs2 := hu2.size
    replace hU := hU.trans hu2 (by exact (fun _ _ h => h.elim))
    replace hI := hI.upd hu2 (fun k hk hl hS => by exact (show False from hS).elim)
    replace hta := hta.upd hu2 (fun k hk hl hS => by exact (show False from hS).elim)
    replace htb := htb.upd hu2 (fun k hk hl hS => by exact (show False from hS).elim)
    replace hB1 := hB1.upd hu2 (fun hS => by exact (show False from hS))
    refine WL.val rfl rfl rfl rfl (r_assign rfl ev_c) ?_
    refine WL.nil ?_
    refine WX.keep [(0, _), (4, _), (5, _)] ⟨rfl, rfl, rfl, trivial⟩ ?_
    refine WX.next ?_
    -- cut 1: live [0, 4, 5]
    refine WC.cut (fun E wA => ∃ (D1 : Dn) (a' b' : Ty) (G1 : Nat → Prop), Upd G w wA ∧ w.heap.size + 2 ≤ wA.heap.size ∧ Blk wA w.heap.size #[.string ⟨a.nm.toArray⟩, .int .i64 ma, .slice Aa a.kids.length ka] typ ∧ Blk wA w1.heap.size #[.string ⟨b.nm.toArray⟩, .int .i64 mb, .slice Ab b.kids.length kb] typ ∧ RS wA F G1 p σ D1 nn ∧ (∀ k, G1 k → G k ∨ w.heap.size + 2 ≤ k) ∧ TV wA F (.string ⟨a.nm.toArray⟩, .int .i64 ma, .slice Aa a.kids.length ka) a ∧ TV wA F (.string ⟨b.nm.toArray⟩, .int .i64 mb, .slice Ab b.kids.length kb) b ∧   hdF σ n a = some a' ∧ hdF σ n b = some b' ∧ unH n (unF n) σ D1 a' b' = some (r, σ', D') ∧   E = [(0, .pointer (some ⟨p, 0, none⟩)), (4, .pointer (some ⟨w.heap.size, 0, none⟩)), (5, .pointer (some ⟨w1.heap.size, 0, none⟩))]) ?_ ?_
    · refine WC.seq ?_
      refine WC.region ?_
      first | refine WL.val rfl rfl rfl rfl (r_field0 rfl (ev_t rfl) fld_28_0) ?_ | refine WL.val rfl rfl rfl rfl (r_fieldAt rfl (ev_t rfl) fld_28_0) ?_
      refine WL.val rfl rfl rfl rfl (r_load rfl (ev_t rfl) flat_9 (Blk.cell hB1 rfl)) ?_
      refine WL.val rfl rfl rfl rfl (r_eqlStrL rfl (ev_t rfl) ev_c) ?_
      refine WL.val rfl rfl rfl rfl (r_move rfl (ev_t rfl)) ?_
      refine WL.cases 11 rfl (fun hb1_3 => ?_) (fun hb1_3 => ?_)
      · try (exfalso; first | (simp at hb1_3; done) | (simp only [decide_eq_true_eq, decide_eq_false_iff_not, Bool.not_eq_true', Bool.not_eq_false', Bool.not_eq_true, Bool.not_eq_false] at hb1_3; omega) | omega)
        all_goals
         try simp only [decide_eq_true_eq, decide_eq_false_iff_not, Bool.not_eq_true', Bool.not_eq_false', Bool.not_eq_true, Bool.not_eq_false, Option.isNone_none, Option.isNone_some, Option.isSome_none, Option.isSome_some, ne_eq, Decidable.not_not] at hb1_3
         obtain ⟨x, rfl⟩ := Ty.nm_nil.1 hb1_3
         obtain rfl := (hma x rfl).symm
         first | refine WL.val rfl rfl rfl rfl (r_field0 rfl (ev_t rfl) fld_28_0) ?_ | refine WL.val rfl rfl rfl rfl (r_fieldAt rfl (ev_t rfl) fld_28_0) ?_
         refine WL.val rfl rfl rfl rfl (r_load rfl (ev_t rfl) flat_9 (Blk.cell hB2 rfl)) ?_
         refine WL.val rfl rfl rfl rfl (r_eqlStrL rfl (ev_t rfl) ev_c) ?_
         refine WL.val rfl rfl rfl rfl (r_pickT rfl (ev_t rfl) (ev_t rfl)) ?_
         refine WL.val rfl rfl rfl rfl (r_move rfl (ev_t rfl)) ?_
         refine WL.cases 16 rfl (fun hb1_8 => ?_) (fun hb1_8 => ?_)
         · try (exfalso; first | (simp at hb1_8; done) | (simp only [decide_eq_true_eq, decide_eq_false_iff_not, Bool.not_eq_true', Bool.not_eq_false', Bool.not_eq_true, Bool.not_eq_false] at hb1_8; omega) | omega)
           all_goals
            try simp only [decide_eq_true_eq, decide_eq_false_iff_not, Bool.not_eq_true', Bool.not_eq_false', Bool.not_eq_true, Bool.not_eq_false, Option.isNone_none, Option.isNone_some, Option.isSome_none, Option.isSome_some, ne_eq, Decidable.not_not] at hb1_8
            obtain ⟨y, rfl⟩ := Ty.nm_nil.1 hb1_8
            obtain rfl := (hmb y rfl).symm
            have hsm := unF_some (p := (x, y)) rfl hf
            refine WL.val rfl rfl rfl rfl (r_move rfl (ev_t rfl)) ?_
            first | refine WL.val rfl rfl rfl rfl (r_field0 rfl (ev_t rfl) fld_28_1) ?_ | refine WL.val rfl rfl rfl rfl (r_fieldAt rfl (ev_t rfl) fld_28_1) ?_
            refine WL.val rfl rfl rfl rfl (r_load rfl (ev_t rfl) flat_3 (Blk.cell hB1 rfl)) ?_
            first | refine WL.val rfl rfl rfl rfl (r_field0 rfl (ev_t rfl) fld_28_1) ?_ | refine WL.val rfl rfl rfl rfl (r_fieldAt rfl (ev_t rfl) fld_28_1) ?_
            refine WL.val rfl rfl rfl rfl (r_load rfl (ev_t rfl) flat_3 (Blk.cell hB2 rfl)) ?_
            refine WL.cons (SO.call (done_ok hI (fun k hk => by have := hFb k hk; omega) (fun hn => by obtain ⟨_, _, _, _, hu⟩ := hsm.2 hn; have := (unH_len hu).2; simp at this; omega)) rfl body_35 ⟨(ev_t rfl), (ev_t rfl), (ev_t rfl), trivial⟩ rfl rfl rfl rfl ?_)
            rintro v w3 ⟨rfl, ⟨G9, hI9, hGG⟩, hu3⟩
            have hs3 := hu3.size
            replace hU := hU.trans hu3 (by exact (fun _ _ h => h))
            replace hta := hta.upd hu3 (fun k hk hl hS => by exact hI.f k hk hS)
            replace htb := htb.upd hu3 (fun k hk hl hS => by exact hI.f k hk hS)
            replace hB1 := hB1.upd hu3 (fun hS => by (have := hG0 _ hS; omega))
            replace hB2 := hB2.upd hu3 (fun hS => by (have := hG0 _ hS; omega))
            replace hI := hI9
            refine WL.val rfl rfl rfl rfl (r_pickT rfl (ev_t rfl) (ev_t rfl)) ?_
            refine WL.nil ?_
            refine WX.keep [(0, _), (4, _), (5, _), (23, _)] ⟨rfl, rfl, rfl, rfl, trivial⟩ ?_
            refine WX.next ?_
            refine WC.cond rfl (ev_t rfl) (fun hc1 => ?_) (fun hc1 => ?_)
            · try (exfalso; first | (simp at hc1; done) | (simp only [decide_eq_true_eq, decide_eq_false_iff_not, Bool.not_eq_true', Bool.not_eq_false', Bool.not_eq_true, Bool.not_eq_false] at hc1; omega) | omega)
              all_goals
               try simp only [decide_eq_true_eq, decide_eq_false_iff_not, Bool.not_eq_true', Bool.not_eq_false', Bool.not_eq_true, Bool.not_eq_false, Option.isNone_none, Option.isNone_some, Option.isSome_none, Option.isSome_some, ne_eq, Decidable.not_not] at hc1
               have hmem : (x, y) ∈ D := by simpa using hc1
               rw [if_pos hmem] at hI
               obtain hR := hsm.1 hmem
               injection hR with hR1 hR2
               injection hR2 with hR2 hR3
               subst hR1 hR2 hR3
               refine WC.seq ?_
               refine WC.region ?_
               refine WL.val rfl rfl rfl rfl (r_assign rfl ev_c) ?_
               refine WL.nil ?_
               refine WX.keep [(6, _)] ⟨rfl, trivial⟩ ?_
               refine WX.next ?_
               refine WC.ret ?_
               refine WX.thenRet ?_
               refine WX.retE1 rfl rfl ?_
               exact ⟨rfl, ⟨G9, hI, fun k h => (hGG k h).imp (fun h => h) (fun h => by omega)⟩, hU⟩
            · try (exfalso; first | (simp at hc1; done) | (simp only [decide_eq_true_eq, decide_eq_false_iff_not, Bool.not_eq_true', Bool.not_eq_false', Bool.not_eq_true, Bool.not_eq_false] at hc1; omega) | omega)
              all_goals
               try simp only [decide_eq_true_eq, decide_eq_false_iff_not, Bool.not_eq_true', Bool.not_eq_false', Bool.not_eq_true, Bool.not_eq_false, Option.isNone_none, Option.isNone_some, Option.isSome_none, Option.isSome_some, ne_eq, Decidable.not_not] at hc1
               first
                 | (obtain ⟨a', b', ha', hb', huh⟩ := hsm.2 (by simpa using hc1)
                    rw [if_neg (by simpa using hc1)] at hI)
                 | skip
               refine WC.skip ?_
               refine WX.meet [(0, _), (4, _), (5, _)] ⟨rfl, rfl, rfl, trivial⟩ ?_
               first
                 | exact ⟨_, a', b', G, hU, by omega, hB1, hB2, hI, fun k h => .inl h, hta, htb, ha', hb', huh, rfl⟩
                 | exact ⟨_, a', b', G9, hU, by omega, hB1, hB2, hI, fun k h => (hGG k h).imp (fun h => h) (fun h => by omega), hta, htb, ha', hb', huh, rfl⟩
         · try (exfalso; first | (simp at hb1_8; done) | (simp only [decide_eq_true_eq, decide_eq_false_iff_not, Bool.not_eq_true', Bool.not_eq_false', Bool.not_eq_true, Bool.not_eq_false] at hb1_8; omega) | omega)
           all_goals
            try simp only [decide_eq_true_eq, decide_eq_false_iff_not, Bool.not_eq_true', Bool.not_eq_false', Bool.not_eq_true, Bool.not_eq_false, Option.isNone_none, Option.isNone_some, Option.isSome_none, Option.isSome_some, ne_eq, Decidable.not_not] at hb1_8
            obtain ⟨f, ks, rfl⟩ := nm_c hb1_8
            obtain ⟨a', b', ha', hb', huh⟩ := unF_none pairOf_vc hf
            refine WL.skip rfl rfl rfl ?_
            refine WL.skip rfl rfl rfl ?_
            refine WL.skip rfl rfl rfl ?_
            refine WL.skip rfl rfl rfl ?_
            refine WL.skip rfl rfl rfl ?_
            refine WL.skip rfl rfl rfl ?_
            refine WL.val rfl rfl rfl rfl (r_pickF rfl (ev_t rfl) ev_c) ?_
            refine WL.nil ?_
            refine WX.keep [(0, _), (4, _), (5, _), (23, _)] ⟨rfl, rfl, rfl, rfl, trivial⟩ ?_
            refine WX.next ?_
            refine WC.cond_false rfl (ev_t rfl) ?_
            refine WC.skip ?_
            refine WX.meet [(0, _), (4, _), (5, _)] ⟨rfl, rfl, rfl, trivial⟩ ?_
            first
              | exact ⟨_, a', b', G, hU, by omega, hB1, hB2, hI, fun k h => .inl h, hta, htb, ha', hb', huh, rfl⟩
              | exact ⟨_, a', b', G9, hU, by omega, hB1, hB2, hI, fun k h => (hGG k h).imp (fun h => h) (fun h => by omega), hta, htb, ha', hb', huh, rfl⟩
      · try (exfalso; first | (simp at hb1_3; done) | (simp only [decide_eq_true_eq, decide_eq_false_iff_not, Bool.not_eq_true', Bool.not_eq_false', Bool.not_eq_true, Bool.not_eq_false] at hb1_3; omega) | omega)
        all_goals
         try simp only [decide_eq_true_eq, decide_eq_false_iff_not, Bool.not_eq_true', Bool.not_eq_false', Bool.not_eq_true, Bool.not_eq_false, Option.isNone_none, Option.isNone_some, Option.isSome_none, Option.isSome_some, ne_eq, Decidable.not_not] at hb1_3
         obtain ⟨f, ks, rfl⟩ := nm_c hb1_3
         obtain ⟨a', b', ha', hb', huh⟩ := unF_none pairOf_c hf
         refine WL.skip rfl rfl rfl ?_
         refine WL.skip rfl rfl rfl ?_
         refine WL.skip rfl rfl rfl ?_
         refine WL.val rfl rfl rfl rfl (r_pickF rfl (ev_t rfl) ev_c) ?_
         refine WL.val rfl rfl rfl rfl (r_move rfl (ev_t rfl)) ?_
         refine WL.skip rfl rfl rfl ?_
         refine WL.skip rfl rfl rfl ?_
         refine WL.skip rfl rfl rfl ?_
         refine WL.skip rfl rfl rfl ?_
         refine WL.skip rfl rfl rfl ?_
         refine WL.skip rfl rfl rfl ?_
         refine WL.val rfl rfl rfl rfl (r_pickF rfl (ev_t rfl) ev_c) ?_
         refine WL.nil ?_
         refine WX.keep [(0, _), (4, _), (5, _), (23, _)] ⟨rfl, rfl, rfl, rfl, trivial⟩ ?_
         refine WX.next ?_
         refine WC.cond_false rfl (ev_t rfl) ?_
         refine WC.skip ?_
         refine WX.meet [(0, _), (4, _), (5, _)] ⟨rfl, rfl, rfl, trivial⟩ ?_
         first
           | exact ⟨_, a', b', G, hU, by omega, hB1, hB2, hI, fun k h => .inl h, hta, htb, ha', hb', huh, rfl⟩
           | exact ⟨_, a', b', G9, hU, by omega, hB1, hB2, hI, fun k h => (hGG k h).imp (fun h => h) (fun h => by omega), hta, htb, ha', hb', huh, rfl⟩
    · clear hU hI hta htb hB1 hB2
      rintro E wA ⟨D1, a', b', G1, hU, hsz, hb4, hb5, hI, hGG, hta, htb, ha', hb', huh, rfl⟩
      refine WC.seq ?_
      refine WC.region ?_
      have hIx := hI
      obtain ⟨Gv, Go, Gd, xs, Av, Ao, Ad, cv, co, cd, hIr, hSp⟩ := hIx
      refine WL.val rfl rfl rfl rfl (r_move rfl (ev_t rfl)) ?_
      refine WL.val rfl rfl rfl rfl (r_loadAgg (vs := [_, _, _]) rfl (ev_t rfl) agg_28 size_28 (Blk.cellsL hb4)) ?_
      refine WL.cons (SO.call (rhead_ok _ _ _ _ _ _ _ _ hIr hta ha') rfl body_34 ⟨(ev_t rfl), (ev_t rfl), trivial⟩ rfl rfl rfl rfl ?_)
      rintro v w4 ⟨d1, d2, d3, rfl, hta2, hu4⟩
      obtain ⟨mc, Ac, kc, xkc, rfl, rfl, rfl, hmc, hrc, hlc, hbc, hkc⟩ := hta2.open
      clear hIr hSp
      have hs4 := hu4.size
      replace hU := hU.trans hu4 (by exact (fun _ _ h => h.elim))
      replace hI := hI.upd hu4 (fun k hk hl hS => by exact (show False from hS).elim)
      replace hta := hta.upd hu4 (fun k hk hl hS => by exact (show False from hS).elim)
      replace htb := htb.upd hu4 (fun k hk hl hS => by exact (show False from hS).elim)
      replace hb4 := hb4.upd hu4 (fun hS => by exact (show False from hS))
      replace hb5 := hb5.upd hu4 (fun hS => by exact (show False from hS))
      refine WL.cons (SO.storeAll (us := [_, _, _]) rfl (ev_t rfl) (ev_t rfl) size_28 hb4 rfl rfl rfl rfl rfl ?_)
      intro w5 hu5 hb4 hz5
      have hs5 := hu5.size
      replace hU := hU.trans hu5 (by (intro k hl hk; (try simp only [At, New, Grow, From, No] at hk ⊢); omega))
      replace hI := hI.upd hu5 (fun k hk hl hS => by (simp only [At] at hS; subst hS; rcases hk with hk | hk; have := hFb _ hk; omega; have h9 := hGG _ hk; rcases h9 with h | h; have := hG0 _ h; omega; omega))
      replace htb := htb.upd hu5 (fun k hk hl hS => by (simp only [At] at hS; have := hFb k hk; omega))
      replace hb5 := hb5.upd hu5 (fun hS => by (simp only [At] at hS; omega))
      replace hta2 := hta2.upd hu5 (fun k hk hl hS => by (simp only [At] at hS; have := hFb k hk; omega))
      refine WL.nil ?_
      refine WX.keep [(0, _), (4, _), (5, _)] ⟨rfl, rfl, rfl, trivial⟩ ?_
      refine WX.next ?_
      refine WC.seq ?_
      refine WC.region ?_
      have hIx := hI
      obtain ⟨Gv, Go, Gd, xs, Av, Ao, Ad, cv, co, cd, hIr, hSp⟩ := hIx
      refine WL.val rfl rfl rfl rfl (r_move rfl (ev_t rfl)) ?_
      refine WL.val rfl rfl rfl rfl (r_loadAgg (vs := [_, _, _]) rfl (ev_t rfl) agg_28 size_28 (Blk.cellsL hb5)) ?_
      refine WL.cons (SO.call (rhead_ok _ _ _ _ _ _ _ _ hIr htb hb') rfl body_34 ⟨(ev_t rfl), (ev_t rfl), trivial⟩ rfl rfl rfl rfl ?_)
      rintro v w6 ⟨d1, d2, d3, rfl, htb2, hu6⟩
      obtain ⟨md, Ad2, kd, xkd, rfl, rfl, rfl, hmd, hrd, hld, hbd, hkd⟩ := htb2.open
      clear hIr hSp
      have hs6 := hu6.size
      replace hU := hU.trans hu6 (by exact (fun _ _ h => h.elim))
      replace hI := hI.upd hu6 (fun k hk hl hS => by exact (show False from hS).elim)
      replace htb := htb.upd hu6 (fun k hk hl hS => by exact (show False from hS).elim)
      replace hb4 := hb4.upd hu6 (fun hS => by exact (show False from hS))
      replace hb5 := hb5.upd hu6 (fun hS => by exact (show False from hS))
      replace hta2 := hta2.upd hu6 (fun k hk hl hS => by exact (show False from hS).elim)
      refine WL.cons (SO.storeAll (us := [_, _, _]) rfl (ev_t rfl) (ev_t rfl) size_28 hb5 rfl rfl rfl rfl rfl ?_)
      intro w7 hu7 hb5 hz7
      have hs7 := hu7.size
      replace hU := hU.trans hu7 (by (intro k hl hk; (try simp only [At, New, Grow, From, No] at hk ⊢); omega))
      replace hI := hI.upd hu7 (fun k hk hl hS => by (simp only [At] at hS; subst hS; rcases hk with hk | hk; have := hFb _ hk; omega; have h9 := hGG _ hk; rcases h9 with h | h; have := hG0 _ h; omega; omega))
      replace hb4 := hb4.upd hu7 (fun hS => by (simp only [At] at hS; omega))
      replace hta2 := hta2.upd hu7 (fun k hk hl hS => by (simp only [At] at hS; have := hFb k hk; omega))
      replace htb2 := htb2.upd hu7 (fun k hk hl hS => by (simp only [At] at hS; have := hFb k hk; omega))
      refine WL.nil ?_
      refine WX.keep [(0, _), (4, _), (5, _)] ⟨rfl, rfl, rfl, trivial⟩ ?_
      refine WX.next ?_
      refine WC.seq ?_
      -- cut r5: live [0, 4, 5, 44]
      refine WC.cut (fun E wB => ∃ bb : Bool, w7 = wB ∧ (bb = true ↔ ∃ x, a' = .v x ∧ b' = .v x) ∧ E = [(0, .pointer (some ⟨p, 0, none⟩)), (4, .pointer (some ⟨w.heap.size, 0, none⟩)), (5, .pointer (some ⟨w1.heap.size, 0, none⟩)), (44, .bool bb)]) ?_ ?_
      · refine WC.region ?_
        first | refine WL.val rfl rfl rfl rfl (r_field0 rfl (ev_t rfl) fld_28_0) ?_ | refine WL.val rfl rfl rfl rfl (r_fieldAt rfl (ev_t rfl) fld_28_0) ?_
        refine WL.val rfl rfl rfl rfl (r_load rfl (ev_t rfl) flat_9 (Blk.cell hb4 rfl)) ?_
        refine WL.val rfl rfl rfl rfl (r_eqlStrL rfl (ev_t rfl) ev_c) ?_
        refine WL.val rfl rfl rfl rfl (r_move rfl (ev_t rfl)) ?_
        refine WL.cases 33 rfl (fun hb5_3 => ?_) (fun hb5_3 => ?_)
        · try (exfalso; first | (simp at hb5_3; done) | (simp only [decide_eq_true_eq, decide_eq_false_iff_not, Bool.not_eq_true', Bool.not_eq_false', Bool.not_eq_true, Bool.not_eq_false] at hb5_3; omega) | omega)
          all_goals
           try simp only [decide_eq_true_eq, decide_eq_false_iff_not, Bool.not_eq_true', Bool.not_eq_false', Bool.not_eq_true, Bool.not_eq_false, Option.isNone_none, Option.isNone_some, Option.isSome_none, Option.isSome_some, ne_eq, Decidable.not_not] at hb5_3
           obtain ⟨x, rfl⟩ := Ty.nm_nil.1 hb5_3
           obtain rfl := (hmc x rfl).symm
           first | refine WL.val rfl rfl rfl rfl (r_field0 rfl (ev_t rfl) fld_28_0) ?_ | refine WL.val rfl rfl rfl rfl (r_fieldAt rfl (ev_t rfl) fld_28_0) ?_
           refine WL.val rfl rfl rfl rfl (r_load rfl (ev_t rfl) flat_9 (Blk.cell hb5 rfl)) ?_
           refine WL.val rfl rfl rfl rfl (r_eqlStrL rfl (ev_t rfl) ev_c) ?_
           refine WL.val rfl rfl rfl rfl (r_pickT rfl (ev_t rfl) (ev_t rfl)) ?_
           refine WL.val rfl rfl rfl rfl (r_move rfl (ev_t rfl)) ?_
           refine WL.cases 38 rfl (fun hb5_8 => ?_) (fun hb5_8 => ?_)
           · try (exfalso; first | (simp at hb5_8; done) | (simp only [decide_eq_true_eq, decide_eq_false_iff_not, Bool.not_eq_true', Bool.not_eq_false', Bool.not_eq_true, Bool.not_eq_false] at hb5_8; omega) | omega)
             all_goals
              try simp only [decide_eq_true_eq, decide_eq_false_iff_not, Bool.not_eq_true', Bool.not_eq_false', Bool.not_eq_true, Bool.not_eq_false, Option.isNone_none, Option.isNone_some, Option.isSome_none, Option.isSome_some, ne_eq, Decidable.not_not] at hb5_8
              obtain ⟨y, rfl⟩ := Ty.nm_nil.1 hb5_8
              obtain rfl := (hmd y rfl).symm
              first | refine WL.val rfl rfl rfl rfl (r_field0 rfl (ev_t rfl) fld_28_1) ?_ | refine WL.val rfl rfl rfl rfl (r_fieldAt rfl (ev_t rfl) fld_28_1) ?_
              refine WL.val rfl rfl rfl rfl (r_load rfl (ev_t rfl) flat_3 (Blk.cell hb4 rfl)) ?_
              first | refine WL.val rfl rfl rfl rfl (r_field0 rfl (ev_t rfl) fld_28_1) ?_ | refine WL.val rfl rfl rfl rfl (r_fieldAt rfl (ev_t rfl) fld_28_1) ?_
              refine WL.val rfl rfl rfl rfl (r_load rfl (ev_t rfl) flat_3 (Blk.cell hb5 rfl)) ?_
              refine WL.val rfl rfl rfl rfl (r_eql rfl (ev_t rfl) (ev_t rfl)) ?_
              refine WL.val rfl rfl rfl rfl (r_pickT rfl (ev_t rfl) (ev_t rfl)) ?_
              refine WL.nil ?_
              refine WX.keep [(0, _), (4, _), (5, _), (44, _)] ⟨rfl, rfl, rfl, rfl, trivial⟩ ?_
              refine WX.meet [(0, _), (4, _), (5, _), (44, _)] ⟨rfl, rfl, rfl, rfl, trivial⟩ ?_
              refine ⟨_, rfl, ?_, rfl⟩
              first
                | (simp only [decide_eq_true_eq]; exact ⟨fun h => ⟨_, rfl, by rw [h]⟩, fun ⟨z, h1, h2⟩ => by injection h1 with h1; injection h2 with h2; omega⟩)
                | exact ⟨fun h => Bool.noConfusion h, fun ⟨z, h1, h2⟩ => by subst h2; exact absurd rfl hb5_8⟩
                | exact ⟨fun h => Bool.noConfusion h, fun ⟨z, h1, h2⟩ => by subst h1; exact absurd rfl hb5_3⟩
           · try (exfalso; first | (simp at hb5_8; done) | (simp only [decide_eq_true_eq, decide_eq_false_iff_not, Bool.not_eq_true', Bool.not_eq_false', Bool.not_eq_true, Bool.not_eq_false] at hb5_8; omega) | omega)
             all_goals
              try simp only [decide_eq_true_eq, decide_eq_false_iff_not, Bool.not_eq_true', Bool.not_eq_false', Bool.not_eq_true, Bool.not_eq_false, Option.isNone_none, Option.isNone_some, Option.isSome_none, Option.isSome_some, ne_eq, Decidable.not_not] at hb5_8
              refine WL.skip rfl rfl rfl ?_
              refine WL.skip rfl rfl rfl ?_
              refine WL.skip rfl rfl rfl ?_
              refine WL.skip rfl rfl rfl ?_
              refine WL.skip rfl rfl rfl ?_
              refine WL.val rfl rfl rfl rfl (r_pickF rfl (ev_t rfl) ev_c) ?_
              refine WL.nil ?_
              refine WX.keep [(0, _), (4, _), (5, _), (44, _)] ⟨rfl, rfl, rfl, rfl, trivial⟩ ?_
              refine WX.meet [(0, _), (4, _), (5, _), (44, _)] ⟨rfl, rfl, rfl, rfl, trivial⟩ ?_
              refine ⟨_, rfl, ?_, rfl⟩
              first
                | (simp only [decide_eq_true_eq]; exact ⟨fun h => ⟨_, rfl, by rw [h]⟩, fun ⟨z, h1, h2⟩ => by injection h1 with h1; injection h2 with h2; omega⟩)
                | exact ⟨fun h => Bool.noConfusion h, fun ⟨z, h1, h2⟩ => by subst h2; exact absurd rfl hb5_8⟩
                | exact ⟨fun h => Bool.noConfusion h, fun ⟨z, h1, h2⟩ => by subst h1; exact absurd rfl hb5_3⟩
        · try (exfalso; first | (simp at hb5_3; done) | (simp only [decide_eq_true_eq, decide_eq_false_iff_not, Bool.not_eq_true', Bool.not_eq_false', Bool.not_eq_true, Bool.not_eq_false] at hb5_3; omega) | omega)
          all_goals
           try simp only [decide_eq_true_eq, decide_eq_false_iff_not, Bool.not_eq_true', Bool.not_eq_false', Bool.not_eq_true, Bool.not_eq_false, Option.isNone_none, Option.isNone_some, Option.isSome_none, Option.isSome_some, ne_eq, Decidable.not_not] at hb5_3
           refine WL.skip rfl rfl rfl ?_
           refine WL.skip rfl rfl rfl ?_
           refine WL.skip rfl rfl rfl ?_
           refine WL.val rfl rfl rfl rfl (r_pickF rfl (ev_t rfl) ev_c) ?_
           refine WL.val rfl rfl rfl rfl (r_move rfl (ev_t rfl)) ?_
           refine WL.skip rfl rfl rfl ?_
           refine WL.skip rfl rfl rfl ?_
           refine WL.skip rfl rfl rfl ?_
           refine WL.skip rfl rfl rfl ?_
           refine WL.skip rfl rfl rfl ?_
           refine WL.val rfl rfl rfl rfl (r_pickF rfl (ev_t rfl) ev_c) ?_
           refine WL.nil ?_
           refine WX.keep [(0, _), (4, _), (5, _), (44, _)] ⟨rfl, rfl, rfl, rfl, trivial⟩ ?_
           refine WX.meet [(0, _), (4, _), (5, _), (44, _)] ⟨rfl, rfl, rfl, rfl, trivial⟩ ?_
           refine ⟨_, rfl, ?_, rfl⟩
           first
             | (simp only [decide_eq_true_eq]; exact ⟨fun h => ⟨_, rfl, by rw [h]⟩, fun ⟨z, h1, h2⟩ => by injection h1 with h1; injection h2 with h2; omega⟩)
             | exact ⟨fun h => Bool.noConfusion h, fun ⟨z, h1, h2⟩ => by subst h2; exact absurd rfl hb5_8⟩
             | exact ⟨fun h => Bool.noConfusion h, fun ⟨z, h1, h2⟩ => by subst h1; exact absurd rfl hb5_3⟩
      · rintro E wB ⟨bb, rfl, hbb, rfl⟩
        refine WC.cond rfl (ev_t rfl) (fun hc5 => ?_) (fun hc5 => ?_)
        · try (exfalso; first | (simp at hc5; done) | (simp only [decide_eq_true_eq, decide_eq_false_iff_not, Bool.not_eq_true', Bool.not_eq_false', Bool.not_eq_true, Bool.not_eq_false] at hc5; omega) | omega)
          all_goals
           try simp only [decide_eq_true_eq, decide_eq_false_iff_not, Bool.not_eq_true', Bool.not_eq_false', Bool.not_eq_true, Bool.not_eq_false, Option.isNone_none, Option.isNone_some, Option.isSome_none, Option.isSome_some, ne_eq, Decidable.not_not] at hc5
           obtain ⟨x, rfl, rfl⟩ := hbb.1 hc5
           simp only [unH, if_true] at huh
           injection huh with hR
           injection hR with hR1 hR2
           injection hR2 with hR2 hR3
           subst hR1 hR2 hR3
           refine WC.seq ?_
           refine WC.region ?_
           refine WL.val rfl rfl rfl rfl (r_assign rfl ev_c) ?_
           refine WL.nil ?_
           refine WX.keep [(6, _)] ⟨rfl, trivial⟩ ?_
           refine WX.next ?_
           refine WC.ret ?_
           refine WX.thenRet ?_
           refine WX.retE1 rfl rfl ?_
           exact ⟨rfl, ⟨G1, hI, fun k h => (hGG k h).imp (fun h => h) (fun h => by omega)⟩, hU⟩
        · try (exfalso; first | (simp at hc5; done) | (simp only [decide_eq_true_eq, decide_eq_false_iff_not, Bool.not_eq_true', Bool.not_eq_false', Bool.not_eq_true, Bool.not_eq_false] at hc5; omega) | omega)
          all_goals
           try simp only [decide_eq_true_eq, decide_eq_false_iff_not, Bool.not_eq_true', Bool.not_eq_false', Bool.not_eq_true, Bool.not_eq_false, Option.isNone_none, Option.isNone_some, Option.isSome_none, Option.isSome_some, ne_eq, Decidable.not_not] at hc5
           have hne7 : ¬ ∃ x, a' = .v x ∧ b' = .v x := fun h => by rw [hbb.2 h] at hc5; cases hc5
           refine WC.skip ?_
           refine WX.next ?_
           -- cut 7: live [0, 4, 5]
           refine WC.cut (fun E wC => ∃ (a2 b2 : Ty) (m2 : Int) (A2 : Option Addr) (k2 : Nat) (m3 : Int) (A3 : Option Addr) (k3 : Nat), Upd G w wC ∧ w.heap.size + 2 ≤ wC.heap.size ∧ Blk wC w.heap.size #[.string ⟨a2.nm.toArray⟩, .int .i64 m2, .slice A2 a2.kids.length k2] typ ∧ Blk wC w1.heap.size #[.string ⟨b2.nm.toArray⟩, .int .i64 m3, .slice A3 b2.kids.length k3] typ ∧ RS wC F G1 p σ D1 nn ∧   TV wC F (.string ⟨a2.nm.toArray⟩, .int .i64 m2, .slice A2 a2.kids.length k2) a2 ∧ TV wC F (.string ⟨b2.nm.toArray⟩, .int .i64 m3, .slice A3 b2.kids.length k3) b2 ∧ (∀ x, a2 = .v x → m2 = x) ∧ RUn n σ D1 (r, σ', D') a2 b2 ∧   E = [(0, .pointer (some ⟨p, 0, none⟩)), (4, .pointer (some ⟨w.heap.size, 0, none⟩)), (5, .pointer (some ⟨w1.heap.size, 0, none⟩))]) ?_ ?_
           · refine WC.seq ?_
             refine WC.region ?_
             first | refine WL.val rfl rfl rfl rfl (r_field0 rfl (ev_t rfl) fld_28_0) ?_ | refine WL.val rfl rfl rfl rfl (r_fieldAt rfl (ev_t rfl) fld_28_0) ?_
             refine WL.val rfl rfl rfl rfl (r_load rfl (ev_t rfl) flat_9 (Blk.cell hb4 rfl)) ?_
             refine WL.val rfl rfl rfl rfl (r_neqStrL rfl (ev_t rfl) ev_c) ?_
             refine WL.val rfl rfl rfl rfl (r_move rfl (ev_t rfl)) ?_
             refine WL.cases 48 rfl (fun hb7_3 => ?_) (fun hb7_3 => ?_)
             · try (exfalso; first | (simp at hb7_3; done) | (simp only [decide_eq_true_eq, decide_eq_false_iff_not, Bool.not_eq_true', Bool.not_eq_false', Bool.not_eq_true, Bool.not_eq_false] at hb7_3; omega) | omega)
               all_goals
                try simp only [decide_eq_true_eq, decide_eq_false_iff_not, Bool.not_eq_true', Bool.not_eq_false', Bool.not_eq_true, Bool.not_eq_false, Option.isNone_none, Option.isNone_some, Option.isSome_none, Option.isSome_some, ne_eq, Decidable.not_not] at hb7_3
                obtain ⟨f, ks, rfl⟩ := nm_c (by simpa using hb7_3)
                first | refine WL.val rfl rfl rfl rfl (r_field0 rfl (ev_t rfl) fld_28_0) ?_ | refine WL.val rfl rfl rfl rfl (r_fieldAt rfl (ev_t rfl) fld_28_0) ?_
                refine WL.val rfl rfl rfl rfl (r_load rfl (ev_t rfl) flat_9 (Blk.cell hb5 rfl)) ?_
                refine WL.val rfl rfl rfl rfl (r_eqlStrL rfl (ev_t rfl) ev_c) ?_
                refine WL.val rfl rfl rfl rfl (r_pickT rfl (ev_t rfl) (ev_t rfl)) ?_
                refine WL.nil ?_
                refine WX.keep [(0, _), (4, _), (5, _), (52, _)] ⟨rfl, rfl, rfl, rfl, trivial⟩ ?_
                refine WX.next ?_
                refine WC.cond rfl (ev_t rfl) (fun hc7 => ?_) (fun hc7 => ?_)
                · try (exfalso; first | (simp at hc7; done) | (simp only [decide_eq_true_eq, decide_eq_false_iff_not, Bool.not_eq_true', Bool.not_eq_false', Bool.not_eq_true, Bool.not_eq_false] at hc7; omega) | omega)
                  all_goals
                   try simp only [decide_eq_true_eq, decide_eq_false_iff_not, Bool.not_eq_true', Bool.not_eq_false', Bool.not_eq_true, Bool.not_eq_false, Option.isNone_none, Option.isNone_some, Option.isSome_none, Option.isSome_some, ne_eq, Decidable.not_not] at hc7
                   obtain ⟨y, rfl⟩ := Ty.nm_nil.1 (by simpa using hc7)
                   simp only [unH] at huh
                   have hlk := (hdF_isHd hb').end_ y rfl
                   have hlaw : RUn n σ D1 (r, σ', D') (.v y) (.c f ks) := by
                     obtain ⟨n0, rfl⟩ : ∃ n0, n = n0 + 1 := by
                       cases n with
                       | zero => simp [unF] at huh
                       | succ n0 => exact ⟨n0, rfl⟩
                     rw [unF_bd hlk] at huh
                     exact .inl ⟨y, n0, rfl, hlk, huh⟩
                   refine WC.region ?_
                   refine WL.val rfl rfl rfl rfl (r_loadAgg (vs := [_, _, _]) rfl (ev_t rfl) agg_28 size_28 (Blk.cellsL hb5)) ?_
                   refine WL.val rfl rfl rfl rfl (r_loadAgg (vs := [_, _, _]) rfl (ev_t rfl) agg_28 size_28 (Blk.cellsL hb4)) ?_
                   refine WL.cons (SO.storeAll (us := [_, _, _]) rfl (ev_t rfl) (ev_t rfl) size_28 hb4 rfl rfl rfl rfl rfl ?_)
                   intro w8 hu8 hb4 hz8
                   have hs8 := hu8.size
                   replace hU := hU.trans hu8 (by (intro k hl hk; (try simp only [At, New, Grow, From, No] at hk ⊢); omega))
                   replace hI := hI.upd hu8 (fun k hk hl hS => by (simp only [At] at hS; subst hS; rcases hk with hk | hk; have := hFb _ hk; omega; have h9 := hGG _ hk; rcases h9 with h | h; have := hG0 _ h; omega; omega))
                   replace hb5 := hb5.upd hu8 (fun hS => by (simp only [At] at hS; omega))
                   replace hta2 := hta2.upd hu8 (fun k hk hl hS => by (simp only [At] at hS; have := hFb k hk; omega))
                   replace htb2 := htb2.upd hu8 (fun k hk hl hS => by (simp only [At] at hS; have := hFb k hk; omega))
                   refine WL.cons (SO.storeAll (us := [_, _, _]) rfl (ev_t rfl) (ev_t rfl) size_28 hb5 rfl rfl rfl rfl rfl ?_)
                   intro w9 hu9 hb5 hz9
                   have hs9 := hu9.size
                   replace hU := hU.trans hu9 (by (intro k hl hk; (try simp only [At, New, Grow, From, No] at hk ⊢); omega))
                   replace hI := hI.upd hu9 (fun k hk hl hS => by (simp only [At] at hS; subst hS; rcases hk with hk | hk; have := hFb _ hk; omega; have h9 := hGG _ hk; rcases h9 with h | h; have := hG0 _ h; omega; omega))
                   replace hb4 := hb4.upd hu9 (fun hS => by (simp only [At] at hS; omega))
                   replace hta2 := hta2.upd hu9 (fun k hk hl hS => by (simp only [At] at hS; have := hFb k hk; omega))
                   replace htb2 := htb2.upd hu9 (fun k hk hl hS => by (simp only [At] at hS; have := hFb k hk; omega))
                   refine WL.nil ?_
                   refine WX.keep [(0, _), (4, _), (5, _)] ⟨rfl, rfl, rfl, trivial⟩ ?_
                   refine WX.meet [(0, _), (4, _), (5, _)] ⟨rfl, rfl, rfl, trivial⟩ ?_
                   first
                     | exact ⟨_, _, _, _, _, _, _, _, hU, by omega, hb4, hb5, hI, hta2, htb2, hmc, hlaw, rfl⟩
                     | exact ⟨_, _, _, _, _, _, _, _, hU, by omega, hb4, hb5, hI, htb2, hta2, hmd, hlaw, rfl⟩
                · try (exfalso; first | (simp at hc7; done) | (simp only [decide_eq_true_eq, decide_eq_false_iff_not, Bool.not_eq_true', Bool.not_eq_false', Bool.not_eq_true, Bool.not_eq_false] at hc7; omega) | omega)
                  all_goals
                   try simp only [decide_eq_true_eq, decide_eq_false_iff_not, Bool.not_eq_true', Bool.not_eq_false', Bool.not_eq_true, Bool.not_eq_false, Option.isNone_none, Option.isNone_some, Option.isSome_none, Option.isSome_some, ne_eq, Decidable.not_not] at hc7
                   first
                     | (have := hlaw; clear this)
                     | (obtain ⟨g, ls, rfl⟩ := nm_c (by simpa using hc7)
                        have hlaw : RUn n σ D1 (r, σ', D') (.c f ks) (.c g ls) := .inr ⟨f, ks, g, ls, rfl, rfl, huh⟩)
                   refine WC.skip ?_
                   refine WX.meet [(0, _), (4, _), (5, _)] ⟨rfl, rfl, rfl, trivial⟩ ?_
                   first
                     | exact ⟨_, _, _, _, _, _, _, _, hU, by omega, hb4, hb5, hI, hta2, htb2, hmc, hlaw, rfl⟩
                     | exact ⟨_, _, _, _, _, _, _, _, hU, by omega, hb4, hb5, hI, htb2, hta2, hmd, hlaw, rfl⟩
             · try (exfalso; first | (simp at hb7_3; done) | (simp only [decide_eq_true_eq, decide_eq_false_iff_not, Bool.not_eq_true', Bool.not_eq_false', Bool.not_eq_true, Bool.not_eq_false] at hb7_3; omega) | omega)
               all_goals
                try simp only [decide_eq_true_eq, decide_eq_false_iff_not, Bool.not_eq_true', Bool.not_eq_false', Bool.not_eq_true, Bool.not_eq_false, Option.isNone_none, Option.isNone_some, Option.isSome_none, Option.isSome_some, ne_eq, Decidable.not_not] at hb7_3
                obtain ⟨x, rfl⟩ := Ty.nm_nil.1 (by simpa using hb7_3)
                obtain rfl := (hmc x rfl).symm
                rw [unH_v (fun e => hne7 ⟨x, rfl, e⟩)] at huh
                have hlaw : RUn n σ D1 (r, σ', D') (.v x) b' := .inl ⟨x, n, rfl, (hdF_isHd ha').end_ x rfl, huh⟩
                refine WL.skip rfl rfl rfl ?_
                refine WL.skip rfl rfl rfl ?_
                refine WL.skip rfl rfl rfl ?_
                refine WL.val rfl rfl rfl rfl (r_pickF rfl (ev_t rfl) ev_c) ?_
                refine WL.nil ?_
                refine WX.keep [(0, _), (4, _), (5, _), (52, _)] ⟨rfl, rfl, rfl, rfl, trivial⟩ ?_
                refine WX.next ?_
                refine WC.cond_false rfl (ev_t rfl) ?_
                refine WC.skip ?_
                refine WX.meet [(0, _), (4, _), (5, _)] ⟨rfl, rfl, rfl, trivial⟩ ?_
                first
                  | exact ⟨_, _, _, _, _, _, _, _, hU, by omega, hb4, hb5, hI, hta2, htb2, hmc, hlaw, rfl⟩
                  | exact ⟨_, _, _, _, _, _, _, _, hU, by omega, hb4, hb5, hI, htb2, hta2, hmd, hlaw, rfl⟩
           · clear hU hI hta2 htb2 hb4 hb5 hmc hmd hrc hrd hkc hkd hlc hld huh ha' hb' hbb hne7
             rintro E wC ⟨a2, b2, m2, A2, k2, m3, A3, k3, hU, hszC, hb4, hb5, hI, hta2, htb2, hm2, hlaw, rfl⟩
             have hGG0 := hGG
             refine WC.seq ?_
             refine WC.seq ?_
             refine WC.region ?_
             first | refine WL.val rfl rfl rfl rfl (r_field0 rfl (ev_t rfl) fld_28_0) ?_ | refine WL.val rfl rfl rfl rfl (r_fieldAt rfl (ev_t rfl) fld_28_0) ?_
             refine WL.val rfl rfl rfl rfl (r_load rfl (ev_t rfl) flat_9 (Blk.cell hb4 rfl)) ?_
             refine WL.val rfl rfl rfl rfl (r_eqlStrL rfl (ev_t rfl) ev_c) ?_
             refine WL.nil ?_
             refine WX.keep [(0, _), (4, _), (5, _), (57, _)] ⟨rfl, rfl, rfl, rfl, trivial⟩ ?_
             refine WX.next ?_
             refine WC.cond rfl (ev_t rfl) (fun hc9 => ?_) (fun hc9 => ?_)
             · try (exfalso; first | (simp at hc9; done) | (simp only [decide_eq_true_eq, decide_eq_false_iff_not, Bool.not_eq_true', Bool.not_eq_false', Bool.not_eq_true, Bool.not_eq_false] at hc9; omega) | omega)
               all_goals
                try simp only [decide_eq_true_eq, decide_eq_false_iff_not, Bool.not_eq_true', Bool.not_eq_false', Bool.not_eq_true, Bool.not_eq_false, Option.isNone_none, Option.isNone_some, Option.isSome_none, Option.isSome_some, ne_eq, Decidable.not_not] at hc9
                obtain ⟨x, rfl⟩ := Ty.nm_nil.1 hc9
                obtain rfl := (hm2 x rfl).symm
                obtain ⟨n', hlx, huh⟩ : ∃ n', look σ x = none ∧ bdF n' σ D1 x b2 = some (r, σ', D') := by
                  rcases hlaw with ⟨x', n', e, hlx, huh⟩ | ⟨f, ks, g, ls, e, _⟩
                  · injection e with e
                    subst e
                    exact ⟨n', hlx, huh⟩
                  · cases e
                obtain ⟨s, hfr, hsl, hin, hout⟩ := bdF_inv huh
                refine WC.seq ?_
                refine WC.seq ?_
                refine WC.region ?_
                refine WL.val rfl rfl rfl rfl (r_move rfl (ev_t rfl)) ?_
                first | refine WL.val rfl rfl rfl rfl (r_field0 rfl (ev_t rfl) fld_28_1) ?_ | refine WL.val rfl rfl rfl rfl (r_fieldAt rfl (ev_t rfl) fld_28_1) ?_
                refine WL.val rfl rfl rfl rfl (r_load rfl (ev_t rfl) flat_3 (Blk.cell hb4 rfl)) ?_
                refine WL.val rfl rfl rfl rfl (r_loadAgg (vs := [_, _, _]) rfl (ev_t rfl) agg_28 size_28 (Blk.cellsL hb5)) ?_
                refine WL.cons (SO.call (rin_ok hfr hsl hI (fun k hk => by have := hFb k hk; omega) htb2) rfl body_36 ⟨(ev_t rfl), (ev_t rfl), (ev_t rfl), trivial⟩ rfl rfl rfl rfl ?_)
                rintro v w10 ⟨rfl, hu10⟩
                have hs10 := hu10.size
                replace hU := hU.trans hu10 (by exact (fun _ _ h => h.elim))
                replace hI := hI.upd hu10 (fun k hk hl hS => by exact (show False from hS).elim)
                replace hta2 := hta2.upd hu10 (fun k hk hl hS => by exact (show False from hS).elim)
                replace htb2 := htb2.upd hu10 (fun k hk hl hS => by exact (show False from hS).elim)
                replace hb4 := hb4.upd hu10 (fun hS => by exact (show False from hS))
                replace hb5 := hb5.upd hu10 (fun hS => by exact (show False from hS))
                refine WL.nil ?_
                refine WX.keep [(0, _), (4, _), (5, _), (62, _)] ⟨rfl, rfl, rfl, rfl, trivial⟩ ?_
                refine WX.next ?_
                refine WC.cond rfl (ev_t rfl) (fun hc10 => ?_) (fun hc10 => ?_)
                · try (exfalso; first | (simp at hc10; done) | (simp only [decide_eq_true_eq, decide_eq_false_iff_not, Bool.not_eq_true', Bool.not_eq_false', Bool.not_eq_true, Bool.not_eq_false] at hc10; omega) | omega)
                  all_goals
                   try simp only [decide_eq_true_eq, decide_eq_false_iff_not, Bool.not_eq_true', Bool.not_eq_false', Bool.not_eq_true, Bool.not_eq_false, Option.isNone_none, Option.isNone_some, Option.isSome_none, Option.isSome_some, ne_eq, Decidable.not_not] at hc10
                   obtain hR := hin (by simpa using hc10)
                   injection hR with hR1 hR2
                   injection hR2 with hR2 hR3
                   subst hR1 hR2 hR3
                   refine WC.seq ?_
                   refine WC.region ?_
                   refine WL.val rfl rfl rfl rfl (r_assign rfl ev_c) ?_
                   refine WL.nil ?_
                   refine WX.keep [(6, _)] ⟨rfl, trivial⟩ ?_
                   refine WX.next ?_
                   refine WC.ret ?_
                   refine WX.thenRet ?_
                   refine WX.thenRet ?_
                   refine WX.retE1 rfl rfl ?_
                   exact ⟨rfl, ⟨G1, hI, fun k h => (hGG k h).imp (fun h => h) (fun h => by omega)⟩, hU⟩
                · try (exfalso; first | (simp at hc10; done) | (simp only [decide_eq_true_eq, decide_eq_false_iff_not, Bool.not_eq_true', Bool.not_eq_false', Bool.not_eq_true, Bool.not_eq_false] at hc10; omega) | omega)
                  all_goals
                   try simp only [decide_eq_true_eq, decide_eq_false_iff_not, Bool.not_eq_true', Bool.not_eq_false', Bool.not_eq_true, Bool.not_eq_false, Option.isNone_none, Option.isNone_some, Option.isSome_none, Option.isSome_some, ne_eq, Decidable.not_not] at hc10
                   obtain hR := hout (by simpa using hc10)
                   injection hR with hR1 hR2
                   injection hR2 with hR2 hR3
                   subst hR1 hR2 hR3
                   obtain ⟨Gv, Go, Gd, xs, Av, Ao, Ad, cv, co, cd, ⟨hhd, hvs, hof, hdn, htv, hle⟩, hs⟩ := hI
                   have hG1 := hs.lt
                   have hxl : xs.length = σ.length := by simpa using htv.1
                   rw [List.length_append, List.length_singleton] at hlσ
                   refine WC.skip ?_
                   refine WX.next ?_
                   refine WC.seq ?_
                   refine WC.draws' (fun u0_ u1_ => Upd (fun k => G1 k) u0_ u1_) (fun j => [0, 0, 0, 0, 1, 0, 0, 2, 2, 0, 0, 2].getD j 0) (.calm 0 (.calm 1 (.calm 2 (.calm 3 (.calm 5 (.held 6 (.two 4 7 (.one 7 (.one 8 (.calm 9 (.calm 10 (.one 11 (.done)))))) (.one 4 (.one 8 (.calm 9 (.calm 10 (.one 11 (.done))))))))))))) mixed (by kernel_rfl) (by repeat (first | with_reducible exact Deaf.body | with_reducible apply Deaf.then)) ?_
                   intro w11 hu11
                   have hz11 := congrArg Array.size hu11.2.2.2
                   replace hu11 := Upd.of_draw hu11
                   have hs11 := hu11.size
                   replace hU := hU.trans hu11 (by exact (fun _ _ h => h.elim))
                   replace hta2 := hta2.upd hu11 (fun k hk hl hS => by exact (show False from hS).elim)
                   replace htb2 := htb2.upd hu11 (fun k hk hl hS => by exact (show False from hS).elim)
                   replace hb4 := hb4.upd hu11 (fun hS => by exact (show False from hS))
                   replace hb5 := hb5.upd hu11 (fun hS => by exact (show False from hS))
                   replace hhd := hhd.upd hu11 (fun hS => by exact (show False from hS))
                   replace hvs := hvs.upd hu11 (fun k hk hl hS => by exact (show False from hS).elim)
                   replace hof := hof.upd hu11 (fun k hk hl hS => by exact (show False from hS).elim)
                   replace hdn := hdn.upd hu11 (fun k hk hl hS => by exact (show False from hS).elim)
                   replace htv := htv.upd hu11 (fun k hk hl hS => by exact (show False from hS).elim)
                   have hS12 := Upd.refl (fun k => G1 k) w11
                   refine WN.calm _ rfl rfl rfl rfl rfl (fun _ => r_move rfl (ev_t rfl)) ?_
                   refine WN.calm _ rfl rfl rfl rfl rfl (fun _ => r_move rfl (ev_t rfl)) ?_
                   refine WN.calm _ rfl rfl rfl rfl rfl (fun _ => r_nilCheck rfl (ev_t rfl)) ?_
                   first | refine WN.calm _ rfl rfl rfl rfl rfl (fun _ => r_field0 rfl (ev_t rfl) fld_46_1) ?_ | refine WN.calm _ rfl rfl rfl rfl rfl (fun _ => r_fieldAt rfl (ev_t rfl) fld_46_1) ?_
                   first | refine WN.calm _ rfl rfl rfl rfl rfl (fun _ => r_field0 rfl (ev_t rfl) fld_28_1) ?_ | refine WN.calm _ rfl rfl rfl rfl rfl (fun _ => r_fieldAt rfl (ev_t rfl) fld_28_1) ?_
                   first | refine WN.held _ rfl rfl rfl rfl rfl hS12 (fun w' hS => r_load rfl (ev_t rfl) flat_3 (Blk.cell (hb4.upd hS (fun h => by rcases hGG _ h with h | h; have := hG0 _ h; omega; omega)) rfl)) ?_ | refine WN.held _ rfl rfl rfl rfl rfl hS12 (fun w' hS => r_load rfl (ev_t rfl) flat_3 (Blk.cell hb4 rfl)) ?_
                   refine WN.fork _ _ rfl rfl ?_ ?_
                   · refine SO.val rfl rfl rfl rfl (r_load rfl (ev_t rfl) flat_33 (Blk.cell hhd rfl)) ?_
                     refine ⟨hS12, ?_⟩
                     refine WN.step _ rfl (SO.alloc rfl rfl rfl rfl (r_buildSlice1 (vs := [_]) rfl ⟨(ev_t rfl), trivial⟩ rfl row_33 rfl rfl) ?_)
                     intro w12 hu12 hB12 hz12
                     have hs12 := hu12.size
                     try replace hS12 := Upd.trans hS12 hu12 (by intro k hl hk; exact (show False from hk).elim)
                     replace hU := hU.trans hu12 (by exact (fun _ _ h => h.elim))
                     replace hta2 := hta2.upd hu12 (fun k hk hl hS => by exact (show False from hS).elim)
                     replace htb2 := htb2.upd hu12 (fun k hk hl hS => by exact (show False from hS).elim)
                     replace hb4 := hb4.upd hu12 (fun hS => by exact (show False from hS))
                     replace hb5 := hb5.upd hu12 (fun hS => by exact (show False from hS))
                     replace hhd := hhd.upd hu12 (fun hS => by exact (show False from hS))
                     replace hvs := hvs.upd hu12 (fun k hk hl hS => by exact (show False from hS).elim)
                     replace hof := hof.upd hu12 (fun k hk hl hS => by exact (show False from hS).elim)
                     replace hdn := hdn.upd hu12 (fun k hk hl hS => by exact (show False from hS).elim)
                     replace htv := htv.upd hu12 (fun k hk hl hS => by exact (show False from hS).elim)
                     refine ⟨trivial, ?_⟩
                     refine WN.step _ rfl (SO.append hvs (show Rd _ _ _ 1 1 [I6 x] from Rd.of_blk (F := At _) (n := 1) (sz := 1) hB12 rfl rfl (by omega)) row_33 (fun u hu => by simp at hu; subst hu; rfl) (le_maxLen (by omega)) (by omega) rfl (ev_t rfl) (ev_t rfl) rfl rfl rfl rfl ?_)
                     intro v13 w13 hvs hu13
                     have hs13 := hu13.size
                     try replace hS12 := Upd.trans hS12 hu13 (by intro k hl hk; exact (hs.v k hk).1)
                     replace hU := hU.trans hu13 (by (intro k hl hk; first | exact (show False from hk).elim | exact hk | (simp only [At] at hk; exfalso; omega) | (have h9 := hGG k hk; rcases h9 with h | h; exact h; (exfalso; omega)) | (have h9 := hGG k (hs.v k hk).1; rcases h9 with h | h; exact h; (exfalso; omega)) | (have h9 := hGG k (hs.o k hk).1; rcases h9 with h | h; exact h; (exfalso; omega)) | (simp only [At] at hk; subst hk; have h9 := hGG _ hs.hp; rcases h9 with h | h; exact h; (exfalso; omega)) | (rcases hk with hk | hk; have h9 := hGG k (hs.o k hk).1; rcases h9 with h | h; exact h; (exfalso; omega); (exfalso; omega))))
                     replace hta2 := hta2.upd hu13 (fun k hk hl hS => by exact hs.f k hk (hs.v k hS).1)
                     replace htb2 := htb2.upd hu13 (fun k hk hl hS => by exact hs.f k hk (hs.v k hS).1)
                     replace hb4 := hb4.upd hu13 (fun hS => by (have h9 := hGG _ (hs.v _ hS).1; rcases h9 with h | h; have := hG0 _ h; omega; omega))
                     replace hb5 := hb5.upd hu13 (fun hS => by (have h9 := hGG _ (hs.v _ hS).1; rcases h9 with h | h; have := hG0 _ h; omega; omega))
                     replace hhd := hhd.upd hu13 (fun hS => by exact (hs.v p hS).2.1 rfl)
                     replace hof := hof.upd hu13 (fun k hk hl hS => by exact (hs.v k hS).2.2.1 hk)
                     replace hdn := hdn.upd hu13 (fun k hk hl hS => by exact (hs.v k hS).2.2.2 hk)
                     replace htv := htv.upd hu13 (fun k hk hl hS => by exact hs.f k hk (hs.v k hS).1)
                     refine ⟨trivial, ?_⟩
                     obtain ⟨A13, c13, rfl, hc13⟩ := Own.form hvs
                     refine WN.calm _ rfl rfl rfl rfl rfl (fun _ => r_nilCheck rfl (ev_t rfl)) ?_
                     first | refine WN.calm _ rfl rfl rfl rfl rfl (fun _ => r_field0 rfl (ev_t rfl) fld_46_1) ?_ | refine WN.calm _ rfl rfl rfl rfl rfl (fun _ => r_fieldAt rfl (ev_t rfl) fld_46_1) ?_
                     refine WN.step _ rfl (SO.store rfl (ev_t rfl) (ev_t rfl) size_33 hhd rfl rfl rfl rfl rfl ?_)
                     intro w14 hu14 hhd hz14
                     have hs14 := hu14.size
                     try replace hS12 := Upd.trans hS12 hu14 (by intro k hl hk; (simp only [At] at hk; subst hk; exact hs.hp))
                     replace hU := hU.trans hu14 (by (intro k hl hk; first | exact (show False from hk).elim | exact hk | (simp only [At] at hk; exfalso; omega) | (have h9 := hGG k hk; rcases h9 with h | h; exact h; (exfalso; omega)) | (have h9 := hGG k (hs.v k hk).1; rcases h9 with h | h; exact h; (exfalso; omega)) | (have h9 := hGG k (hs.o k hk).1; rcases h9 with h | h; exact h; (exfalso; omega)) | (simp only [At] at hk; subst hk; have h9 := hGG _ hs.hp; rcases h9 with h | h; exact h; (exfalso; omega)) | (rcases hk with hk | hk; have h9 := hGG k (hs.o k hk).1; rcases h9 with h | h; exact h; (exfalso; omega); (exfalso; omega))))
                     replace hta2 := hta2.upd hu14 (fun k hk hl hS => by (simp only [At] at hS; subst hS; exact hs.f _ hk hs.hp))
                     replace htb2 := htb2.upd hu14 (fun k hk hl hS => by (simp only [At] at hS; subst hS; exact hs.f _ hk hs.hp))
                     replace hb4 := hb4.upd hu14 (fun hS => by (simp only [At] at hS; have h9 := hGG _ hs.hp; rcases h9 with h | h; have := hG0 _ h; omega; omega))
                     replace hb5 := hb5.upd hu14 (fun hS => by (simp only [At] at hS; have h9 := hGG _ hs.hp; rcases h9 with h | h; have := hG0 _ h; omega; omega))
                     replace hvs := hvs.upd hu14 (fun k hk hl hS => by (simp only [At] at hS; rcases hk with hk | hk; exact (hs.v k hk).2.1 hS; have := hs.lt _ hs.hp; omega))
                     replace hof := hof.upd hu14 (fun k hk hl hS => by (simp only [At] at hS; exact (hs.o k hk).2.1 hS))
                     replace hdn := hdn.upd hu14 (fun k hk hl hS => by (simp only [At] at hS; exact (hs.d k hk).2 hS))
                     replace htv := htv.upd hu14 (fun k hk hl hS => by (simp only [At] at hS; subst hS; exact hs.f _ hk hs.hp))
                     refine ⟨trivial, ?_⟩
                     refine WN.done ?_
                     refine WX.keep [(0, _), (5, _)] ⟨rfl, rfl, trivial⟩ ?_
                     refine WX.next ?_
                     refine WC.seq ?_
                     refine WC.draws' (fun u0_ u1_ => Upd (fun k => G1 k) u0_ u1_) (fun j => [0, 0, 0, 1, 0, 0, 1, 2, 0, 2, 0, 0, 2].getD j 0) (.calm 0 (.calm 1 (.calm 2 (.held 4 (.two 3 6 (.calm 5 (.one 6 (.one 7 (.calm 8 (.calm 10 (.calm 11 (.two 9 12 (.one 12 (.done)) (.one 9 (.done))))))))) (.one 3 (.calm 5 (.one 7 (.calm 8 (.calm 10 (.calm 11 (.two 9 12 (.one 12 (.done)) (.one 9 (.done)))))))))))))) mixed (by kernel_rfl) (by repeat (first | with_reducible exact Deaf.body | with_reducible apply Deaf.then)) ?_
                     intro w15 hu15
                     have hz15 := congrArg Array.size hu15.2.2.2
                     replace hu15 := Upd.of_draw hu15
                     have hs15 := hu15.size
                     replace hU := hU.trans hu15 (by exact (fun _ _ h => h.elim))
                     replace hta2 := hta2.upd hu15 (fun k hk hl hS => by exact (show False from hS).elim)
                     replace htb2 := htb2.upd hu15 (fun k hk hl hS => by exact (show False from hS).elim)
                     replace hb4 := hb4.upd hu15 (fun hS => by exact (show False from hS))
                     replace hb5 := hb5.upd hu15 (fun hS => by exact (show False from hS))
                     replace hhd := hhd.upd hu15 (fun hS => by exact (show False from hS))
                     replace hvs := hvs.upd hu15 (fun k hk hl hS => by exact (show False from hS).elim)
                     replace hof := hof.upd hu15 (fun k hk hl hS => by exact (show False from hS).elim)
                     replace hdn := hdn.upd hu15 (fun k hk hl hS => by exact (show False from hS).elim)
                     replace htv := htv.upd hu15 (fun k hk hl hS => by exact (show False from hS).elim)
                     have hS13 := Upd.refl (fun k => G1 k) w15
                     refine WN.calm _ rfl rfl rfl rfl rfl (fun _ => r_move rfl (ev_t rfl)) ?_
                     refine WN.calm _ rfl rfl rfl rfl rfl (fun _ => r_nilCheck rfl (ev_t rfl)) ?_
                     first | refine WN.calm _ rfl rfl rfl rfl rfl (fun _ => r_field0 rfl (ev_t rfl) fld_46_2) ?_ | refine WN.calm _ rfl rfl rfl rfl rfl (fun _ => r_fieldAt rfl (ev_t rfl) fld_46_2) ?_
                     first | refine WN.held _ rfl rfl rfl rfl rfl hS13 (fun w' hS => r_loadAgg (vs := [_, _, _]) rfl (ev_t rfl) agg_28 size_28 (Blk.cellsL (hb5.upd hS (fun h => by rcases hGG _ h with h | h; have := hG0 _ h; omega; omega)))) ?_ | refine WN.held _ rfl rfl rfl rfl rfl hS13 (fun w' hS => r_loadAgg (vs := [_, _, _]) rfl (ev_t rfl) agg_28 size_28 (Blk.cellsL hb5)) ?_
                     refine WN.fork _ _ rfl rfl ?_ ?_
                     · refine SO.val rfl rfl rfl rfl (r_load rfl (ev_t rfl) flat_26 (Blk.cell hhd rfl)) ?_
                       refine ⟨hS13, ?_⟩
                       refine WN.calm _ rfl rfl rfl rfl rfl (fun _ => r_lenSlice (ts := #[]) rfl (ev_t rfl) elem_26) ?_
                       refine WN.step _ rfl (SO.alloc rfl rfl rfl rfl (r_buildSlice (cs := #[_, _, _]) (vs := [(0, _)]) rfl ⟨⟨rfl, ev_c⟩, trivial⟩ row_26 rfl rfl) ?_)
                       intro w16 hu16 hB16 hz16
                       have hs16 := hu16.size
                       replace hS13 := Upd.trans hS13 hu16 (by intro k hl hk; exact (show False from hk).elim)
                       replace hU := hU.trans hu16 (by exact (fun _ _ h => h.elim))
                       replace hta2 := hta2.upd hu16 (fun k hk hl hS => by exact (show False from hS).elim)
                       replace htb2 := htb2.upd hu16 (fun k hk hl hS => by exact (show False from hS).elim)
                       replace hb4 := hb4.upd hu16 (fun hS => by exact (show False from hS))
                       replace hb5 := hb5.upd hu16 (fun hS => by exact (show False from hS))
                       replace hhd := hhd.upd hu16 (fun hS => by exact (show False from hS))
                       replace hvs := hvs.upd hu16 (fun k hk hl hS => by exact (show False from hS).elim)
                       replace hof := hof.upd hu16 (fun k hk hl hS => by exact (show False from hS).elim)
                       replace hdn := hdn.upd hu16 (fun k hk hl hS => by exact (show False from hS).elim)
                       replace htv := htv.upd hu16 (fun k hk hl hS => by exact (show False from hS).elim)
                       refine ⟨hS13, ?_⟩
                       refine WN.step _ rfl (SO.append hof (show Rd _ _ _ 1 3 [Value.string ⟨#[]⟩, .int .i64 0, .slice none 0 0] from rd_one hB16) row_26 one_c3 (le_maxLen (by omega)) (by omega) rfl (ev_t rfl) (ev_t rfl) rfl rfl rfl rfl ?_)
                       intro v17 w17 hof2 hu17
                       have hs17 := hu17.size
                       try replace hS13 := Upd.trans hS13 hu17 (by intro k hl hk; exact (hs.o k hk).1)
                       replace hU := hU.trans hu17 (by (intro k hl hk; first | exact (show False from hk).elim | exact hk | (simp only [At] at hk; exfalso; omega) | (have h9 := hGG k hk; rcases h9 with h | h; exact h; (exfalso; omega)) | (have h9 := hGG k (hs.v k hk).1; rcases h9 with h | h; exact h; (exfalso; omega)) | (have h9 := hGG k (hs.o k hk).1; rcases h9 with h | h; exact h; (exfalso; omega)) | (simp only [At] at hk; subst hk; have h9 := hGG _ hs.hp; rcases h9 with h | h; exact h; (exfalso; omega)) | (rcases hk with hk | hk; have h9 := hGG k (hs.o k hk).1; rcases h9 with h | h; exact h; (exfalso; omega); (exfalso; omega))))
                       replace hta2 := hta2.upd hu17 (fun k hk hl hS => by exact hs.f k hk (hs.o k hS).1)
                       replace htb2 := htb2.upd hu17 (fun k hk hl hS => by exact hs.f k hk (hs.o k hS).1)
                       replace hb4 := hb4.upd hu17 (fun hS => by (have h9 := hGG _ (hs.o _ hS).1; rcases h9 with h | h; have := hG0 _ h; omega; omega))
                       replace hb5 := hb5.upd hu17 (fun hS => by (have h9 := hGG _ (hs.o _ hS).1; rcases h9 with h | h; have := hG0 _ h; omega; omega))
                       replace hhd := hhd.upd hu17 (fun hS => by exact (hs.o p hS).2.1 rfl)
                       replace hvs := hvs.upd hu17 (fun k hk hl hS => by (rcases hk with hk | hk; exact (hs.v k hk).2.2.1 hS; have := hG1 k (hs.o k hS).1; omega))
                       replace hdn := hdn.upd hu17 (fun k hk hl hS => by exact (hs.o k hS).2.2 hk)
                       replace htv := htv.upd hu17 (fun k hk hl hS => by exact hs.f k hk (hs.o k hS).1)
                       refine ⟨trivial, ?_⟩
                       obtain ⟨A17, c17, rfl, hc17⟩ := Own.form hof2
                       obtain ⟨go, capo, curo, ex, _, _, _, _, _, _⟩ := hof2.open (by omega)
                       injection ex with ex1 ex2 ex3
                       subst ex1 ex3
                       refine WN.calm _ rfl rfl rfl rfl rfl (fun _ => r_indexAddr rfl (ev_t rfl) (ev_t rfl) elem_26 size_28 (by omega) (by omega)) ?_
                       refine WN.calm _ rfl rfl rfl rfl rfl (fun _ => r_nilCheck rfl (ev_t rfl)) ?_
                       first | refine WN.calm _ rfl rfl rfl rfl rfl (fun _ => r_field0 rfl (ev_t rfl) fld_46_2) ?_ | refine WN.calm _ rfl rfl rfl rfl rfl (fun _ => r_fieldAt rfl (ev_t rfl) fld_46_2) ?_
                       refine WN.fork _ _ rfl rfl ?_ ?_
                       · refine SO.ownSet (i := σ.length) (us := [_, _, _]) hof2 rfl (by omega) (Nat.zero_add _) rfl rfl (ev_t rfl) (ev_t rfl) size_28 rfl rfl rfl rfl ?_
                         intro w18 hu18 hof3 hz9
                         have hs18 := hu18.size
                         try replace hS13 := Upd.trans hS13 hu18 (by intro k hl hk; (rcases hk with hk | hk; exact (hs.o k hk).1; (exfalso; omega)))
                         replace hU := hU.trans hu18 (by (intro k hl hk; first | exact (show False from hk).elim | exact hk | (simp only [At] at hk; exfalso; omega) | (have h9 := hGG k hk; rcases h9 with h | h; exact h; (exfalso; omega)) | (have h9 := hGG k (hs.v k hk).1; rcases h9 with h | h; exact h; (exfalso; omega)) | (have h9 := hGG k (hs.o k hk).1; rcases h9 with h | h; exact h; (exfalso; omega)) | (simp only [At] at hk; subst hk; have h9 := hGG _ hs.hp; rcases h9 with h | h; exact h; (exfalso; omega)) | (rcases hk with hk | hk; have h9 := hGG k (hs.o k hk).1; rcases h9 with h | h; exact h; (exfalso; omega); (exfalso; omega))))
                         replace hta2 := hta2.upd hu18 (fun k hk hl hS => by (rcases hS with hS | hS; exact hs.f k hk (hs.o k hS).1; have := hFb k hk; omega))
                         replace htb2 := htb2.upd hu18 (fun k hk hl hS => by (rcases hS with hS | hS; exact hs.f k hk (hs.o k hS).1; have := hFb k hk; omega))
                         replace hb4 := hb4.upd hu18 (fun hS => by (rcases hS with hS | hS; have h9 := hGG _ (hs.o _ hS).1; rcases h9 with h | h; have := hG0 _ h; omega; omega; omega))
                         replace hb5 := hb5.upd hu18 (fun hS => by (rcases hS with hS | hS; have h9 := hGG _ (hs.o _ hS).1; rcases h9 with h | h; have := hG0 _ h; omega; omega; omega))
                         replace hhd := hhd.upd hu18 (fun hS => by (rcases hS with hS | hS; exact (hs.o p hS).2.1 rfl; have := hs.lt _ hs.hp; omega))
                         replace hvs := hvs.upd hu18 (fun k hk hl hS => by (rcases hk with hk | hk; rcases hS with hS | hS; exact (hs.v k hk).2.2.1 hS; have := hG1 k (hs.v k hk).1; omega; rcases hS with hS | hS; have := hG1 k (hs.o k hS).1; omega; omega))
                         replace hdn := hdn.upd hu18 (fun k hk hl hS => by (rcases hS with hS | hS; exact (hs.o k hS).2.2 hk; have := hG1 k (hs.d k hk).1; omega))
                         replace htv := htv.upd hu18 (fun k hk hl hS => by (rcases hS with hS | hS; exact hs.f k hk (hs.o k hS).1; have := hFb k hk; omega))
                         rw [Nat.zero_add, take_zero3 hxl] at hof3
                         refine ⟨trivial, ?_⟩
                         refine WN.step _ rfl (SO.store rfl (ev_t rfl) (ev_t rfl) size_26 hhd rfl rfl rfl rfl rfl ?_)
                         intro w19 hu19 hhd hz19
                         have hs19 := hu19.size
                         try replace hS13 := Upd.trans hS13 hu19 (by intro k hl hk; (simp only [At] at hk; subst hk; exact hs.hp))
                         replace hU := hU.trans hu19 (by (intro k hl hk; first | exact (show False from hk).elim | exact hk | (simp only [At] at hk; exfalso; omega) | (have h9 := hGG k hk; rcases h9 with h | h; exact h; (exfalso; omega)) | (have h9 := hGG k (hs.v k hk).1; rcases h9 with h | h; exact h; (exfalso; omega)) | (have h9 := hGG k (hs.o k hk).1; rcases h9 with h | h; exact h; (exfalso; omega)) | (simp only [At] at hk; subst hk; have h9 := hGG _ hs.hp; rcases h9 with h | h; exact h; (exfalso; omega)) | (rcases hk with hk | hk; have h9 := hGG k (hs.o k hk).1; rcases h9 with h | h; exact h; (exfalso; omega); (exfalso; omega))))
                         replace hta2 := hta2.upd hu19 (fun k hk hl hS => by (simp only [At] at hS; subst hS; exact hs.f _ hk hs.hp))
                         replace htb2 := htb2.upd hu19 (fun k hk hl hS => by (simp only [At] at hS; subst hS; exact hs.f _ hk hs.hp))
                         replace hb4 := hb4.upd hu19 (fun hS => by (simp only [At] at hS; have h9 := hGG _ hs.hp; rcases h9 with h | h; have := hG0 _ h; omega; omega))
                         replace hb5 := hb5.upd hu19 (fun hS => by (simp only [At] at hS; have h9 := hGG _ hs.hp; rcases h9 with h | h; have := hG0 _ h; omega; omega))
                         replace hvs := hvs.upd hu19 (fun k hk hl hS => by (simp only [At] at hS; rcases hk with hk | hk; exact (hs.v k hk).2.1 hS; have := hs.lt _ hs.hp; omega))
                         replace hdn := hdn.upd hu19 (fun k hk hl hS => by (simp only [At] at hS; exact (hs.d k hk).2 hS))
                         replace htv := htv.upd hu19 (fun k hk hl hS => by (simp only [At] at hS; subst hS; exact hs.f _ hk hs.hp))
                         replace hof3 := hof3.upd hu19 (fun k hk hl hS => by (simp only [At] at hS; rcases hk with hk | hk; exact (hs.o k hk).2.1 hS; have := hs.lt _ hs.hp; omega))
                         refine ⟨trivial, ?_⟩
                         refine WN.done ?_
                         refine WX.keep [] trivial ?_
                         refine WX.next ?_
                         refine WC.seq ?_
                         refine WC.region ?_
                         refine WL.val rfl rfl rfl rfl (r_assign rfl ev_c) ?_
                         refine WL.nil ?_
                         refine WX.keep [(6, _)] ⟨rfl, trivial⟩ ?_
                         refine WX.next ?_
                         refine WC.ret ?_
                         refine WX.thenRet ?_
                         refine WX.retE1 rfl rfl ?_
                         have eL : σ.length + 1 = (σ ++ [(x, b2)]).length := by simp
                         have eM : (σ.map (·.1)).map I6 ++ [I6 x] = ((σ ++ [(x, b2)]).map (·.1)).map I6 := by simp
                         rw [eM] at hvs
                         rw [eL] at hhd hvs hof3
                         have hszq := hU.size
                         have htv2 := htv.snoc htb2
                         refine ⟨rfl, ⟨fun k => G1 k ∨ (wC.heap.size ≤ k ∧ k < w19.heap.size), ⟨_, _, Gd, xs ++ [_], _, _, Ad, _, _, cd, ⟨hhd, hvs, hof3, hdn, by rw [List.map_append]; exact htv2, ⟨by rw [← eL]; omega, hle.2⟩⟩, .inl hs.hp, fun k hk => ?_, fun k hk => ?_, fun k hk => ?_, fun k hk hg => ?_, fun k hk => ?_⟩, fun k hk => hk.elim (fun h => (hGG k h).imp (fun h => h) (fun h => by omega)) (fun h => .inr (by omega))⟩, hU⟩
                         · rcases hk with hk | hk
                           · have h := hs.v k hk
                             have hkl := hG1 k h.1
                             refine ⟨.inl h.1, h.2.1, fun h2 => ?_, h.2.2.2⟩
                             rcases h2 with h2 | h2
                             · exact h.2.2.1 h2
                             · omega
                           · refine ⟨.inr (by omega), fun e => by have := hs.lt _ hs.hp; omega, fun h2 => ?_, fun h2 => by have := hG1 k (hs.d k h2).1; omega⟩
                             rcases h2 with h2 | h2
                             · have := hG1 k (hs.o k h2).1; omega
                             · omega
                         · rcases hk with hk | hk
                           · have h := hs.o k hk
                             exact ⟨.inl h.1, h.2.1, h.2.2⟩
                           · exact ⟨.inr (by omega), fun e => by have := hs.lt _ hs.hp; omega, fun h2 => by have := hG1 k (hs.d k h2).1; omega⟩
                         · exact ⟨.inl (hs.d k hk).1, (hs.d k hk).2⟩
                         · rcases hg with hg | hg
                           · exact hs.f k hk hg
                           · have := hFb k hk; omega
                         · rcases hk with hk | hk
                           · have := hG1 k hk; omega
                           · omega
                       · refine SO.store rfl (ev_t rfl) (ev_t rfl) size_26 hhd rfl rfl rfl rfl rfl ?_
                         intro w20 hu20 hhd hz20
                         have hs20 := hu20.size
                         try replace hS13 := Upd.trans hS13 hu20 (by intro k hl hk; (simp only [At] at hk; subst hk; exact hs.hp))
                         replace hU := hU.trans hu20 (by (intro k hl hk; first | exact (show False from hk).elim | exact hk | (simp only [At] at hk; exfalso; omega) | (have h9 := hGG k hk; rcases h9 with h | h; exact h; (exfalso; omega)) | (have h9 := hGG k (hs.v k hk).1; rcases h9 with h | h; exact h; (exfalso; omega)) | (have h9 := hGG k (hs.o k hk).1; rcases h9 with h | h; exact h; (exfalso; omega)) | (simp only [At] at hk; subst hk; have h9 := hGG _ hs.hp; rcases h9 with h | h; exact h; (exfalso; omega)) | (rcases hk with hk | hk; have h9 := hGG k (hs.o k hk).1; rcases h9 with h | h; exact h; (exfalso; omega); (exfalso; omega))))
                         replace hta2 := hta2.upd hu20 (fun k hk hl hS => by (simp only [At] at hS; subst hS; exact hs.f _ hk hs.hp))
                         replace htb2 := htb2.upd hu20 (fun k hk hl hS => by (simp only [At] at hS; subst hS; exact hs.f _ hk hs.hp))
                         replace hb4 := hb4.upd hu20 (fun hS => by (simp only [At] at hS; have h9 := hGG _ hs.hp; rcases h9 with h | h; have := hG0 _ h; omega; omega))
                         replace hb5 := hb5.upd hu20 (fun hS => by (simp only [At] at hS; have h9 := hGG _ hs.hp; rcases h9 with h | h; have := hG0 _ h; omega; omega))
                         replace hvs := hvs.upd hu20 (fun k hk hl hS => by (simp only [At] at hS; rcases hk with hk | hk; exact (hs.v k hk).2.1 hS; have := hs.lt _ hs.hp; omega))
                         replace hdn := hdn.upd hu20 (fun k hk hl hS => by (simp only [At] at hS; exact (hs.d k hk).2 hS))
                         replace htv := htv.upd hu20 (fun k hk hl hS => by (simp only [At] at hS; subst hS; exact hs.f _ hk hs.hp))
                         replace hof2 := hof2.upd hu20 (fun k hk hl hS => by (simp only [At] at hS; rcases hk with hk | hk; exact (hs.o k hk).2.1 hS; have := hs.lt _ hs.hp; omega))
                         refine ⟨trivial, ?_⟩
                         refine WN.step _ rfl (SO.ownSet (i := σ.length) (us := [_, _, _]) hof2 rfl (by omega) (Nat.zero_add _) rfl rfl (ev_t rfl) (ev_t rfl) size_28 rfl rfl rfl rfl ?_)
                         intro w21 hu21 hof3 hz9
                         have hs21 := hu21.size
                         try replace hS13 := Upd.trans hS13 hu21 (by intro k hl hk; (rcases hk with hk | hk; exact (hs.o k hk).1; (exfalso; omega)))
                         replace hU := hU.trans hu21 (by (intro k hl hk; first | exact (show False from hk).elim | exact hk | (simp only [At] at hk; exfalso; omega) | (have h9 := hGG k hk; rcases h9 with h | h; exact h; (exfalso; omega)) | (have h9 := hGG k (hs.v k hk).1; rcases h9 with h | h; exact h; (exfalso; omega)) | (have h9 := hGG k (hs.o k hk).1; rcases h9 with h | h; exact h; (exfalso; omega)) | (simp only [At] at hk; subst hk; have h9 := hGG _ hs.hp; rcases h9 with h | h; exact h; (exfalso; omega)) | (rcases hk with hk | hk; have h9 := hGG k (hs.o k hk).1; rcases h9 with h | h; exact h; (exfalso; omega); (exfalso; omega))))
                         replace hta2 := hta2.upd hu21 (fun k hk hl hS => by (rcases hS with hS | hS; exact hs.f k hk (hs.o k hS).1; have := hFb k hk; omega))
                         replace htb2 := htb2.upd hu21 (fun k hk hl hS => by (rcases hS with hS | hS; exact hs.f k hk (hs.o k hS).1; have := hFb k hk; omega))
                         replace hb4 := hb4.upd hu21 (fun hS => by (rcases hS with hS | hS; have h9 := hGG _ (hs.o _ hS).1; rcases h9 with h | h; have := hG0 _ h; omega; omega; omega))
                         replace hb5 := hb5.upd hu21 (fun hS => by (rcases hS with hS | hS; have h9 := hGG _ (hs.o _ hS).1; rcases h9 with h | h; have := hG0 _ h; omega; omega; omega))
                         replace hhd := hhd.upd hu21 (fun hS => by (rcases hS with hS | hS; exact (hs.o p hS).2.1 rfl; have := hs.lt _ hs.hp; omega))
                         replace hvs := hvs.upd hu21 (fun k hk hl hS => by (rcases hk with hk | hk; rcases hS with hS | hS; exact (hs.v k hk).2.2.1 hS; have := hG1 k (hs.v k hk).1; omega; rcases hS with hS | hS; have := hG1 k (hs.o k hS).1; omega; omega))
                         replace hdn := hdn.upd hu21 (fun k hk hl hS => by (rcases hS with hS | hS; exact (hs.o k hS).2.2 hk; have := hG1 k (hs.d k hk).1; omega))
                         replace htv := htv.upd hu21 (fun k hk hl hS => by (rcases hS with hS | hS; exact hs.f k hk (hs.o k hS).1; have := hFb k hk; omega))
                         rw [Nat.zero_add, take_zero3 hxl] at hof3
                         refine ⟨trivial, ?_⟩
                         refine WN.done ?_
                         refine WX.keep [] trivial ?_
                         refine WX.next ?_
                         refine WC.seq ?_
                         refine WC.region ?_
                         refine WL.val rfl rfl rfl rfl (r_assign rfl ev_c) ?_
                         refine WL.nil ?_
                         refine WX.keep [(6, _)] ⟨rfl, trivial⟩ ?_
                         refine WX.next ?_
                         refine WC.ret ?_
                         refine WX.thenRet ?_
                         refine WX.retE1 rfl rfl ?_
                         have eL : σ.length + 1 = (σ ++ [(x, b2)]).length := by simp
                         have eM : (σ.map (·.1)).map I6 ++ [I6 x] = ((σ ++ [(x, b2)]).map (·.1)).map I6 := by simp
                         rw [eM] at hvs
                         rw [eL] at hhd hvs hof3
                         have hszq := hU.size
                         have htv2 := htv.snoc htb2
                         refine ⟨rfl, ⟨fun k => G1 k ∨ (wC.heap.size ≤ k ∧ k < w21.heap.size), ⟨_, _, Gd, xs ++ [_], _, _, Ad, _, _, cd, ⟨hhd, hvs, hof3, hdn, by rw [List.map_append]; exact htv2, ⟨by rw [← eL]; omega, hle.2⟩⟩, .inl hs.hp, fun k hk => ?_, fun k hk => ?_, fun k hk => ?_, fun k hk hg => ?_, fun k hk => ?_⟩, fun k hk => hk.elim (fun h => (hGG k h).imp (fun h => h) (fun h => by omega)) (fun h => .inr (by omega))⟩, hU⟩
                         · rcases hk with hk | hk
                           · have h := hs.v k hk
                             have hkl := hG1 k h.1
                             refine ⟨.inl h.1, h.2.1, fun h2 => ?_, h.2.2.2⟩
                             rcases h2 with h2 | h2
                             · exact h.2.2.1 h2
                             · omega
                           · refine ⟨.inr (by omega), fun e => by have := hs.lt _ hs.hp; omega, fun h2 => ?_, fun h2 => by have := hG1 k (hs.d k h2).1; omega⟩
                             rcases h2 with h2 | h2
                             · have := hG1 k (hs.o k h2).1; omega
                             · omega
                         · rcases hk with hk | hk
                           · have h := hs.o k hk
                             exact ⟨.inl h.1, h.2.1, h.2.2⟩
                           · exact ⟨.inr (by omega), fun e => by have := hs.lt _ hs.hp; omega, fun h2 => by have := hG1 k (hs.d k h2).1; omega⟩
                         · exact ⟨.inl (hs.d k hk).1, (hs.d k hk).2⟩
                         · rcases hg with hg | hg
                           · exact hs.f k hk hg
                           · have := hFb k hk; omega
                         · rcases hk with hk | hk
                           · have := hG1 k hk; omega
                           · omega
                     · refine SO.alloc rfl rfl rfl rfl (r_buildSlice (cs := #[_, _, _]) (vs := [(0, _)]) rfl ⟨⟨rfl, ev_c⟩, trivial⟩ row_26 rfl rfl) ?_
                       intro w22 hu22 hB22 hz22
                       have hs22 := hu22.size
                       replace hS13 := Upd.trans hS13 hu22 (by intro k hl hk; exact (show False from hk).elim)
                       replace hU := hU.trans hu22 (by exact (fun _ _ h => h.elim))
                       replace hta2 := hta2.upd hu22 (fun k hk hl hS => by exact (show False from hS).elim)
                       replace htb2 := htb2.upd hu22 (fun k hk hl hS => by exact (show False from hS).elim)
                       replace hb4 := hb4.upd hu22 (fun hS => by exact (show False from hS))
                       replace hb5 := hb5.upd hu22 (fun hS => by exact (show False from hS))
                       replace hhd := hhd.upd hu22 (fun hS => by exact (show False from hS))
                       replace hvs := hvs.upd hu22 (fun k hk hl hS => by exact (show False from hS).elim)
                       replace hof := hof.upd hu22 (fun k hk hl hS => by exact (show False from hS).elim)
                       replace hdn := hdn.upd hu22 (fun k hk hl hS => by exact (show False from hS).elim)
                       replace htv := htv.upd hu22 (fun k hk hl hS => by exact (show False from hS).elim)
                       refine ⟨hS13, ?_⟩
                       refine WN.step _ rfl (SO.val rfl rfl rfl rfl (r_load rfl (ev_t rfl) flat_26 (Blk.cell hhd rfl)) ?_)
                       refine ⟨hS13, ?_⟩
                       refine WN.calm _ rfl rfl rfl rfl rfl (fun _ => r_lenSlice (ts := #[]) rfl (ev_t rfl) elem_26) ?_
                       refine WN.step _ rfl (SO.append hof (show Rd _ _ _ 1 3 [Value.string ⟨#[]⟩, .int .i64 0, .slice none 0 0] from rd_one hB22) row_26 one_c3 (le_maxLen (by omega)) (by omega) rfl (ev_t rfl) (ev_t rfl) rfl rfl rfl rfl ?_)
                       intro v23 w23 hof2 hu23
                       have hs23 := hu23.size
                       try replace hS13 := Upd.trans hS13 hu23 (by intro k hl hk; exact (hs.o k hk).1)
                       replace hU := hU.trans hu23 (by (intro k hl hk; first | exact (show False from hk).elim | exact hk | (simp only [At] at hk; exfalso; omega) | (have h9 := hGG k hk; rcases h9 with h | h; exact h; (exfalso; omega)) | (have h9 := hGG k (hs.v k hk).1; rcases h9 with h | h; exact h; (exfalso; omega)) | (have h9 := hGG k (hs.o k hk).1; rcases h9 with h | h; exact h; (exfalso; omega)) | (simp only [At] at hk; subst hk; have h9 := hGG _ hs.hp; rcases h9 with h | h; exact h; (exfalso; omega)) | (rcases hk with hk | hk; have h9 := hGG k (hs.o k hk).1; rcases h9 with h | h; exact h; (exfalso; omega); (exfalso; omega))))
                       replace hta2 := hta2.upd hu23 (fun k hk hl hS => by exact hs.f k hk (hs.o k hS).1)
                       replace htb2 := htb2.upd hu23 (fun k hk hl hS => by exact hs.f k hk (hs.o k hS).1)
                       replace hb4 := hb4.upd hu23 (fun hS => by (have h9 := hGG _ (hs.o _ hS).1; rcases h9 with h | h; have := hG0 _ h; omega; omega))
                       replace hb5 := hb5.upd hu23 (fun hS => by (have h9 := hGG _ (hs.o _ hS).1; rcases h9 with h | h; have := hG0 _ h; omega; omega))
                       replace hhd := hhd.upd hu23 (fun hS => by exact (hs.o p hS).2.1 rfl)
                       replace hvs := hvs.upd hu23 (fun k hk hl hS => by (rcases hk with hk | hk; exact (hs.v k hk).2.2.1 hS; have := hG1 k (hs.o k hS).1; omega))
                       replace hdn := hdn.upd hu23 (fun k hk hl hS => by exact (hs.o k hS).2.2 hk)
                       replace htv := htv.upd hu23 (fun k hk hl hS => by exact hs.f k hk (hs.o k hS).1)
                       refine ⟨trivial, ?_⟩
                       obtain ⟨A23, c23, rfl, hc23⟩ := Own.form hof2
                       obtain ⟨go, capo, curo, ex, _, _, _, _, _, _⟩ := hof2.open (by omega)
                       injection ex with ex1 ex2 ex3
                       subst ex1 ex3
                       refine WN.calm _ rfl rfl rfl rfl rfl (fun _ => r_indexAddr rfl (ev_t rfl) (ev_t rfl) elem_26 size_28 (by omega) (by omega)) ?_
                       refine WN.calm _ rfl rfl rfl rfl rfl (fun _ => r_nilCheck rfl (ev_t rfl)) ?_
                       first | refine WN.calm _ rfl rfl rfl rfl rfl (fun _ => r_field0 rfl (ev_t rfl) fld_46_2) ?_ | refine WN.calm _ rfl rfl rfl rfl rfl (fun _ => r_fieldAt rfl (ev_t rfl) fld_46_2) ?_
                       refine WN.fork _ _ rfl rfl ?_ ?_
                       · refine SO.ownSet (i := σ.length) (us := [_, _, _]) hof2 rfl (by omega) (Nat.zero_add _) rfl rfl (ev_t rfl) (ev_t rfl) size_28 rfl rfl rfl rfl ?_
                         intro w24 hu24 hof3 hz9
                         have hs24 := hu24.size
                         try replace hS13 := Upd.trans hS13 hu24 (by intro k hl hk; (rcases hk with hk | hk; exact (hs.o k hk).1; (exfalso; omega)))
                         replace hU := hU.trans hu24 (by (intro k hl hk; first | exact (show False from hk).elim | exact hk | (simp only [At] at hk; exfalso; omega) | (have h9 := hGG k hk; rcases h9 with h | h; exact h; (exfalso; omega)) | (have h9 := hGG k (hs.v k hk).1; rcases h9 with h | h; exact h; (exfalso; omega)) | (have h9 := hGG k (hs.o k hk).1; rcases h9 with h | h; exact h; (exfalso; omega)) | (simp only [At] at hk; subst hk; have h9 := hGG _ hs.hp; rcases h9 with h | h; exact h; (exfalso; omega)) | (rcases hk with hk | hk; have h9 := hGG k (hs.o k hk).1; rcases h9 with h | h; exact h; (exfalso; omega); (exfalso; omega))))
                         replace hta2 := hta2.upd hu24 (fun k hk hl hS => by (rcases hS with hS | hS; exact hs.f k hk (hs.o k hS).1; have := hFb k hk; omega))
                         replace htb2 := htb2.upd hu24 (fun k hk hl hS => by (rcases hS with hS | hS; exact hs.f k hk (hs.o k hS).1; have := hFb k hk; omega))
                         replace hb4 := hb4.upd hu24 (fun hS => by (rcases hS with hS | hS; have h9 := hGG _ (hs.o _ hS).1; rcases h9 with h | h; have := hG0 _ h; omega; omega; omega))
                         replace hb5 := hb5.upd hu24 (fun hS => by (rcases hS with hS | hS; have h9 := hGG _ (hs.o _ hS).1; rcases h9 with h | h; have := hG0 _ h; omega; omega; omega))
                         replace hhd := hhd.upd hu24 (fun hS => by (rcases hS with hS | hS; exact (hs.o p hS).2.1 rfl; have := hs.lt _ hs.hp; omega))
                         replace hvs := hvs.upd hu24 (fun k hk hl hS => by (rcases hk with hk | hk; rcases hS with hS | hS; exact (hs.v k hk).2.2.1 hS; have := hG1 k (hs.v k hk).1; omega; rcases hS with hS | hS; have := hG1 k (hs.o k hS).1; omega; omega))
                         replace hdn := hdn.upd hu24 (fun k hk hl hS => by (rcases hS with hS | hS; exact (hs.o k hS).2.2 hk; have := hG1 k (hs.d k hk).1; omega))
                         replace htv := htv.upd hu24 (fun k hk hl hS => by (rcases hS with hS | hS; exact hs.f k hk (hs.o k hS).1; have := hFb k hk; omega))
                         rw [Nat.zero_add, take_zero3 hxl] at hof3
                         refine ⟨trivial, ?_⟩
                         refine WN.step _ rfl (SO.store rfl (ev_t rfl) (ev_t rfl) size_26 hhd rfl rfl rfl rfl rfl ?_)
                         intro w25 hu25 hhd hz25
                         have hs25 := hu25.size
                         try replace hS13 := Upd.trans hS13 hu25 (by intro k hl hk; (simp only [At] at hk; subst hk; exact hs.hp))
                         replace hU := hU.trans hu25 (by (intro k hl hk; first | exact (show False from hk).elim | exact hk | (simp only [At] at hk; exfalso; omega) | (have h9 := hGG k hk; rcases h9 with h | h; exact h; (exfalso; omega)) | (have h9 := hGG k (hs.v k hk).1; rcases h9 with h | h; exact h; (exfalso; omega)) | (have h9 := hGG k (hs.o k hk).1; rcases h9 with h | h; exact h; (exfalso; omega)) | (simp only [At] at hk; subst hk; have h9 := hGG _ hs.hp; rcases h9 with h | h; exact h; (exfalso; omega)) | (rcases hk with hk | hk; have h9 := hGG k (hs.o k hk).1; rcases h9 with h | h; exact h; (exfalso; omega); (exfalso; omega))))
                         replace hta2 := hta2.upd hu25 (fun k hk hl hS => by (simp only [At] at hS; subst hS; exact hs.f _ hk hs.hp))
                         replace htb2 := htb2.upd hu25 (fun k hk hl hS => by (simp only [At] at hS; subst hS; exact hs.f _ hk hs.hp))
                         replace hb4 := hb4.upd hu25 (fun hS => by (simp only [At] at hS; have h9 := hGG _ hs.hp; rcases h9 with h | h; have := hG0 _ h; omega; omega))
                         replace hb5 := hb5.upd hu25 (fun hS => by (simp only [At] at hS; have h9 := hGG _ hs.hp; rcases h9 with h | h; have := hG0 _ h; omega; omega))
                         replace hvs := hvs.upd hu25 (fun k hk hl hS => by (simp only [At] at hS; rcases hk with hk | hk; exact (hs.v k hk).2.1 hS; have := hs.lt _ hs.hp; omega))
                         replace hdn := hdn.upd hu25 (fun k hk hl hS => by (simp only [At] at hS; exact (hs.d k hk).2 hS))
                         replace htv := htv.upd hu25 (fun k hk hl hS => by (simp only [At] at hS; subst hS; exact hs.f _ hk hs.hp))
                         replace hof3 := hof3.upd hu25 (fun k hk hl hS => by (simp only [At] at hS; rcases hk with hk | hk; exact (hs.o k hk).2.1 hS; have := hs.lt _ hs.hp; omega))
                         refine ⟨trivial, ?_⟩
                         refine WN.done ?_
                         refine WX.keep [] trivial ?_
                         refine WX.next ?_
                         refine WC.seq ?_
                         refine WC.region ?_
                         refine WL.val rfl rfl rfl rfl (r_assign rfl ev_c) ?_
                         refine WL.nil ?_
                         refine WX.keep [(6, _)] ⟨rfl, trivial⟩ ?_
                         refine WX.next ?_
                         refine WC.ret ?_
                         refine WX.thenRet ?_
                         refine WX.retE1 rfl rfl ?_
                         have eL : σ.length + 1 = (σ ++ [(x, b2)]).length := by simp
                         have eM : (σ.map (·.1)).map I6 ++ [I6 x] = ((σ ++ [(x, b2)]).map (·.1)).map I6 := by simp
                         rw [eM] at hvs
                         rw [eL] at hhd hvs hof3
                         have hszq := hU.size
                         have htv2 := htv.snoc htb2
                         refine ⟨rfl, ⟨fun k => G1 k ∨ (wC.heap.size ≤ k ∧ k < w25.heap.size), ⟨_, _, Gd, xs ++ [_], _, _, Ad, _, _, cd, ⟨hhd, hvs, hof3, hdn, by rw [List.map_append]; exact htv2, ⟨by rw [← eL]; omega, hle.2⟩⟩, .inl hs.hp, fun k hk => ?_, fun k hk => ?_, fun k hk => ?_, fun k hk hg => ?_, fun k hk => ?_⟩, fun k hk => hk.elim (fun h => (hGG k h).imp (fun h => h) (fun h => by omega)) (fun h => .inr (by omega))⟩, hU⟩
                         · rcases hk with hk | hk
                           · have h := hs.v k hk
                             have hkl := hG1 k h.1
                             refine ⟨.inl h.1, h.2.1, fun h2 => ?_, h.2.2.2⟩
                             rcases h2 with h2 | h2
                             · exact h.2.2.1 h2
                             · omega
                           · refine ⟨.inr (by omega), fun e => by have := hs.lt _ hs.hp; omega, fun h2 => ?_, fun h2 => by have := hG1 k (hs.d k h2).1; omega⟩
                             rcases h2 with h2 | h2
                             · have := hG1 k (hs.o k h2).1; omega
                             · omega
                         · rcases hk with hk | hk
                           · have h := hs.o k hk
                             exact ⟨.inl h.1, h.2.1, h.2.2⟩
                           · exact ⟨.inr (by omega), fun e => by have := hs.lt _ hs.hp; omega, fun h2 => by have := hG1 k (hs.d k h2).1; omega⟩
                         · exact ⟨.inl (hs.d k hk).1, (hs.d k hk).2⟩
                         · rcases hg with hg | hg
                           · exact hs.f k hk hg
                           · have := hFb k hk; omega
                         · rcases hk with hk | hk
                           · have := hG1 k hk; omega
                           · omega
                       · refine SO.store rfl (ev_t rfl) (ev_t rfl) size_26 hhd rfl rfl rfl rfl rfl ?_
                         intro w26 hu26 hhd hz26
                         have hs26 := hu26.size
                         try replace hS13 := Upd.trans hS13 hu26 (by intro k hl hk; (simp only [At] at hk; subst hk; exact hs.hp))
                         replace hU := hU.trans hu26 (by (intro k hl hk; first | exact (show False from hk).elim | exact hk | (simp only [At] at hk; exfalso; omega) | (have h9 := hGG k hk; rcases h9 with h | h; exact h; (exfalso; omega)) | (have h9 := hGG k (hs.v k hk).1; rcases h9 with h | h; exact h; (exfalso; omega)) | (have h9 := hGG k (hs.o k hk).1; rcases h9 with h | h; exact h; (exfalso; omega)) | (simp only [At] at hk; subst hk; have h9 := hGG _ hs.hp; rcases h9 with h | h; exact h; (exfalso; omega)) | (rcases hk with hk | hk; have h9 := hGG k (hs.o k hk).1; rcases h9 with h | h; exact h; (exfalso; omega); (exfalso; omega))))
                         replace hta2 := hta2.upd hu26 (fun k hk hl hS => by (simp only [At] at hS; subst hS; exact hs.f _ hk hs.hp))
                         replace htb2 := htb2.upd hu26 (fun k hk hl hS => by (simp only [At] at hS; subst hS; exact hs.f _ hk hs.hp))
                         replace hb4 := hb4.upd hu26 (fun hS => by (simp only [At] at hS; have h9 := hGG _ hs.hp; rcases h9 with h | h; have := hG0 _ h; omega; omega))
                         replace hb5 := hb5.upd hu26 (fun hS => by (simp only [At] at hS; have h9 := hGG _ hs.hp; rcases h9 with h | h; have := hG0 _ h; omega; omega))
                         replace hvs := hvs.upd hu26 (fun k hk hl hS => by (simp only [At] at hS; rcases hk with hk | hk; exact (hs.v k hk).2.1 hS; have := hs.lt _ hs.hp; omega))
                         replace hdn := hdn.upd hu26 (fun k hk hl hS => by (simp only [At] at hS; exact (hs.d k hk).2 hS))
                         replace htv := htv.upd hu26 (fun k hk hl hS => by (simp only [At] at hS; subst hS; exact hs.f _ hk hs.hp))
                         replace hof2 := hof2.upd hu26 (fun k hk hl hS => by (simp only [At] at hS; rcases hk with hk | hk; exact (hs.o k hk).2.1 hS; have := hs.lt _ hs.hp; omega))
                         refine ⟨trivial, ?_⟩
                         refine WN.step _ rfl (SO.ownSet (i := σ.length) (us := [_, _, _]) hof2 rfl (by omega) (Nat.zero_add _) rfl rfl (ev_t rfl) (ev_t rfl) size_28 rfl rfl rfl rfl ?_)
                         intro w27 hu27 hof3 hz9
                         have hs27 := hu27.size
                         try replace hS13 := Upd.trans hS13 hu27 (by intro k hl hk; (rcases hk with hk | hk; exact (hs.o k hk).1; (exfalso; omega)))
                         replace hU := hU.trans hu27 (by (intro k hl hk; first | exact (show False from hk).elim | exact hk | (simp only [At] at hk; exfalso; omega) | (have h9 := hGG k hk; rcases h9 with h | h; exact h; (exfalso; omega)) | (have h9 := hGG k (hs.v k hk).1; rcases h9 with h | h; exact h; (exfalso; omega)) | (have h9 := hGG k (hs.o k hk).1; rcases h9 with h | h; exact h; (exfalso; omega)) | (simp only [At] at hk; subst hk; have h9 := hGG _ hs.hp; rcases h9 with h | h; exact h; (exfalso; omega)) | (rcases hk with hk | hk; have h9 := hGG k (hs.o k hk).1; rcases h9 with h | h; exact h; (exfalso; omega); (exfalso; omega))))
                         replace hta2 := hta2.upd hu27 (fun k hk hl hS => by (rcases hS with hS | hS; exact hs.f k hk (hs.o k hS).1; have := hFb k hk; omega))
                         replace htb2 := htb2.upd hu27 (fun k hk hl hS => by (rcases hS with hS | hS; exact hs.f k hk (hs.o k hS).1; have := hFb k hk; omega))
                         replace hb4 := hb4.upd hu27 (fun hS => by (rcases hS with hS | hS; have h9 := hGG _ (hs.o _ hS).1; rcases h9 with h | h; have := hG0 _ h; omega; omega; omega))
                         replace hb5 := hb5.upd hu27 (fun hS => by (rcases hS with hS | hS; have h9 := hGG _ (hs.o _ hS).1; rcases h9 with h | h; have := hG0 _ h; omega; omega; omega))
                         replace hhd := hhd.upd hu27 (fun hS => by (rcases hS with hS | hS; exact (hs.o p hS).2.1 rfl; have := hs.lt _ hs.hp; omega))
                         replace hvs := hvs.upd hu27 (fun k hk hl hS => by (rcases hk with hk | hk; rcases hS with hS | hS; exact (hs.v k hk).2.2.1 hS; have := hG1 k (hs.v k hk).1; omega; rcases hS with hS | hS; have := hG1 k (hs.o k hS).1; omega; omega))
                         replace hdn := hdn.upd hu27 (fun k hk hl hS => by (rcases hS with hS | hS; exact (hs.o k hS).2.2 hk; have := hG1 k (hs.d k hk).1; omega))
                         replace htv := htv.upd hu27 (fun k hk hl hS => by (rcases hS with hS | hS; exact hs.f k hk (hs.o k hS).1; have := hFb k hk; omega))
                         rw [Nat.zero_add, take_zero3 hxl] at hof3
                         refine ⟨trivial, ?_⟩
                         refine WN.done ?_
                         refine WX.keep [] trivial ?_
                         refine WX.next ?_
                         refine WC.seq ?_
                         refine WC.region ?_
                         refine WL.val rfl rfl rfl rfl (r_assign rfl ev_c) ?_
                         refine WL.nil ?_
                         refine WX.keep [(6, _)] ⟨rfl, trivial⟩ ?_
                         refine WX.next ?_
                         refine WC.ret ?_
                         refine WX.thenRet ?_
                         refine WX.retE1 rfl rfl ?_
                         have eL : σ.length + 1 = (σ ++ [(x, b2)]).length := by simp
                         have eM : (σ.map (·.1)).map I6 ++ [I6 x] = ((σ ++ [(x, b2)]).map (·.1)).map I6 := by simp
                         rw [eM] at hvs
                         rw [eL] at hhd hvs hof3
                         have hszq := hU.size
                         have htv2 := htv.snoc htb2
                         refine ⟨rfl, ⟨fun k => G1 k ∨ (wC.heap.size ≤ k ∧ k < w27.heap.size), ⟨_, _, Gd, xs ++ [_], _, _, Ad, _, _, cd, ⟨hhd, hvs, hof3, hdn, by rw [List.map_append]; exact htv2, ⟨by rw [← eL]; omega, hle.2⟩⟩, .inl hs.hp, fun k hk => ?_, fun k hk => ?_, fun k hk => ?_, fun k hk hg => ?_, fun k hk => ?_⟩, fun k hk => hk.elim (fun h => (hGG k h).imp (fun h => h) (fun h => by omega)) (fun h => .inr (by omega))⟩, hU⟩
                         · rcases hk with hk | hk
                           · have h := hs.v k hk
                             have hkl := hG1 k h.1
                             refine ⟨.inl h.1, h.2.1, fun h2 => ?_, h.2.2.2⟩
                             rcases h2 with h2 | h2
                             · exact h.2.2.1 h2
                             · omega
                           · refine ⟨.inr (by omega), fun e => by have := hs.lt _ hs.hp; omega, fun h2 => ?_, fun h2 => by have := hG1 k (hs.d k h2).1; omega⟩
                             rcases h2 with h2 | h2
                             · have := hG1 k (hs.o k h2).1; omega
                             · omega
                         · rcases hk with hk | hk
                           · have h := hs.o k hk
                             exact ⟨.inl h.1, h.2.1, h.2.2⟩
                           · exact ⟨.inr (by omega), fun e => by have := hs.lt _ hs.hp; omega, fun h2 => by have := hG1 k (hs.d k h2).1; omega⟩
                         · exact ⟨.inl (hs.d k hk).1, (hs.d k hk).2⟩
                         · rcases hg with hg | hg
                           · exact hs.f k hk hg
                           · have := hFb k hk; omega
                         · rcases hk with hk | hk
                           · have := hG1 k hk; omega
                           · omega
                   · refine SO.alloc rfl rfl rfl rfl (r_buildSlice1 (vs := [_]) rfl ⟨(ev_t rfl), trivial⟩ rfl row_33 rfl rfl) ?_
                     intro w28 hu28 hB28 hz28
                     have hs28 := hu28.size
                     try replace hS12 := Upd.trans hS12 hu28 (by intro k hl hk; exact (show False from hk).elim)
                     replace hU := hU.trans hu28 (by exact (fun _ _ h => h.elim))
                     replace hta2 := hta2.upd hu28 (fun k hk hl hS => by exact (show False from hS).elim)
                     replace htb2 := htb2.upd hu28 (fun k hk hl hS => by exact (show False from hS).elim)
                     replace hb4 := hb4.upd hu28 (fun hS => by exact (show False from hS))
                     replace hb5 := hb5.upd hu28 (fun hS => by exact (show False from hS))
                     replace hhd := hhd.upd hu28 (fun hS => by exact (show False from hS))
                     replace hvs := hvs.upd hu28 (fun k hk hl hS => by exact (show False from hS).elim)
                     replace hof := hof.upd hu28 (fun k hk hl hS => by exact (show False from hS).elim)
                     replace hdn := hdn.upd hu28 (fun k hk hl hS => by exact (show False from hS).elim)
                     replace htv := htv.upd hu28 (fun k hk hl hS => by exact (show False from hS).elim)
                     refine ⟨trivial, ?_⟩
                     refine WN.step _ rfl (SO.val rfl rfl rfl rfl (r_load rfl (ev_t rfl) flat_33 (Blk.cell hhd rfl)) ?_)
                     refine ⟨hS12, ?_⟩
                     refine WN.step _ rfl (SO.append hvs (show Rd _ _ _ 1 1 [I6 x] from Rd.of_blk (F := At _) (n := 1) (sz := 1) hB28 rfl rfl (by omega)) row_33 (fun u hu => by simp at hu; subst hu; rfl) (le_maxLen (by omega)) (by omega) rfl (ev_t rfl) (ev_t rfl) rfl rfl rfl rfl ?_)
                     intro v29 w29 hvs hu29
                     have hs29 := hu29.size
                     try replace hS12 := Upd.trans hS12 hu29 (by intro k hl hk; exact (hs.v k hk).1)
                     replace hU := hU.trans hu29 (by (intro k hl hk; first | exact (show False from hk).elim | exact hk | (simp only [At] at hk; exfalso; omega) | (have h9 := hGG k hk; rcases h9 with h | h; exact h; (exfalso; omega)) | (have h9 := hGG k (hs.v k hk).1; rcases h9 with h | h; exact h; (exfalso; omega)) | (have h9 := hGG k (hs.o k hk).1; rcases h9 with h | h; exact h; (exfalso; omega)) | (simp only [At] at hk; subst hk; have h9 := hGG _ hs.hp; rcases h9 with h | h; exact h; (exfalso; omega)) | (rcases hk with hk | hk; have h9 := hGG k (hs.o k hk).1; rcases h9 with h | h; exact h; (exfalso; omega); (exfalso; omega))))
                     replace hta2 := hta2.upd hu29 (fun k hk hl hS => by exact hs.f k hk (hs.v k hS).1)
                     replace htb2 := htb2.upd hu29 (fun k hk hl hS => by exact hs.f k hk (hs.v k hS).1)
                     replace hb4 := hb4.upd hu29 (fun hS => by (have h9 := hGG _ (hs.v _ hS).1; rcases h9 with h | h; have := hG0 _ h; omega; omega))
                     replace hb5 := hb5.upd hu29 (fun hS => by (have h9 := hGG _ (hs.v _ hS).1; rcases h9 with h | h; have := hG0 _ h; omega; omega))
                     replace hhd := hhd.upd hu29 (fun hS => by exact (hs.v p hS).2.1 rfl)
                     replace hof := hof.upd hu29 (fun k hk hl hS => by exact (hs.v k hS).2.2.1 hk)
                     replace hdn := hdn.upd hu29 (fun k hk hl hS => by exact (hs.v k hS).2.2.2 hk)
                     replace htv := htv.upd hu29 (fun k hk hl hS => by exact hs.f k hk (hs.v k hS).1)
                     refine ⟨trivial, ?_⟩
                     obtain ⟨A29, c29, rfl, hc29⟩ := Own.form hvs
                     refine WN.calm _ rfl rfl rfl rfl rfl (fun _ => r_nilCheck rfl (ev_t rfl)) ?_
                     first | refine WN.calm _ rfl rfl rfl rfl rfl (fun _ => r_field0 rfl (ev_t rfl) fld_46_1) ?_ | refine WN.calm _ rfl rfl rfl rfl rfl (fun _ => r_fieldAt rfl (ev_t rfl) fld_46_1) ?_
                     refine WN.step _ rfl (SO.store rfl (ev_t rfl) (ev_t rfl) size_33 hhd rfl rfl rfl rfl rfl ?_)
                     intro w30 hu30 hhd hz30
                     have hs30 := hu30.size
                     try replace hS12 := Upd.trans hS12 hu30 (by intro k hl hk; (simp only [At] at hk; subst hk; exact hs.hp))
                     replace hU := hU.trans hu30 (by (intro k hl hk; first | exact (show False from hk).elim | exact hk | (simp only [At] at hk; exfalso; omega) | (have h9 := hGG k hk; rcases h9 with h | h; exact h; (exfalso; omega)) | (have h9 := hGG k (hs.v k hk).1; rcases h9 with h | h; exact h; (exfalso; omega)) | (have h9 := hGG k (hs.o k hk).1; rcases h9 with h | h; exact h; (exfalso; omega)) | (simp only [At] at hk; subst hk; have h9 := hGG _ hs.hp; rcases h9 with h | h; exact h; (exfalso; omega)) | (rcases hk with hk | hk; have h9 := hGG k (hs.o k hk).1; rcases h9 with h | h; exact h; (exfalso; omega); (exfalso; omega))))
                     replace hta2 := hta2.upd hu30 (fun k hk hl hS => by (simp only [At] at hS; subst hS; exact hs.f _ hk hs.hp))
                     replace htb2 := htb2.upd hu30 (fun k hk hl hS => by (simp only [At] at hS; subst hS; exact hs.f _ hk hs.hp))
                     replace hb4 := hb4.upd hu30 (fun hS => by (simp only [At] at hS; have h9 := hGG _ hs.hp; rcases h9 with h | h; have := hG0 _ h; omega; omega))
                     replace hb5 := hb5.upd hu30 (fun hS => by (simp only [At] at hS; have h9 := hGG _ hs.hp; rcases h9 with h | h; have := hG0 _ h; omega; omega))
                     replace hvs := hvs.upd hu30 (fun k hk hl hS => by (simp only [At] at hS; rcases hk with hk | hk; exact (hs.v k hk).2.1 hS; have := hs.lt _ hs.hp; omega))
                     replace hof := hof.upd hu30 (fun k hk hl hS => by (simp only [At] at hS; exact (hs.o k hk).2.1 hS))
                     replace hdn := hdn.upd hu30 (fun k hk hl hS => by (simp only [At] at hS; exact (hs.d k hk).2 hS))
                     replace htv := htv.upd hu30 (fun k hk hl hS => by (simp only [At] at hS; subst hS; exact hs.f _ hk hs.hp))
                     refine ⟨trivial, ?_⟩
                     refine WN.done ?_
                     refine WX.keep [(0, _), (5, _)] ⟨rfl, rfl, trivial⟩ ?_
                     refine WX.next ?_
                     refine WC.seq ?_
                     refine WC.draws' (fun u0_ u1_ => Upd (fun k => G1 k) u0_ u1_) (fun j => [0, 0, 0, 1, 0, 0, 1, 2, 0, 2, 0, 0, 2].getD j 0) (.calm 0 (.calm 1 (.calm 2 (.held 4 (.two 3 6 (.calm 5 (.one 6 (.one 7 (.calm 8 (.calm 10 (.calm 11 (.two 9 12 (.one 12 (.done)) (.one 9 (.done))))))))) (.one 3 (.calm 5 (.one 7 (.calm 8 (.calm 10 (.calm 11 (.two 9 12 (.one 12 (.done)) (.one 9 (.done)))))))))))))) mixed (by kernel_rfl) (by repeat (first | with_reducible exact Deaf.body | with_reducible apply Deaf.then)) ?_
                     intro w31 hu31
                     have hz31 := congrArg Array.size hu31.2.2.2
                     replace hu31 := Upd.of_draw hu31
                     have hs31 := hu31.size
                     replace hU := hU.trans hu31 (by exact (fun _ _ h => h.elim))
                     replace hta2 := hta2.upd hu31 (fun k hk hl hS => by exact (show False from hS).elim)
                     replace htb2 := htb2.upd hu31 (fun k hk hl hS => by exact (show False from hS).elim)
                     replace hb4 := hb4.upd hu31 (fun hS => by exact (show False from hS))
                     replace hb5 := hb5.upd hu31 (fun hS => by exact (show False from hS))
                     replace hhd := hhd.upd hu31 (fun hS => by exact (show False from hS))
                     replace hvs := hvs.upd hu31 (fun k hk hl hS => by exact (show False from hS).elim)
                     replace hof := hof.upd hu31 (fun k hk hl hS => by exact (show False from hS).elim)
                     replace hdn := hdn.upd hu31 (fun k hk hl hS => by exact (show False from hS).elim)
                     replace htv := htv.upd hu31 (fun k hk hl hS => by exact (show False from hS).elim)
                     have hS13 := Upd.refl (fun k => G1 k) w31
                     refine WN.calm _ rfl rfl rfl rfl rfl (fun _ => r_move rfl (ev_t rfl)) ?_
                     refine WN.calm _ rfl rfl rfl rfl rfl (fun _ => r_nilCheck rfl (ev_t rfl)) ?_
                     first | refine WN.calm _ rfl rfl rfl rfl rfl (fun _ => r_field0 rfl (ev_t rfl) fld_46_2) ?_ | refine WN.calm _ rfl rfl rfl rfl rfl (fun _ => r_fieldAt rfl (ev_t rfl) fld_46_2) ?_
                     first | refine WN.held _ rfl rfl rfl rfl rfl hS13 (fun w' hS => r_loadAgg (vs := [_, _, _]) rfl (ev_t rfl) agg_28 size_28 (Blk.cellsL (hb5.upd hS (fun h => by rcases hGG _ h with h | h; have := hG0 _ h; omega; omega)))) ?_ | refine WN.held _ rfl rfl rfl rfl rfl hS13 (fun w' hS => r_loadAgg (vs := [_, _, _]) rfl (ev_t rfl) agg_28 size_28 (Blk.cellsL hb5)) ?_
                     refine WN.fork _ _ rfl rfl ?_ ?_
                     · refine SO.val rfl rfl rfl rfl (r_load rfl (ev_t rfl) flat_26 (Blk.cell hhd rfl)) ?_
                       refine ⟨hS13, ?_⟩
                       refine WN.calm _ rfl rfl rfl rfl rfl (fun _ => r_lenSlice (ts := #[]) rfl (ev_t rfl) elem_26) ?_
                       refine WN.step _ rfl (SO.alloc rfl rfl rfl rfl (r_buildSlice (cs := #[_, _, _]) (vs := [(0, _)]) rfl ⟨⟨rfl, ev_c⟩, trivial⟩ row_26 rfl rfl) ?_)
                       intro w32 hu32 hB32 hz32
                       have hs32 := hu32.size
                       replace hS13 := Upd.trans hS13 hu32 (by intro k hl hk; exact (show False from hk).elim)
                       replace hU := hU.trans hu32 (by exact (fun _ _ h => h.elim))
                       replace hta2 := hta2.upd hu32 (fun k hk hl hS => by exact (show False from hS).elim)
                       replace htb2 := htb2.upd hu32 (fun k hk hl hS => by exact (show False from hS).elim)
                       replace hb4 := hb4.upd hu32 (fun hS => by exact (show False from hS))
                       replace hb5 := hb5.upd hu32 (fun hS => by exact (show False from hS))
                       replace hhd := hhd.upd hu32 (fun hS => by exact (show False from hS))
                       replace hvs := hvs.upd hu32 (fun k hk hl hS => by exact (show False from hS).elim)
                       replace hof := hof.upd hu32 (fun k hk hl hS => by exact (show False from hS).elim)
                       replace hdn := hdn.upd hu32 (fun k hk hl hS => by exact (show False from hS).elim)
                       replace htv := htv.upd hu32 (fun k hk hl hS => by exact (show False from hS).elim)
                       refine ⟨hS13, ?_⟩
                       refine WN.step _ rfl (SO.append hof (show Rd _ _ _ 1 3 [Value.string ⟨#[]⟩, .int .i64 0, .slice none 0 0] from rd_one hB32) row_26 one_c3 (le_maxLen (by omega)) (by omega) rfl (ev_t rfl) (ev_t rfl) rfl rfl rfl rfl ?_)
                       intro v33 w33 hof2 hu33
                       have hs33 := hu33.size
                       try replace hS13 := Upd.trans hS13 hu33 (by intro k hl hk; exact (hs.o k hk).1)
                       replace hU := hU.trans hu33 (by (intro k hl hk; first | exact (show False from hk).elim | exact hk | (simp only [At] at hk; exfalso; omega) | (have h9 := hGG k hk; rcases h9 with h | h; exact h; (exfalso; omega)) | (have h9 := hGG k (hs.v k hk).1; rcases h9 with h | h; exact h; (exfalso; omega)) | (have h9 := hGG k (hs.o k hk).1; rcases h9 with h | h; exact h; (exfalso; omega)) | (simp only [At] at hk; subst hk; have h9 := hGG _ hs.hp; rcases h9 with h | h; exact h; (exfalso; omega)) | (rcases hk with hk | hk; have h9 := hGG k (hs.o k hk).1; rcases h9 with h | h; exact h; (exfalso; omega); (exfalso; omega))))
                       replace hta2 := hta2.upd hu33 (fun k hk hl hS => by exact hs.f k hk (hs.o k hS).1)
                       replace htb2 := htb2.upd hu33 (fun k hk hl hS => by exact hs.f k hk (hs.o k hS).1)
                       replace hb4 := hb4.upd hu33 (fun hS => by (have h9 := hGG _ (hs.o _ hS).1; rcases h9 with h | h; have := hG0 _ h; omega; omega))
                       replace hb5 := hb5.upd hu33 (fun hS => by (have h9 := hGG _ (hs.o _ hS).1; rcases h9 with h | h; have := hG0 _ h; omega; omega))
                       replace hhd := hhd.upd hu33 (fun hS => by exact (hs.o p hS).2.1 rfl)
                       replace hvs := hvs.upd hu33 (fun k hk hl hS => by (rcases hk with hk | hk; exact (hs.v k hk).2.2.1 hS; have := hG1 k (hs.o k hS).1; omega))
                       replace hdn := hdn.upd hu33 (fun k hk hl hS => by exact (hs.o k hS).2.2 hk)
                       replace htv := htv.upd hu33 (fun k hk hl hS => by exact hs.f k hk (hs.o k hS).1)
                       refine ⟨trivial, ?_⟩
                       obtain ⟨A33, c33, rfl, hc33⟩ := Own.form hof2
                       obtain ⟨go, capo, curo, ex, _, _, _, _, _, _⟩ := hof2.open (by omega)
                       injection ex with ex1 ex2 ex3
                       subst ex1 ex3
                       refine WN.calm _ rfl rfl rfl rfl rfl (fun _ => r_indexAddr rfl (ev_t rfl) (ev_t rfl) elem_26 size_28 (by omega) (by omega)) ?_
                       refine WN.calm _ rfl rfl rfl rfl rfl (fun _ => r_nilCheck rfl (ev_t rfl)) ?_
                       first | refine WN.calm _ rfl rfl rfl rfl rfl (fun _ => r_field0 rfl (ev_t rfl) fld_46_2) ?_ | refine WN.calm _ rfl rfl rfl rfl rfl (fun _ => r_fieldAt rfl (ev_t rfl) fld_46_2) ?_
                       refine WN.fork _ _ rfl rfl ?_ ?_
                       · refine SO.ownSet (i := σ.length) (us := [_, _, _]) hof2 rfl (by omega) (Nat.zero_add _) rfl rfl (ev_t rfl) (ev_t rfl) size_28 rfl rfl rfl rfl ?_
                         intro w34 hu34 hof3 hz9
                         have hs34 := hu34.size
                         try replace hS13 := Upd.trans hS13 hu34 (by intro k hl hk; (rcases hk with hk | hk; exact (hs.o k hk).1; (exfalso; omega)))
                         replace hU := hU.trans hu34 (by (intro k hl hk; first | exact (show False from hk).elim | exact hk | (simp only [At] at hk; exfalso; omega) | (have h9 := hGG k hk; rcases h9 with h | h; exact h; (exfalso; omega)) | (have h9 := hGG k (hs.v k hk).1; rcases h9 with h | h; exact h; (exfalso; omega)) | (have h9 := hGG k (hs.o k hk).1; rcases h9 with h | h; exact h; (exfalso; omega)) | (simp only [At] at hk; subst hk; have h9 := hGG _ hs.hp; rcases h9 with h | h; exact h; (exfalso; omega)) | (rcases hk with hk | hk; have h9 := hGG k (hs.o k hk).1; rcases h9 with h | h; exact h; (exfalso; omega); (exfalso; omega))))
                         replace hta2 := hta2.upd hu34 (fun k hk hl hS => by (rcases hS with hS | hS; exact hs.f k hk (hs.o k hS).1; have := hFb k hk; omega))
                         replace htb2 := htb2.upd hu34 (fun k hk hl hS => by (rcases hS with hS | hS; exact hs.f k hk (hs.o k hS).1; have := hFb k hk; omega))
                         replace hb4 := hb4.upd hu34 (fun hS => by (rcases hS with hS | hS; have h9 := hGG _ (hs.o _ hS).1; rcases h9 with h | h; have := hG0 _ h; omega; omega; omega))
                         replace hb5 := hb5.upd hu34 (fun hS => by (rcases hS with hS | hS; have h9 := hGG _ (hs.o _ hS).1; rcases h9 with h | h; have := hG0 _ h; omega; omega; omega))
                         replace hhd := hhd.upd hu34 (fun hS => by (rcases hS with hS | hS; exact (hs.o p hS).2.1 rfl; have := hs.lt _ hs.hp; omega))
                         replace hvs := hvs.upd hu34 (fun k hk hl hS => by (rcases hk with hk | hk; rcases hS with hS | hS; exact (hs.v k hk).2.2.1 hS; have := hG1 k (hs.v k hk).1; omega; rcases hS with hS | hS; have := hG1 k (hs.o k hS).1; omega; omega))
                         replace hdn := hdn.upd hu34 (fun k hk hl hS => by (rcases hS with hS | hS; exact (hs.o k hS).2.2 hk; have := hG1 k (hs.d k hk).1; omega))
                         replace htv := htv.upd hu34 (fun k hk hl hS => by (rcases hS with hS | hS; exact hs.f k hk (hs.o k hS).1; have := hFb k hk; omega))
                         rw [Nat.zero_add, take_zero3 hxl] at hof3
                         refine ⟨trivial, ?_⟩
                         refine WN.step _ rfl (SO.store rfl (ev_t rfl) (ev_t rfl) size_26 hhd rfl rfl rfl rfl rfl ?_)
                         intro w35 hu35 hhd hz35
                         have hs35 := hu35.size
                         try replace hS13 := Upd.trans hS13 hu35 (by intro k hl hk; (simp only [At] at hk; subst hk; exact hs.hp))
                         replace hU := hU.trans hu35 (by (intro k hl hk; first | exact (show False from hk).elim | exact hk | (simp only [At] at hk; exfalso; omega) | (have h9 := hGG k hk; rcases h9 with h | h; exact h; (exfalso; omega)) | (have h9 := hGG k (hs.v k hk).1; rcases h9 with h | h; exact h; (exfalso; omega)) | (have h9 := hGG k (hs.o k hk).1; rcases h9 with h | h; exact h; (exfalso; omega)) | (simp only [At] at hk; subst hk; have h9 := hGG _ hs.hp; rcases h9 with h | h; exact h; (exfalso; omega)) | (rcases hk with hk | hk; have h9 := hGG k (hs.o k hk).1; rcases h9 with h | h; exact h; (exfalso; omega); (exfalso; omega))))
                         replace hta2 := hta2.upd hu35 (fun k hk hl hS => by (simp only [At] at hS; subst hS; exact hs.f _ hk hs.hp))
                         replace htb2 := htb2.upd hu35 (fun k hk hl hS => by (simp only [At] at hS; subst hS; exact hs.f _ hk hs.hp))
                         replace hb4 := hb4.upd hu35 (fun hS => by (simp only [At] at hS; have h9 := hGG _ hs.hp; rcases h9 with h | h; have := hG0 _ h; omega; omega))
                         replace hb5 := hb5.upd hu35 (fun hS => by (simp only [At] at hS; have h9 := hGG _ hs.hp; rcases h9 with h | h; have := hG0 _ h; omega; omega))
                         replace hvs := hvs.upd hu35 (fun k hk hl hS => by (simp only [At] at hS; rcases hk with hk | hk; exact (hs.v k hk).2.1 hS; have := hs.lt _ hs.hp; omega))
                         replace hdn := hdn.upd hu35 (fun k hk hl hS => by (simp only [At] at hS; exact (hs.d k hk).2 hS))
                         replace htv := htv.upd hu35 (fun k hk hl hS => by (simp only [At] at hS; subst hS; exact hs.f _ hk hs.hp))
                         replace hof3 := hof3.upd hu35 (fun k hk hl hS => by (simp only [At] at hS; rcases hk with hk | hk; exact (hs.o k hk).2.1 hS; have := hs.lt _ hs.hp; omega))
                         refine ⟨trivial, ?_⟩
                         refine WN.done ?_
                         refine WX.keep [] trivial ?_
                         refine WX.next ?_
                         refine WC.seq ?_
                         refine WC.region ?_
                         refine WL.val rfl rfl rfl rfl (r_assign rfl ev_c) ?_
                         refine WL.nil ?_
                         refine WX.keep [(6, _)] ⟨rfl, trivial⟩ ?_
                         refine WX.next ?_
                         refine WC.ret ?_
                         refine WX.thenRet ?_
                         refine WX.retE1 rfl rfl ?_
                         have eL : σ.length + 1 = (σ ++ [(x, b2)]).length := by simp
                         have eM : (σ.map (·.1)).map I6 ++ [I6 x] = ((σ ++ [(x, b2)]).map (·.1)).map I6 := by simp
                         rw [eM] at hvs
                         rw [eL] at hhd hvs hof3
                         have hszq := hU.size
                         have htv2 := htv.snoc htb2
                         refine ⟨rfl, ⟨fun k => G1 k ∨ (wC.heap.size ≤ k ∧ k < w35.heap.size), ⟨_, _, Gd, xs ++ [_], _, _, Ad, _, _, cd, ⟨hhd, hvs, hof3, hdn, by rw [List.map_append]; exact htv2, ⟨by rw [← eL]; omega, hle.2⟩⟩, .inl hs.hp, fun k hk => ?_, fun k hk => ?_, fun k hk => ?_, fun k hk hg => ?_, fun k hk => ?_⟩, fun k hk => hk.elim (fun h => (hGG k h).imp (fun h => h) (fun h => by omega)) (fun h => .inr (by omega))⟩, hU⟩
                         · rcases hk with hk | hk
                           · have h := hs.v k hk
                             have hkl := hG1 k h.1
                             refine ⟨.inl h.1, h.2.1, fun h2 => ?_, h.2.2.2⟩
                             rcases h2 with h2 | h2
                             · exact h.2.2.1 h2
                             · omega
                           · refine ⟨.inr (by omega), fun e => by have := hs.lt _ hs.hp; omega, fun h2 => ?_, fun h2 => by have := hG1 k (hs.d k h2).1; omega⟩
                             rcases h2 with h2 | h2
                             · have := hG1 k (hs.o k h2).1; omega
                             · omega
                         · rcases hk with hk | hk
                           · have h := hs.o k hk
                             exact ⟨.inl h.1, h.2.1, h.2.2⟩
                           · exact ⟨.inr (by omega), fun e => by have := hs.lt _ hs.hp; omega, fun h2 => by have := hG1 k (hs.d k h2).1; omega⟩
                         · exact ⟨.inl (hs.d k hk).1, (hs.d k hk).2⟩
                         · rcases hg with hg | hg
                           · exact hs.f k hk hg
                           · have := hFb k hk; omega
                         · rcases hk with hk | hk
                           · have := hG1 k hk; omega
                           · omega
                       · refine SO.store rfl (ev_t rfl) (ev_t rfl) size_26 hhd rfl rfl rfl rfl rfl ?_
                         intro w36 hu36 hhd hz36
                         have hs36 := hu36.size
                         try replace hS13 := Upd.trans hS13 hu36 (by intro k hl hk; (simp only [At] at hk; subst hk; exact hs.hp))
                         replace hU := hU.trans hu36 (by (intro k hl hk; first | exact (show False from hk).elim | exact hk | (simp only [At] at hk; exfalso; omega) | (have h9 := hGG k hk; rcases h9 with h | h; exact h; (exfalso; omega)) | (have h9 := hGG k (hs.v k hk).1; rcases h9 with h | h; exact h; (exfalso; omega)) | (have h9 := hGG k (hs.o k hk).1; rcases h9 with h | h; exact h; (exfalso; omega)) | (simp only [At] at hk; subst hk; have h9 := hGG _ hs.hp; rcases h9 with h | h; exact h; (exfalso; omega)) | (rcases hk with hk | hk; have h9 := hGG k (hs.o k hk).1; rcases h9 with h | h; exact h; (exfalso; omega); (exfalso; omega))))
                         replace hta2 := hta2.upd hu36 (fun k hk hl hS => by (simp only [At] at hS; subst hS; exact hs.f _ hk hs.hp))
                         replace htb2 := htb2.upd hu36 (fun k hk hl hS => by (simp only [At] at hS; subst hS; exact hs.f _ hk hs.hp))
                         replace hb4 := hb4.upd hu36 (fun hS => by (simp only [At] at hS; have h9 := hGG _ hs.hp; rcases h9 with h | h; have := hG0 _ h; omega; omega))
                         replace hb5 := hb5.upd hu36 (fun hS => by (simp only [At] at hS; have h9 := hGG _ hs.hp; rcases h9 with h | h; have := hG0 _ h; omega; omega))
                         replace hvs := hvs.upd hu36 (fun k hk hl hS => by (simp only [At] at hS; rcases hk with hk | hk; exact (hs.v k hk).2.1 hS; have := hs.lt _ hs.hp; omega))
                         replace hdn := hdn.upd hu36 (fun k hk hl hS => by (simp only [At] at hS; exact (hs.d k hk).2 hS))
                         replace htv := htv.upd hu36 (fun k hk hl hS => by (simp only [At] at hS; subst hS; exact hs.f _ hk hs.hp))
                         replace hof2 := hof2.upd hu36 (fun k hk hl hS => by (simp only [At] at hS; rcases hk with hk | hk; exact (hs.o k hk).2.1 hS; have := hs.lt _ hs.hp; omega))
                         refine ⟨trivial, ?_⟩
                         refine WN.step _ rfl (SO.ownSet (i := σ.length) (us := [_, _, _]) hof2 rfl (by omega) (Nat.zero_add _) rfl rfl (ev_t rfl) (ev_t rfl) size_28 rfl rfl rfl rfl ?_)
                         intro w37 hu37 hof3 hz9
                         have hs37 := hu37.size
                         try replace hS13 := Upd.trans hS13 hu37 (by intro k hl hk; (rcases hk with hk | hk; exact (hs.o k hk).1; (exfalso; omega)))
                         replace hU := hU.trans hu37 (by (intro k hl hk; first | exact (show False from hk).elim | exact hk | (simp only [At] at hk; exfalso; omega) | (have h9 := hGG k hk; rcases h9 with h | h; exact h; (exfalso; omega)) | (have h9 := hGG k (hs.v k hk).1; rcases h9 with h | h; exact h; (exfalso; omega)) | (have h9 := hGG k (hs.o k hk).1; rcases h9 with h | h; exact h; (exfalso; omega)) | (simp only [At] at hk; subst hk; have h9 := hGG _ hs.hp; rcases h9 with h | h; exact h; (exfalso; omega)) | (rcases hk with hk | hk; have h9 := hGG k (hs.o k hk).1; rcases h9 with h | h; exact h; (exfalso; omega); (exfalso; omega))))
                         replace hta2 := hta2.upd hu37 (fun k hk hl hS => by (rcases hS with hS | hS; exact hs.f k hk (hs.o k hS).1; have := hFb k hk; omega))
                         replace htb2 := htb2.upd hu37 (fun k hk hl hS => by (rcases hS with hS | hS; exact hs.f k hk (hs.o k hS).1; have := hFb k hk; omega))
                         replace hb4 := hb4.upd hu37 (fun hS => by (rcases hS with hS | hS; have h9 := hGG _ (hs.o _ hS).1; rcases h9 with h | h; have := hG0 _ h; omega; omega; omega))
                         replace hb5 := hb5.upd hu37 (fun hS => by (rcases hS with hS | hS; have h9 := hGG _ (hs.o _ hS).1; rcases h9 with h | h; have := hG0 _ h; omega; omega; omega))
                         replace hhd := hhd.upd hu37 (fun hS => by (rcases hS with hS | hS; exact (hs.o p hS).2.1 rfl; have := hs.lt _ hs.hp; omega))
                         replace hvs := hvs.upd hu37 (fun k hk hl hS => by (rcases hk with hk | hk; rcases hS with hS | hS; exact (hs.v k hk).2.2.1 hS; have := hG1 k (hs.v k hk).1; omega; rcases hS with hS | hS; have := hG1 k (hs.o k hS).1; omega; omega))
                         replace hdn := hdn.upd hu37 (fun k hk hl hS => by (rcases hS with hS | hS; exact (hs.o k hS).2.2 hk; have := hG1 k (hs.d k hk).1; omega))
                         replace htv := htv.upd hu37 (fun k hk hl hS => by (rcases hS with hS | hS; exact hs.f k hk (hs.o k hS).1; have := hFb k hk; omega))
                         rw [Nat.zero_add, take_zero3 hxl] at hof3
                         refine ⟨trivial, ?_⟩
                         refine WN.done ?_
                         refine WX.keep [] trivial ?_
                         refine WX.next ?_
                         refine WC.seq ?_
                         refine WC.region ?_
                         refine WL.val rfl rfl rfl rfl (r_assign rfl ev_c) ?_
                         refine WL.nil ?_
                         refine WX.keep [(6, _)] ⟨rfl, trivial⟩ ?_
                         refine WX.next ?_
                         refine WC.ret ?_
                         refine WX.thenRet ?_
                         refine WX.retE1 rfl rfl ?_
                         have eL : σ.length + 1 = (σ ++ [(x, b2)]).length := by simp
                         have eM : (σ.map (·.1)).map I6 ++ [I6 x] = ((σ ++ [(x, b2)]).map (·.1)).map I6 := by simp
                         rw [eM] at hvs
                         rw [eL] at hhd hvs hof3
                         have hszq := hU.size
                         have htv2 := htv.snoc htb2
                         refine ⟨rfl, ⟨fun k => G1 k ∨ (wC.heap.size ≤ k ∧ k < w37.heap.size), ⟨_, _, Gd, xs ++ [_], _, _, Ad, _, _, cd, ⟨hhd, hvs, hof3, hdn, by rw [List.map_append]; exact htv2, ⟨by rw [← eL]; omega, hle.2⟩⟩, .inl hs.hp, fun k hk => ?_, fun k hk => ?_, fun k hk => ?_, fun k hk hg => ?_, fun k hk => ?_⟩, fun k hk => hk.elim (fun h => (hGG k h).imp (fun h => h) (fun h => by omega)) (fun h => .inr (by omega))⟩, hU⟩
                         · rcases hk with hk | hk
                           · have h := hs.v k hk
                             have hkl := hG1 k h.1
                             refine ⟨.inl h.1, h.2.1, fun h2 => ?_, h.2.2.2⟩
                             rcases h2 with h2 | h2
                             · exact h.2.2.1 h2
                             · omega
                           · refine ⟨.inr (by omega), fun e => by have := hs.lt _ hs.hp; omega, fun h2 => ?_, fun h2 => by have := hG1 k (hs.d k h2).1; omega⟩
                             rcases h2 with h2 | h2
                             · have := hG1 k (hs.o k h2).1; omega
                             · omega
                         · rcases hk with hk | hk
                           · have h := hs.o k hk
                             exact ⟨.inl h.1, h.2.1, h.2.2⟩
                           · exact ⟨.inr (by omega), fun e => by have := hs.lt _ hs.hp; omega, fun h2 => by have := hG1 k (hs.d k h2).1; omega⟩
                         · exact ⟨.inl (hs.d k hk).1, (hs.d k hk).2⟩
                         · rcases hg with hg | hg
                           · exact hs.f k hk hg
                           · have := hFb k hk; omega
                         · rcases hk with hk | hk
                           · have := hG1 k hk; omega
                           · omega
                     · refine SO.alloc rfl rfl rfl rfl (r_buildSlice (cs := #[_, _, _]) (vs := [(0, _)]) rfl ⟨⟨rfl, ev_c⟩, trivial⟩ row_26 rfl rfl) ?_
                       intro w38 hu38 hB38 hz38
                       have hs38 := hu38.size
                       replace hS13 := Upd.trans hS13 hu38 (by intro k hl hk; exact (show False from hk).elim)
                       replace hU := hU.trans hu38 (by exact (fun _ _ h => h.elim))
                       replace hta2 := hta2.upd hu38 (fun k hk hl hS => by exact (show False from hS).elim)
                       replace htb2 := htb2.upd hu38 (fun k hk hl hS => by exact (show False from hS).elim)
                       replace hb4 := hb4.upd hu38 (fun hS => by exact (show False from hS))
                       replace hb5 := hb5.upd hu38 (fun hS => by exact (show False from hS))
                       replace hhd := hhd.upd hu38 (fun hS => by exact (show False from hS))
                       replace hvs := hvs.upd hu38 (fun k hk hl hS => by exact (show False from hS).elim)
                       replace hof := hof.upd hu38 (fun k hk hl hS => by exact (show False from hS).elim)
                       replace hdn := hdn.upd hu38 (fun k hk hl hS => by exact (show False from hS).elim)
                       replace htv := htv.upd hu38 (fun k hk hl hS => by exact (show False from hS).elim)
                       refine ⟨hS13, ?_⟩
                       refine WN.step _ rfl (SO.val rfl rfl rfl rfl (r_load rfl (ev_t rfl) flat_26 (Blk.cell hhd rfl)) ?_)
                       refine ⟨hS13, ?_⟩
                       refine WN.calm _ rfl rfl rfl rfl rfl (fun _ => r_lenSlice (ts := #[]) rfl (ev_t rfl) elem_26) ?_
                       refine WN.step _ rfl (SO.append hof (show Rd _ _ _ 1 3 [Value.string ⟨#[]⟩, .int .i64 0, .slice none 0 0] from rd_one hB38) row_26 one_c3 (le_maxLen (by omega)) (by omega) rfl (ev_t rfl) (ev_t rfl) rfl rfl rfl rfl ?_)
                       intro v39 w39 hof2 hu39
                       have hs39 := hu39.size
                       try replace hS13 := Upd.trans hS13 hu39 (by intro k hl hk; exact (hs.o k hk).1)
                       replace hU := hU.trans hu39 (by (intro k hl hk; first | exact (show False from hk).elim | exact hk | (simp only [At] at hk; exfalso; omega) | (have h9 := hGG k hk; rcases h9 with h | h; exact h; (exfalso; omega)) | (have h9 := hGG k (hs.v k hk).1; rcases h9 with h | h; exact h; (exfalso; omega)) | (have h9 := hGG k (hs.o k hk).1; rcases h9 with h | h; exact h; (exfalso; omega)) | (simp only [At] at hk; subst hk; have h9 := hGG _ hs.hp; rcases h9 with h | h; exact h; (exfalso; omega)) | (rcases hk with hk | hk; have h9 := hGG k (hs.o k hk).1; rcases h9 with h | h; exact h; (exfalso; omega); (exfalso; omega))))
                       replace hta2 := hta2.upd hu39 (fun k hk hl hS => by exact hs.f k hk (hs.o k hS).1)
                       replace htb2 := htb2.upd hu39 (fun k hk hl hS => by exact hs.f k hk (hs.o k hS).1)
                       replace hb4 := hb4.upd hu39 (fun hS => by (have h9 := hGG _ (hs.o _ hS).1; rcases h9 with h | h; have := hG0 _ h; omega; omega))
                       replace hb5 := hb5.upd hu39 (fun hS => by (have h9 := hGG _ (hs.o _ hS).1; rcases h9 with h | h; have := hG0 _ h; omega; omega))
                       replace hhd := hhd.upd hu39 (fun hS => by exact (hs.o p hS).2.1 rfl)
                       replace hvs := hvs.upd hu39 (fun k hk hl hS => by (rcases hk with hk | hk; exact (hs.v k hk).2.2.1 hS; have := hG1 k (hs.o k hS).1; omega))
                       replace hdn := hdn.upd hu39 (fun k hk hl hS => by exact (hs.o k hS).2.2 hk)
                       replace htv := htv.upd hu39 (fun k hk hl hS => by exact hs.f k hk (hs.o k hS).1)
                       refine ⟨trivial, ?_⟩
                       obtain ⟨A39, c39, rfl, hc39⟩ := Own.form hof2
                       obtain ⟨go, capo, curo, ex, _, _, _, _, _, _⟩ := hof2.open (by omega)
                       injection ex with ex1 ex2 ex3
                       subst ex1 ex3
                       refine WN.calm _ rfl rfl rfl rfl rfl (fun _ => r_indexAddr rfl (ev_t rfl) (ev_t rfl) elem_26 size_28 (by omega) (by omega)) ?_
                       refine WN.calm _ rfl rfl rfl rfl rfl (fun _ => r_nilCheck rfl (ev_t rfl)) ?_
                       first | refine WN.calm _ rfl rfl rfl rfl rfl (fun _ => r_field0 rfl (ev_t rfl) fld_46_2) ?_ | refine WN.calm _ rfl rfl rfl rfl rfl (fun _ => r_fieldAt rfl (ev_t rfl) fld_46_2) ?_
                       refine WN.fork _ _ rfl rfl ?_ ?_
                       · refine SO.ownSet (i := σ.length) (us := [_, _, _]) hof2 rfl (by omega) (Nat.zero_add _) rfl rfl (ev_t rfl) (ev_t rfl) size_28 rfl rfl rfl rfl ?_
                         intro w40 hu40 hof3 hz9
                         have hs40 := hu40.size
                         try replace hS13 := Upd.trans hS13 hu40 (by intro k hl hk; (rcases hk with hk | hk; exact (hs.o k hk).1; (exfalso; omega)))
                         replace hU := hU.trans hu40 (by (intro k hl hk; first | exact (show False from hk).elim | exact hk | (simp only [At] at hk; exfalso; omega) | (have h9 := hGG k hk; rcases h9 with h | h; exact h; (exfalso; omega)) | (have h9 := hGG k (hs.v k hk).1; rcases h9 with h | h; exact h; (exfalso; omega)) | (have h9 := hGG k (hs.o k hk).1; rcases h9 with h | h; exact h; (exfalso; omega)) | (simp only [At] at hk; subst hk; have h9 := hGG _ hs.hp; rcases h9 with h | h; exact h; (exfalso; omega)) | (rcases hk with hk | hk; have h9 := hGG k (hs.o k hk).1; rcases h9 with h | h; exact h; (exfalso; omega); (exfalso; omega))))
                         replace hta2 := hta2.upd hu40 (fun k hk hl hS => by (rcases hS with hS | hS; exact hs.f k hk (hs.o k hS).1; have := hFb k hk; omega))
                         replace htb2 := htb2.upd hu40 (fun k hk hl hS => by (rcases hS with hS | hS; exact hs.f k hk (hs.o k hS).1; have := hFb k hk; omega))
                         replace hb4 := hb4.upd hu40 (fun hS => by (rcases hS with hS | hS; have h9 := hGG _ (hs.o _ hS).1; rcases h9 with h | h; have := hG0 _ h; omega; omega; omega))
                         replace hb5 := hb5.upd hu40 (fun hS => by (rcases hS with hS | hS; have h9 := hGG _ (hs.o _ hS).1; rcases h9 with h | h; have := hG0 _ h; omega; omega; omega))
                         replace hhd := hhd.upd hu40 (fun hS => by (rcases hS with hS | hS; exact (hs.o p hS).2.1 rfl; have := hs.lt _ hs.hp; omega))
                         replace hvs := hvs.upd hu40 (fun k hk hl hS => by (rcases hk with hk | hk; rcases hS with hS | hS; exact (hs.v k hk).2.2.1 hS; have := hG1 k (hs.v k hk).1; omega; rcases hS with hS | hS; have := hG1 k (hs.o k hS).1; omega; omega))
                         replace hdn := hdn.upd hu40 (fun k hk hl hS => by (rcases hS with hS | hS; exact (hs.o k hS).2.2 hk; have := hG1 k (hs.d k hk).1; omega))
                         replace htv := htv.upd hu40 (fun k hk hl hS => by (rcases hS with hS | hS; exact hs.f k hk (hs.o k hS).1; have := hFb k hk; omega))
                         rw [Nat.zero_add, take_zero3 hxl] at hof3
                         refine ⟨trivial, ?_⟩
                         refine WN.step _ rfl (SO.store rfl (ev_t rfl) (ev_t rfl) size_26 hhd rfl rfl rfl rfl rfl ?_)
                         intro w41 hu41 hhd hz41
                         have hs41 := hu41.size
                         try replace hS13 := Upd.trans hS13 hu41 (by intro k hl hk; (simp only [At] at hk; subst hk; exact hs.hp))
                         replace hU := hU.trans hu41 (by (intro k hl hk; first | exact (show False from hk).elim | exact hk | (simp only [At] at hk; exfalso; omega) | (have h9 := hGG k hk; rcases h9 with h | h; exact h; (exfalso; omega)) | (have h9 := hGG k (hs.v k hk).1; rcases h9 with h | h; exact h; (exfalso; omega)) | (have h9 := hGG k (hs.o k hk).1; rcases h9 with h | h; exact h; (exfalso; omega)) | (simp only [At] at hk; subst hk; have h9 := hGG _ hs.hp; rcases h9 with h | h; exact h; (exfalso; omega)) | (rcases hk with hk | hk; have h9 := hGG k (hs.o k hk).1; rcases h9 with h | h; exact h; (exfalso; omega); (exfalso; omega))))
                         replace hta2 := hta2.upd hu41 (fun k hk hl hS => by (simp only [At] at hS; subst hS; exact hs.f _ hk hs.hp))
                         replace htb2 := htb2.upd hu41 (fun k hk hl hS => by (simp only [At] at hS; subst hS; exact hs.f _ hk hs.hp))
                         replace hb4 := hb4.upd hu41 (fun hS => by (simp only [At] at hS; have h9 := hGG _ hs.hp; rcases h9 with h | h; have := hG0 _ h; omega; omega))
                         replace hb5 := hb5.upd hu41 (fun hS => by (simp only [At] at hS; have h9 := hGG _ hs.hp; rcases h9 with h | h; have := hG0 _ h; omega; omega))
                         replace hvs := hvs.upd hu41 (fun k hk hl hS => by (simp only [At] at hS; rcases hk with hk | hk; exact (hs.v k hk).2.1 hS; have := hs.lt _ hs.hp; omega))
                         replace hdn := hdn.upd hu41 (fun k hk hl hS => by (simp only [At] at hS; exact (hs.d k hk).2 hS))
                         replace htv := htv.upd hu41 (fun k hk hl hS => by (simp only [At] at hS; subst hS; exact hs.f _ hk hs.hp))
                         replace hof3 := hof3.upd hu41 (fun k hk hl hS => by (simp only [At] at hS; rcases hk with hk | hk; exact (hs.o k hk).2.1 hS; have := hs.lt _ hs.hp; omega))
                         refine ⟨trivial, ?_⟩
                         refine WN.done ?_
                         refine WX.keep [] trivial ?_
                         refine WX.next ?_
                         refine WC.seq ?_
                         refine WC.region ?_
                         refine WL.val rfl rfl rfl rfl (r_assign rfl ev_c) ?_
                         refine WL.nil ?_
                         refine WX.keep [(6, _)] ⟨rfl, trivial⟩ ?_
                         refine WX.next ?_
                         refine WC.ret ?_
                         refine WX.thenRet ?_
                         refine WX.retE1 rfl rfl ?_
                         have eL : σ.length + 1 = (σ ++ [(x, b2)]).length := by simp
                         have eM : (σ.map (·.1)).map I6 ++ [I6 x] = ((σ ++ [(x, b2)]).map (·.1)).map I6 := by simp
                         rw [eM] at hvs
                         rw [eL] at hhd hvs hof3
                         have hszq := hU.size
                         have htv2 := htv.snoc htb2
                         refine ⟨rfl, ⟨fun k => G1 k ∨ (wC.heap.size ≤ k ∧ k < w41.heap.size), ⟨_, _, Gd, xs ++ [_], _, _, Ad, _, _, cd, ⟨hhd, hvs, hof3, hdn, by rw [List.map_append]; exact htv2, ⟨by rw [← eL]; omega, hle.2⟩⟩, .inl hs.hp, fun k hk => ?_, fun k hk => ?_, fun k hk => ?_, fun k hk hg => ?_, fun k hk => ?_⟩, fun k hk => hk.elim (fun h => (hGG k h).imp (fun h => h) (fun h => by omega)) (fun h => .inr (by omega))⟩, hU⟩
                         · rcases hk with hk | hk
                           · have h := hs.v k hk
                             have hkl := hG1 k h.1
                             refine ⟨.inl h.1, h.2.1, fun h2 => ?_, h.2.2.2⟩
                             rcases h2 with h2 | h2
                             · exact h.2.2.1 h2
                             · omega
                           · refine ⟨.inr (by omega), fun e => by have := hs.lt _ hs.hp; omega, fun h2 => ?_, fun h2 => by have := hG1 k (hs.d k h2).1; omega⟩
                             rcases h2 with h2 | h2
                             · have := hG1 k (hs.o k h2).1; omega
                             · omega
                         · rcases hk with hk | hk
                           · have h := hs.o k hk
                             exact ⟨.inl h.1, h.2.1, h.2.2⟩
                           · exact ⟨.inr (by omega), fun e => by have := hs.lt _ hs.hp; omega, fun h2 => by have := hG1 k (hs.d k h2).1; omega⟩
                         · exact ⟨.inl (hs.d k hk).1, (hs.d k hk).2⟩
                         · rcases hg with hg | hg
                           · exact hs.f k hk hg
                           · have := hFb k hk; omega
                         · rcases hk with hk | hk
                           · have := hG1 k hk; omega
                           · omega
                       · refine SO.store rfl (ev_t rfl) (ev_t rfl) size_26 hhd rfl rfl rfl rfl rfl ?_
                         intro w42 hu42 hhd hz42
                         have hs42 := hu42.size
                         try replace hS13 := Upd.trans hS13 hu42 (by intro k hl hk; (simp only [At] at hk; subst hk; exact hs.hp))
                         replace hU := hU.trans hu42 (by (intro k hl hk; first | exact (show False from hk).elim | exact hk | (simp only [At] at hk; exfalso; omega) | (have h9 := hGG k hk; rcases h9 with h | h; exact h; (exfalso; omega)) | (have h9 := hGG k (hs.v k hk).1; rcases h9 with h | h; exact h; (exfalso; omega)) | (have h9 := hGG k (hs.o k hk).1; rcases h9 with h | h; exact h; (exfalso; omega)) | (simp only [At] at hk; subst hk; have h9 := hGG _ hs.hp; rcases h9 with h | h; exact h; (exfalso; omega)) | (rcases hk with hk | hk; have h9 := hGG k (hs.o k hk).1; rcases h9 with h | h; exact h; (exfalso; omega); (exfalso; omega))))
                         replace hta2 := hta2.upd hu42 (fun k hk hl hS => by (simp only [At] at hS; subst hS; exact hs.f _ hk hs.hp))
                         replace htb2 := htb2.upd hu42 (fun k hk hl hS => by (simp only [At] at hS; subst hS; exact hs.f _ hk hs.hp))
                         replace hb4 := hb4.upd hu42 (fun hS => by (simp only [At] at hS; have h9 := hGG _ hs.hp; rcases h9 with h | h; have := hG0 _ h; omega; omega))
                         replace hb5 := hb5.upd hu42 (fun hS => by (simp only [At] at hS; have h9 := hGG _ hs.hp; rcases h9 with h | h; have := hG0 _ h; omega; omega))
                         replace hvs := hvs.upd hu42 (fun k hk hl hS => by (simp only [At] at hS; rcases hk with hk | hk; exact (hs.v k hk).2.1 hS; have := hs.lt _ hs.hp; omega))
                         replace hdn := hdn.upd hu42 (fun k hk hl hS => by (simp only [At] at hS; exact (hs.d k hk).2 hS))
                         replace htv := htv.upd hu42 (fun k hk hl hS => by (simp only [At] at hS; subst hS; exact hs.f _ hk hs.hp))
                         replace hof2 := hof2.upd hu42 (fun k hk hl hS => by (simp only [At] at hS; rcases hk with hk | hk; exact (hs.o k hk).2.1 hS; have := hs.lt _ hs.hp; omega))
                         refine ⟨trivial, ?_⟩
                         refine WN.step _ rfl (SO.ownSet (i := σ.length) (us := [_, _, _]) hof2 rfl (by omega) (Nat.zero_add _) rfl rfl (ev_t rfl) (ev_t rfl) size_28 rfl rfl rfl rfl ?_)
                         intro w43 hu43 hof3 hz9
                         have hs43 := hu43.size
                         try replace hS13 := Upd.trans hS13 hu43 (by intro k hl hk; (rcases hk with hk | hk; exact (hs.o k hk).1; (exfalso; omega)))
                         replace hU := hU.trans hu43 (by (intro k hl hk; first | exact (show False from hk).elim | exact hk | (simp only [At] at hk; exfalso; omega) | (have h9 := hGG k hk; rcases h9 with h | h; exact h; (exfalso; omega)) | (have h9 := hGG k (hs.v k hk).1; rcases h9 with h | h; exact h; (exfalso; omega)) | (have h9 := hGG k (hs.o k hk).1; rcases h9 with h | h; exact h; (exfalso; omega)) | (simp only [At] at hk; subst hk; have h9 := hGG _ hs.hp; rcases h9 with h | h; exact h; (exfalso; omega)) | (rcases hk with hk | hk; have h9 := hGG k (hs.o k hk).1; rcases h9 with h | h; exact h; (exfalso; omega); (exfalso; omega))))
                         replace hta2 := hta2.upd hu43 (fun k hk hl hS => by (rcases hS with hS | hS; exact hs.f k hk (hs.o k hS).1; have := hFb k hk; omega))
                         replace htb2 := htb2.upd hu43 (fun k hk hl hS => by (rcases hS with hS | hS; exact hs.f k hk (hs.o k hS).1; have := hFb k hk; omega))
                         replace hb4 := hb4.upd hu43 (fun hS => by (rcases hS with hS | hS; have h9 := hGG _ (hs.o _ hS).1; rcases h9 with h | h; have := hG0 _ h; omega; omega; omega))
                         replace hb5 := hb5.upd hu43 (fun hS => by (rcases hS with hS | hS; have h9 := hGG _ (hs.o _ hS).1; rcases h9 with h | h; have := hG0 _ h; omega; omega; omega))
                         replace hhd := hhd.upd hu43 (fun hS => by (rcases hS with hS | hS; exact (hs.o p hS).2.1 rfl; have := hs.lt _ hs.hp; omega))
                         replace hvs := hvs.upd hu43 (fun k hk hl hS => by (rcases hk with hk | hk; rcases hS with hS | hS; exact (hs.v k hk).2.2.1 hS; have := hG1 k (hs.v k hk).1; omega; rcases hS with hS | hS; have := hG1 k (hs.o k hS).1; omega; omega))
                         replace hdn := hdn.upd hu43 (fun k hk hl hS => by (rcases hS with hS | hS; exact (hs.o k hS).2.2 hk; have := hG1 k (hs.d k hk).1; omega))
                         replace htv := htv.upd hu43 (fun k hk hl hS => by (rcases hS with hS | hS; exact hs.f k hk (hs.o k hS).1; have := hFb k hk; omega))
                         rw [Nat.zero_add, take_zero3 hxl] at hof3
                         refine ⟨trivial, ?_⟩
                         refine WN.done ?_
                         refine WX.keep [] trivial ?_
                         refine WX.next ?_
                         refine WC.seq ?_
                         refine WC.region ?_
                         refine WL.val rfl rfl rfl rfl (r_assign rfl ev_c) ?_
                         refine WL.nil ?_
                         refine WX.keep [(6, _)] ⟨rfl, trivial⟩ ?_
                         refine WX.next ?_
                         refine WC.ret ?_
                         refine WX.thenRet ?_
                         refine WX.retE1 rfl rfl ?_
                         have eL : σ.length + 1 = (σ ++ [(x, b2)]).length := by simp
                         have eM : (σ.map (·.1)).map I6 ++ [I6 x] = ((σ ++ [(x, b2)]).map (·.1)).map I6 := by simp
                         rw [eM] at hvs
                         rw [eL] at hhd hvs hof3
                         have hszq := hU.size
                         have htv2 := htv.snoc htb2
                         refine ⟨rfl, ⟨fun k => G1 k ∨ (wC.heap.size ≤ k ∧ k < w43.heap.size), ⟨_, _, Gd, xs ++ [_], _, _, Ad, _, _, cd, ⟨hhd, hvs, hof3, hdn, by rw [List.map_append]; exact htv2, ⟨by rw [← eL]; omega, hle.2⟩⟩, .inl hs.hp, fun k hk => ?_, fun k hk => ?_, fun k hk => ?_, fun k hk hg => ?_, fun k hk => ?_⟩, fun k hk => hk.elim (fun h => (hGG k h).imp (fun h => h) (fun h => by omega)) (fun h => .inr (by omega))⟩, hU⟩
                         · rcases hk with hk | hk
                           · have h := hs.v k hk
                             have hkl := hG1 k h.1
                             refine ⟨.inl h.1, h.2.1, fun h2 => ?_, h.2.2.2⟩
                             rcases h2 with h2 | h2
                             · exact h.2.2.1 h2
                             · omega
                           · refine ⟨.inr (by omega), fun e => by have := hs.lt _ hs.hp; omega, fun h2 => ?_, fun h2 => by have := hG1 k (hs.d k h2).1; omega⟩
                             rcases h2 with h2 | h2
                             · have := hG1 k (hs.o k h2).1; omega
                             · omega
                         · rcases hk with hk | hk
                           · have h := hs.o k hk
                             exact ⟨.inl h.1, h.2.1, h.2.2⟩
                           · exact ⟨.inr (by omega), fun e => by have := hs.lt _ hs.hp; omega, fun h2 => by have := hG1 k (hs.d k h2).1; omega⟩
                         · exact ⟨.inl (hs.d k hk).1, (hs.d k hk).2⟩
                         · rcases hg with hg | hg
                           · exact hs.f k hk hg
                           · have := hFb k hk; omega
                         · rcases hk with hk | hk
                           · have := hG1 k hk; omega
                           · omega
             · try (exfalso; first | (simp at hc9; done) | (simp only [decide_eq_true_eq, decide_eq_false_iff_not, Bool.not_eq_true', Bool.not_eq_false', Bool.not_eq_true, Bool.not_eq_false] at hc9; omega) | omega)
               all_goals
                try simp only [decide_eq_true_eq, decide_eq_false_iff_not, Bool.not_eq_true', Bool.not_eq_false', Bool.not_eq_true, Bool.not_eq_false, Option.isNone_none, Option.isNone_some, Option.isSome_none, Option.isSome_some, ne_eq, Decidable.not_not] at hc9
                obtain ⟨f, ks, rfl⟩ := nm_c hc9
                obtain ⟨g, ls, rfl, huh⟩ : ∃ g ls, b2 = .c g ls ∧ unH n (unF n) σ D1 (.c f ks) (.c g ls) = some (r, σ', D') := by
                  rcases hlaw with ⟨x', n', e, _, _⟩ | ⟨f', ks', g, ls, e, e2, huh⟩
                  · cases e
                  · exact ⟨g, ls, e2, e2 ▸ huh⟩
                simp only [unH] at huh
                refine WC.skip ?_
                refine WX.next ?_
                refine WC.seq ?_
                refine WC.seq ?_
                refine WC.region ?_
                first | refine WL.val rfl rfl rfl rfl (r_field0 rfl (ev_t rfl) fld_28_0) ?_ | refine WL.val rfl rfl rfl rfl (r_fieldAt rfl (ev_t rfl) fld_28_0) ?_
                refine WL.val rfl rfl rfl rfl (r_load rfl (ev_t rfl) flat_9 (Blk.cell hb4 rfl)) ?_
                first | refine WL.val rfl rfl rfl rfl (r_field0 rfl (ev_t rfl) fld_28_0) ?_ | refine WL.val rfl rfl rfl rfl (r_fieldAt rfl (ev_t rfl) fld_28_0) ?_
                refine WL.val rfl rfl rfl rfl (r_load rfl (ev_t rfl) flat_9 (Blk.cell hb5 rfl)) ?_
                refine WL.val rfl rfl rfl rfl (r_neqStrL rfl (ev_t rfl) (ev_t rfl)) ?_
                refine WL.val rfl rfl rfl rfl (r_move rfl (ev_t rfl)) ?_
                refine WL.cases 90 rfl (fun hb15_5 => ?_) (fun hb15_5 => ?_)
                · try (exfalso; first | (simp at hb15_5; done) | (simp only [decide_eq_true_eq, decide_eq_false_iff_not, Bool.not_eq_true', Bool.not_eq_false', Bool.not_eq_true, Bool.not_eq_false] at hb15_5; omega) | omega)
                  all_goals
                   try simp only [decide_eq_true_eq, decide_eq_false_iff_not, Bool.not_eq_true', Bool.not_eq_false', Bool.not_eq_true, Bool.not_eq_false, Option.isNone_none, Option.isNone_some, Option.isSome_none, Option.isSome_some, ne_eq, Decidable.not_not] at hb15_5
                   rw [if_pos (.inl (nmv_ne hb15_5))] at huh
                   injection huh with hR
                   injection hR with hR1 hR2
                   injection hR2 with hR2 hR3
                   subst hR1 hR2 hR3
                   refine WL.skip rfl rfl rfl ?_
                   refine WL.skip rfl rfl rfl ?_
                   refine WL.skip rfl rfl rfl ?_
                   refine WL.skip rfl rfl rfl ?_
                   refine WL.skip rfl rfl rfl ?_
                   refine WL.skip rfl rfl rfl ?_
                   refine WL.skip rfl rfl rfl ?_
                   refine WL.val rfl rfl rfl rfl (r_pickT rfl (ev_t rfl) ev_c) ?_
                   refine WL.nil ?_
                   refine WX.keep [(0, _), (4, _), (5, _), (98, _)] ⟨rfl, rfl, rfl, rfl, trivial⟩ ?_
                   refine WX.next ?_
                   refine WC.cond_true rfl (ev_t rfl) ?_
                   refine WC.seq ?_
                   refine WC.region ?_
                   refine WL.val rfl rfl rfl rfl (r_assign rfl ev_c) ?_
                   refine WL.nil ?_
                   refine WX.keep [(6, _)] ⟨rfl, trivial⟩ ?_
                   refine WX.next ?_
                   refine WC.ret ?_
                   refine WX.thenRet ?_
                   refine WX.retE1 rfl rfl ?_
                   exact ⟨rfl, ⟨G1, hI, fun k h => (hGG k h).imp (fun h => h) (fun h => by omega)⟩, hU⟩
                · try (exfalso; first | (simp at hb15_5; done) | (simp only [decide_eq_true_eq, decide_eq_false_iff_not, Bool.not_eq_true', Bool.not_eq_false', Bool.not_eq_true, Bool.not_eq_false] at hb15_5; omega) | omega)
                  all_goals
                   try simp only [decide_eq_true_eq, decide_eq_false_iff_not, Bool.not_eq_true', Bool.not_eq_false', Bool.not_eq_true, Bool.not_eq_false, Option.isNone_none, Option.isNone_some, Option.isSome_none, Option.isSome_some, ne_eq, Decidable.not_not] at hb15_5
                   obtain rfl := nmv_eq hb15_5
                   first | refine WL.val rfl rfl rfl rfl (r_field0 rfl (ev_t rfl) fld_28_2) ?_ | refine WL.val rfl rfl rfl rfl (r_fieldAt rfl (ev_t rfl) fld_28_2) ?_
                   refine WL.val rfl rfl rfl rfl (r_load rfl (ev_t rfl) flat_26 (Blk.cell hb4 rfl)) ?_
                   refine WL.val rfl rfl rfl rfl (r_lenSlice (ts := #[]) rfl (ev_t rfl) elem_26) ?_
                   first | refine WL.val rfl rfl rfl rfl (r_field0 rfl (ev_t rfl) fld_28_2) ?_ | refine WL.val rfl rfl rfl rfl (r_fieldAt rfl (ev_t rfl) fld_28_2) ?_
                   refine WL.val rfl rfl rfl rfl (r_load rfl (ev_t rfl) flat_26 (Blk.cell hb5 rfl)) ?_
                   refine WL.val rfl rfl rfl rfl (r_lenSlice (ts := #[]) rfl (ev_t rfl) elem_26) ?_
                   refine WL.val rfl rfl rfl rfl (r_neq rfl (ev_t rfl) (ev_t rfl)) ?_
                   refine WL.val rfl rfl rfl rfl (r_pickF rfl (ev_t rfl) (ev_t rfl)) ?_
                   refine WL.nil ?_
                   refine WX.keep [(0, _), (4, _), (5, _), (98, _)] ⟨rfl, rfl, rfl, rfl, trivial⟩ ?_
                   refine WX.next ?_
                   refine WC.cond rfl (ev_t rfl) (fun hc15 => ?_) (fun hc15 => ?_)
                   · try (exfalso; first | (simp at hc15; done) | (simp only [decide_eq_true_eq, decide_eq_false_iff_not, Bool.not_eq_true', Bool.not_eq_false', Bool.not_eq_true, Bool.not_eq_false] at hc15; omega) | omega)
                     all_goals
                      try simp only [decide_eq_true_eq, decide_eq_false_iff_not, Bool.not_eq_true', Bool.not_eq_false', Bool.not_eq_true, Bool.not_eq_false, Option.isNone_none, Option.isNone_some, Option.isSome_none, Option.isSome_some, ne_eq, Decidable.not_not] at hc15
                      rw [if_pos (.inr (by simp only [Ty.kids] at hc15; omega))] at huh
                      injection huh with hR
                      injection hR with hR1 hR2
                      injection hR2 with hR2 hR3
                      subst hR1 hR2 hR3
                      refine WC.seq ?_
                      refine WC.region ?_
                      refine WL.val rfl rfl rfl rfl (r_assign rfl ev_c) ?_
                      refine WL.nil ?_
                      refine WX.keep [(6, _)] ⟨rfl, trivial⟩ ?_
                      refine WX.next ?_
                      refine WC.ret ?_
                      refine WX.thenRet ?_
                      refine WX.retE1 rfl rfl ?_
                      exact ⟨rfl, ⟨G1, hI, fun k h => (hGG k h).imp (fun h => h) (fun h => by omega)⟩, hU⟩
                   · try (exfalso; first | (simp at hc15; done) | (simp only [decide_eq_true_eq, decide_eq_false_iff_not, Bool.not_eq_true', Bool.not_eq_false', Bool.not_eq_true, Bool.not_eq_false] at hc15; omega) | omega)
                     all_goals
                      try simp only [decide_eq_true_eq, decide_eq_false_iff_not, Bool.not_eq_true', Bool.not_eq_false', Bool.not_eq_true, Bool.not_eq_false, Option.isNone_none, Option.isNone_some, Option.isSome_none, Option.isSome_some, ne_eq, Decidable.not_not] at hc15
                      have hll : ks.length = ls.length := by simp only [Ty.kids] at hc15; omega
                      rw [if_neg (fun h => by rcases h with h | h; exact h rfl; exact h hll)] at huh
                      refine WC.skip ?_
                      refine WX.next ?_
                      refine WC.seq ?_
                      refine WC.seq ?_
                      obtain ⟨m5, A5, k5, xk5, e1, e2, e3, _, hr5, hl5, hbc5, hk5⟩ := hta2.open
                      injection e3 with e31 e32 e33
                      subst e31 e33
                      obtain ⟨m6, A6, k6, xk6, f1, f2, f3, _, hr6, hl6, hbd6, hk6⟩ := htb2.open
                      injection f3 with f31 f32 f33
                      subst f31 f33
                      have hks5 : TVs wC F xk5 ks := ⟨hl5, hk5⟩
                      have hks6 : TVs wC F xk6 ls := ⟨hl6, hk6⟩
                      clear hta2 htb2 hk5 hk6
                      simp only [Ty.kids, Ty.nm] at hr5 hr6 hb4 hb5 hbc5 hbd6
                      refine WC.region ?_
                      refine WL.val rfl rfl rfl rfl (r_assign rfl ev_c) ?_
                      refine WL.nil ?_
                      refine WX.keep [(0, _), (4, _), (5, _), (7, _)] ⟨rfl, rfl, rfl, rfl, trivial⟩ ?_
                      refine WX.next ?_
                      refine WC.block ?_
                      -- loop 1: live [0, 4, 5, 7]
                      refine WC.keep [(0, _), (4, _), (5, _), (7, _)] ⟨rfl, rfl, rfl, rfl, trivial⟩ ?_
                      refine WC.loop (fun q E wD => ∃ (i : Nat) (σ1 : Sg) (D2 : Dn) (G2 : Nat → Prop), i ≤ ks.length ∧ q = ks.length - i ∧ Upd G w wD ∧ w.heap.size + 2 ≤ wD.heap.size ∧ Blk wD w.heap.size #[.string ⟨f.1.toArray⟩, .int .i64 m2, .slice A2 ks.length k2] typ ∧ Blk wD w1.heap.size #[.string ⟨f.1.toArray⟩, .int .i64 m3, .slice A3 ls.length k3] typ ∧ RS wD F G2 p σ1 D2 nn ∧ (∀ k, G2 k → G k ∨ w.heap.size + 2 ≤ k) ∧   Rd wD F (.slice A2 ks.length k2) ks.length 3 (xk5.flatMap c3) ∧ Rd wD F (.slice A3 ls.length k3) ls.length 3 (xk6.flatMap c3) ∧ TVs wD F xk5 ks ∧ TVs wD F xk6 ls ∧ unL (unF n) (ks.drop i) (ls.drop i) σ1 D2 = some (r, σ', D') ∧   E = [(0, .pointer (some ⟨p, 0, none⟩)), (4, .pointer (some ⟨w.heap.size, 0, none⟩)), (5, .pointer (some ⟨w1.heap.size, 0, none⟩)), (7, .int .i64 (i : Int))]) (ks.length) ?_ ?_
                      · exact ⟨0, _, _, G1, by omega, by omega, hU, by omega, hb4, hb5, hI, hGG, hr5, hr6, hks5, hks6, huh, rfl⟩
                      · clear hU hb4 hb5 hI hr5 hr6 hks5 hks6 huh hGG hGG0
                        rintro q E wD ⟨i, σ1, D2, G2, hi, rfl, hU, hsz, hb4, hb5, hI, hGG, hr5, hr6, hks5, hks6, huh, rfl⟩
                        refine WC.seq ?_
                        refine WC.seq ?_
                        refine WC.region ?_
                        refine WL.val rfl rfl rfl rfl (r_move rfl (ev_t rfl)) ?_
                        first | refine WL.val rfl rfl rfl rfl (r_field0 rfl (ev_t rfl) fld_28_2) ?_ | refine WL.val rfl rfl rfl rfl (r_fieldAt rfl (ev_t rfl) fld_28_2) ?_
                        refine WL.val rfl rfl rfl rfl (r_load rfl (ev_t rfl) flat_26 (Blk.cell hb4 rfl)) ?_
                        refine WL.val rfl rfl rfl rfl (r_lenSlice (ts := #[]) rfl (ev_t rfl) elem_26) ?_
                        refine WL.val rfl rfl rfl rfl (r_lss rfl (ev_t rfl) (ev_t rfl)) ?_
                        refine WL.nil ?_
                        refine WX.keep [(0, _), (4, _), (5, _), (7, _), (103, _)] ⟨rfl, rfl, rfl, rfl, rfl, trivial⟩ ?_
                        refine WX.next ?_
                        refine WC.cond rfl (ev_t rfl) (fun hc18 => ?_) (fun hc18 => ?_)
                        · try (exfalso; first | (simp at hc18; done) | (simp only [decide_eq_true_eq, decide_eq_false_iff_not, Bool.not_eq_true', Bool.not_eq_false', Bool.not_eq_true, Bool.not_eq_false] at hc18; omega) | omega)
                          all_goals
                           try simp only [decide_eq_true_eq, decide_eq_false_iff_not, Bool.not_eq_true', Bool.not_eq_false', Bool.not_eq_true, Bool.not_eq_false, Option.isNone_none, Option.isNone_some, Option.isSome_none, Option.isSome_some, ne_eq, Decidable.not_not] at hc18
                           have hi5 : i < ks.length := by omega
                           have hi6 : i < ls.length := by omega
                           obtain ⟨g5, off5, rfl, _⟩ := hr5.open (by omega)
                           obtain ⟨g6, off6, rfl, _⟩ := hr6.open (by omega)
                           have hk5 : ks[i]? = some ks[i] := List.getElem?_eq_getElem hi5
                           have hk6 : ls[i]? = some ls[i] := List.getElem?_eq_getElem hi6
                           obtain ⟨⟨ca, cb, cc⟩, hx5, hta5⟩ := hks5.get hk5
                           obtain ⟨⟨cd, ce, cf⟩, hx6, htb6⟩ := hks6.get hk6
                           obtain ⟨r1, σ2, D3, hu1, hu2, hu3⟩ := unL_cons hk5 hk6 huh
                           generalize ks[i] = k5' at *
                           generalize ls[i] = k6' at *
                           have hlen2 : σ2.length ≤ 1000000000 ∧ D3.length ≤ 1000000000 := by
                             cases r1 with
                             | false =>
                               have := hu2 rfl
                               injection this with _ h2
                               injection h2 with h2 h3
                               subst h2 h3
                               exact ⟨hlσ, hlD⟩
                             | true =>
                               have := unL_len (fun σ D a b r σ' D' h => unF_len h) (hu3 rfl)
                               omega
                           refine WC.skip ?_
                           refine WX.next ?_
                           refine WC.seq ?_
                           refine WC.block ?_
                           refine WC.seq ?_
                           refine WC.draws' (fun u0_ u1_ => Upd No u0_ u1_) (fun j => [0, 0, 0, 0, 0, 0, 0, 1, 0, 0, 1, 2, 0].getD j 0) (.calm 0 (.calm 1 (.calm 3 (.calm 6 (.calm 8 (.held 2 (.calm 4 (.held 5 (.one 7 (.calm 9 (.one 10 (.one 11 (.calm 12 (.done)))))))))))))) mixed (by kernel_rfl) (by repeat (first | with_reducible exact Deaf.body | with_reducible apply Deaf.then | with_reducible apply Deaf.block)) ?_
                           intro w44 hu44
                           have hz44 := congrArg Array.size hu44.2.2.2
                           replace hu44 := Upd.of_draw hu44
                           have hs44 := hu44.size
                           replace hU := hU.trans hu44 (by exact (fun _ _ h => h.elim))
                           replace hb4 := hb4.upd hu44 (fun hS => by exact (show False from hS))
                           replace hb5 := hb5.upd hu44 (fun hS => by exact (show False from hS))
                           replace hI := hI.upd hu44 (fun k hk hl hS => by exact (show False from hS).elim)
                           replace hr5 := hr5.upd hu44 (fun k hk hl hS => by exact (show False from hS).elim)
                           replace hr6 := hr6.upd hu44 (fun k hk hl hS => by exact (show False from hS).elim)
                           replace hks5 := hks5.upd hu44 (fun k hk hl hS => by exact (show False from hS).elim)
                           replace hks6 := hks6.upd hu44 (fun k hk hl hS => by exact (show False from hS).elim)
                           replace hta5 := hta5.upd hu44 (fun k hk hl hS => by exact (show False from hS).elim)
                           replace htb6 := htb6.upd hu44 (fun k hk hl hS => by exact (show False from hS).elim)
                           have hS20 := Upd.refl No w44
                           refine WN.calm _ rfl rfl rfl rfl rfl (fun _ => r_move rfl (ev_t rfl)) ?_
                           first | refine WN.calm _ rfl rfl rfl rfl rfl (fun _ => r_field0 rfl (ev_t rfl) fld_28_2) ?_ | refine WN.calm _ rfl rfl rfl rfl rfl (fun _ => r_fieldAt rfl (ev_t rfl) fld_28_2) ?_
                           refine WN.calm _ rfl rfl rfl rfl rfl (fun _ => r_move rfl (ev_t rfl)) ?_
                           first | refine WN.calm _ rfl rfl rfl rfl rfl (fun _ => r_field0 rfl (ev_t rfl) fld_28_2) ?_ | refine WN.calm _ rfl rfl rfl rfl rfl (fun _ => r_fieldAt rfl (ev_t rfl) fld_28_2) ?_
                           refine WN.calm _ rfl rfl rfl rfl rfl (fun _ => r_move rfl (ev_t rfl)) ?_
                           refine WN.held _ rfl rfl rfl rfl rfl hS20 (fun w' hS => r_load rfl (ev_t rfl) flat_26 (Blk.cell (hb4.upd hS (fun h => h)) rfl)) ?_
                           refine WN.calm _ rfl rfl rfl rfl rfl (fun _ => r_indexAddr rfl (ev_t rfl) (ev_t rfl) elem_26 size_28 (by omega) (by omega)) ?_
                           refine WN.held _ rfl rfl rfl rfl rfl hS20 (fun w' hS => r_loadAgg (vs := [_, _, _]) rfl (ev_t rfl) agg_28 size_28 (kid_cells (hr5.upd hS (fun _ _ _ h => h)) hx5 rfl)) ?_
                           refine WN.step _ rfl (SO.val rfl rfl rfl rfl (r_load rfl (ev_t rfl) flat_26 (Blk.cell hb5 rfl)) ?_)
                           refine ⟨hS20, ?_⟩
                           refine WN.calm _ rfl rfl rfl rfl rfl (fun _ => r_indexAddr rfl (ev_t rfl) (ev_t rfl) elem_26 size_28 (by omega) (by omega)) ?_
                           refine WN.step _ rfl (SO.val rfl rfl rfl rfl (r_loadAgg (vs := [_, _, _]) rfl (ev_t rfl) agg_28 size_28 (kid_cells hr6 hx6 rfl)) ?_)
                           refine ⟨hS20, ?_⟩
                           refine WN.step _ rfl (SO.call (ih _ G2 _ _ _ _ _ _ _ _ _ _ _ _ _ hu1 hlen2.1 hlen2.2 (fun k hk => by have := hFb k hk; omega) hI hta5 htb6) rfl body_23 ⟨(ev_t rfl), (ev_t rfl), (ev_t rfl), trivial⟩ rfl rfl rfl rfl ?_)
                           rintro v w45 ⟨rfl, ⟨G3, hI2, hGG2⟩, hu45⟩
                           have hI9 := hI
                           have hs45 := hu45.size
                           try replace hS20 := Upd.transA hS20 hu45
                           replace hU := hU.trans hu45 (by (intro k hl hk; first | exact (show False from hk).elim | exact hk | (simp only [At] at hk; exfalso; omega) | (have h9 := hGG k hk; rcases h9 with h | h; exact h; (exfalso; omega)) | (have h9 := hGG k (hs.v k hk).1; rcases h9 with h | h; exact h; (exfalso; omega)) | (have h9 := hGG k (hs.o k hk).1; rcases h9 with h | h; exact h; (exfalso; omega)) | (simp only [At] at hk; subst hk; have h9 := hGG _ hs.hp; rcases h9 with h | h; exact h; (exfalso; omega)) | (rcases hk with hk | hk; have h9 := hGG k (hs.o k hk).1; rcases h9 with h | h; exact h; (exfalso; omega); (exfalso; omega))))
                           replace hb4 := hb4.upd hu45 (fun hS => by (have h9 := hGG _ hS; rcases h9 with h | h; have := hG0 _ h; omega; omega))
                           replace hb5 := hb5.upd hu45 (fun hS => by (have h9 := hGG _ hS; rcases h9 with h | h; have := hG0 _ h; omega; omega))
                           replace hr5 := hr5.upd hu45 (fun k hk hl hS => by exact hI.f k hk hS)
                           replace hr6 := hr6.upd hu45 (fun k hk hl hS => by exact hI.f k hk hS)
                           replace hks5 := hks5.upd hu45 (fun k hk hl hS => by exact hI.f k hk hS)
                           replace hks6 := hks6.upd hu45 (fun k hk hl hS => by exact hI.f k hk hS)
                           clear hI
                           refine ⟨trivial, ?_⟩
                           refine WN.calm _ rfl rfl rfl rfl rfl (fun _ => r_not rfl (ev_t rfl)) ?_
                           refine WN.done ?_
                           refine WX.keep [(0, _), (4, _), (5, _), (7, _), (118, _)] ⟨rfl, rfl, rfl, rfl, rfl, trivial⟩ ?_
                           refine WX.next ?_
                           refine WC.cond rfl (ev_t rfl) (fun hc20 => ?_) (fun hc20 => ?_)
                           · try (exfalso; first | (simp at hc20; done) | (simp only [decide_eq_true_eq, decide_eq_false_iff_not, Bool.not_eq_true', Bool.not_eq_false', Bool.not_eq_true, Bool.not_eq_false] at hc20; omega) | omega)
                             all_goals
                              try simp only [decide_eq_true_eq, decide_eq_false_iff_not, Bool.not_eq_true', Bool.not_eq_false', Bool.not_eq_true, Bool.not_eq_false, Option.isNone_none, Option.isNone_some, Option.isSome_none, Option.isSome_some, ne_eq, Decidable.not_not] at hc20
                              obtain hR := hu2 (by simpa using hc20)
                              injection hR with hR1 hR2
                              injection hR2 with hR2 hR3
                              subst hR1 hR2 hR3
                              refine WC.seq ?_
                              refine WC.region ?_
                              refine WL.val rfl rfl rfl rfl (r_assign rfl ev_c) ?_
                              refine WL.nil ?_
                              refine WX.keep [(6, _)] ⟨rfl, trivial⟩ ?_
                              refine WX.next ?_
                              refine WC.ret ?_
                              refine WX.blockRet ?_
                              refine WX.thenRet ?_
                              refine WX.thenRet ?_
                              refine WX.blockRet ?_
                              refine WX.thenRet ?_
                              refine WX.retE1 rfl rfl ?_
                              exact ⟨rfl, ⟨G3, hI2, fun k h => by have := hGG2 k h; rcases this with h | h; exact (hGG k h).imp (fun h => h) (fun h => by omega); exact .inr (by omega)⟩, hU⟩
                           · try (exfalso; first | (simp at hc20; done) | (simp only [decide_eq_true_eq, decide_eq_false_iff_not, Bool.not_eq_true', Bool.not_eq_false', Bool.not_eq_true, Bool.not_eq_false] at hc20; omega) | omega)
                             all_goals
                              try simp only [decide_eq_true_eq, decide_eq_false_iff_not, Bool.not_eq_true', Bool.not_eq_false', Bool.not_eq_true, Bool.not_eq_false, Option.isNone_none, Option.isNone_some, Option.isSome_none, Option.isSome_some, ne_eq, Decidable.not_not] at hc20
                              refine WC.skip ?_
                              refine WX.blockNormal ?_
                              refine WX.next ?_
                              refine WC.region ?_
                              refine WL.val rfl rfl rfl rfl (r_move rfl (ev_t rfl)) ?_
                              first | refine WL.val rfl rfl rfl rfl (r_addN rfl (ev_t rfl) ev_c (by simp only [inK]; omega)) ?_ | refine WL.val rfl rfl rfl rfl (r_add rfl (ev_t rfl) ev_c) ?_
                              refine WL.val rfl rfl rfl rfl (r_assign rfl (ev_t rfl)) ?_
                              refine WL.nil ?_
                              refine WX.keep [(0, _), (4, _), (5, _), (7, _)] ⟨rfl, rfl, rfl, rfl, trivial⟩ ?_
                              refine WX.meet [(0, _), (4, _), (5, _), (7, _)] ⟨rfl, rfl, rfl, rfl, trivial⟩ ?_
                              exact ⟨ks.length - (i + 1), by omega, i + 1, σ2, D3, G3, by omega, rfl, hU, by omega, hb4, hb5, hI2, fun k h => (by have := hGG2 k h; rcases this with h | h; exact hGG k h; exact .inr (by omega)), hr5, hr6, hks5, hks6, hu3 (by simpa using hc20), by simp⟩
                        · try (exfalso; first | (simp at hc18; done) | (simp only [decide_eq_true_eq, decide_eq_false_iff_not, Bool.not_eq_true', Bool.not_eq_false', Bool.not_eq_true, Bool.not_eq_false] at hc18; omega) | omega)
                          all_goals
                           try simp only [decide_eq_true_eq, decide_eq_false_iff_not, Bool.not_eq_true', Bool.not_eq_false', Bool.not_eq_true, Bool.not_eq_false, Option.isNone_none, Option.isNone_some, Option.isSome_none, Option.isSome_some, ne_eq, Decidable.not_not] at hc18
                           obtain rfl : i = ks.length := by omega
                           rw [List.drop_length] at huh
                           simp only [unL] at huh
                           injection huh with hR
                           injection hR with hR1 hR2
                           injection hR2 with hR2 hR3
                           subst hR1 hR2 hR3
                           refine WC.exit ?_
                           refine WX.thenExit ?_
                           refine WX.thenExit ?_
                           refine WX.blockHere ?_
                           refine WX.next ?_
                           refine WC.seq ?_
                           refine WC.region ?_
                           refine WL.val rfl rfl rfl rfl (r_assign rfl ev_c) ?_
                           refine WL.nil ?_
                           refine WX.keep [(6, _)] ⟨rfl, trivial⟩ ?_
                           refine WX.next ?_
                           refine WC.ret ?_
                           refine WX.retE1 rfl rfl ?_
                           exact ⟨rfl, ⟨G2, hI, fun k h => (hGG k h).imp (fun h => h) (fun h => by omega)⟩, hU⟩
end Go.Proofs.Ytncakfcafkfmfaa
