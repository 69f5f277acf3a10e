/-
  Several texts put together: Tyg, Tyh, Tyi, TyW, Tyj.
-/
import Derived.Test.YtncakfcafkfmfaaZb
/-
  types: Unify.
-/
namespace Go.Proofs.Ytncakfcafkfmfaa
open Go
set_option linter.unusedSimpArgs false
set_option linter.unusedVariables false

theorem done_val (D : Dn) (p : Int × Int) : (lookA (doneE D) p).getD (.bool false) = .bool (decide (p ∈ D)) := by
  rw [look_doneE]
  by_cases h : p ∈ D <;> simp [h]
theorem unF_none {n : Nat} {σ : Sg} {D : Dn} {a b : Ty} {R : UnS} (hp : pairOf a b = none) (h : unF (n + 1) σ D a b = some R) : ∃ a' b', hdF σ n a = some a' ∧ hdF σ n b = some b' ∧ unH n (unF n) σ D a' b' = some R := by
  simp only [unF, hp] at h
  split at h
  · rename_i a' b' h1 h2
    exact ⟨a', b', h1, h2, h⟩
  · cases h
theorem unF_some {n : Nat} {σ : Sg} {D : Dn} {a b : Ty} {R : UnS} {p : Int × Int} (hp : pairOf a b = some p) (h : unF (n + 1) σ D a b = some R) :
    (p ∈ D → R = (true, σ, D)) ∧ (p ∉ D → ∃ a' b', hdF σ n a = some a' ∧ hdF σ n b = some b' ∧ unH n (unF n) σ (D ++ [p]) a' b' = some R) := by
  simp only [unF, hp] at h
  refine ⟨fun hD => ?_, fun hD => ?_⟩
  · rw [if_pos hD] at h
    injection h with h
    exact h.symm
  · rw [if_neg hD] at h
    split at h
    · rename_i a' b' h1 h2
      exact ⟨a', b', h1, h2, h⟩
    · cases h
theorem unH_v {n : Nat} {f : Sg → Dn → Ty → Ty → Option UnS} {σ : Sg} {D : Dn} {x : Int} {b : Ty} (hb : b ≠ .v x) : unH n f σ D (.v x) b = bdF n σ D x b := by
  cases b with
  | v y =>
    have : ¬ x = y := fun e => hb (by rw [e])
    simp only [unH, this, if_false]
  | c g ls => rfl
theorem bdF_inv {n : Nat} {σ : Sg} {D : Dn} {x : Int} {t : Ty} {R : UnS} (h : bdF n σ D x t = some R) : ∃ s, frF σ n t ([], []) = some s ∧ s.1.length ≤ 1000000000 ∧ (x ∈ s.1 → R = (false, σ, D)) ∧ (x ∉ s.1 → R = (true, σ ++ [(x, t)], D)) := by
  simp only [bdF] at h
  split at h
  · cases h
  · rename_i s hs
    split at h
    · cases h
    · rename_i hl
      refine ⟨s, hs, by omega, fun hx => ?_, fun hx => ?_⟩
      · rw [if_pos hx] at h; injection h with h; exact h.symm
      · rw [if_neg hx] at h; injection h with h; exact h.symm
theorem unL_cons {f : Sg → Dn → Ty → Ty → Option UnS} {ks ls : List Ty} {i : Nat} {k l : Ty} {σ : Sg} {D : Dn} {R : UnS} (hk : ks[i]? = some k) (hl : ls[i]? = some l) (h : unL f (ks.drop i) (ls.drop i) σ D = some R) :
    ∃ r1 σ1 D1, f σ D k l = some (r1, σ1, D1) ∧ (r1 = false → R = (false, σ1, D1)) ∧ (r1 = true → unL f (ks.drop (i + 1)) (ls.drop (i + 1)) σ1 D1 = some R) := by
  have hi : i < ks.length := (List.getElem?_eq_some_iff.1 hk).1
  have hi' : i < ls.length := (List.getElem?_eq_some_iff.1 hl).1
  rw [List.drop_eq_getElem_cons hi, List.drop_eq_getElem_cons hi'] at h
  rw [List.getElem?_eq_getElem hi] at hk
  rw [List.getElem?_eq_getElem hi'] at hl
  injection hk with hk
  injection hl with hl
  rw [hk, hl] at h
  simp only [unL] at h
  split at h
  · cases h
  · rename_i s1 d1 he
    injection h with h
    exact ⟨false, s1, d1, he, fun _ => h.symm, fun e => Bool.noConfusion e⟩
  · rename_i s1 d1 he
    exact ⟨true, s1, d1, he, fun e => Bool.noConfusion e, fun _ => h⟩
theorem nm_c {t : Ty} (h : t.nm ≠ []) : ∃ f ks, t = .c f ks := by
  cases t with
  | v x => exact absurd rfl h
  | c f ks => exact ⟨f, ks, rfl⟩
theorem pairOf_c {f : Nm} {ks : List Ty} {b : Ty} : pairOf (.c f ks) b = none := rfl
theorem pairOf_vc {x : Int} {f : Nm} {ks : List Ty} : pairOf (.v x) (.c f ks) = none := rfl
theorem ne_c {f : Nm} {ks : List Ty} {y : Int} : Ty.c f ks ≠ .v y := fun e => by cases e
theorem nmv_ne {f g : Nm} (h : f.1 ≠ g.1) : f ≠ g := fun e => h (by rw [e])
theorem nmv_eq {f g : Nm} (h : f.1 = g.1) : f = g := Subtype.ext h

set_option maxHeartbeats 4000000 in
theorem unify_ok {F : Nat → Prop} {p m1 m2 : Nat} {nn : Int} (hF : ∀ k, F k → ¬ Mut p m1 m2 k) : ∀ (n : Nat) (w : World) (σ : Sg) (D : Dn) (xs : List C3) (a b : Ty) (a1 a2 a3 b1 b2 b3 : Value) (r : Bool) (σ' : Sg) (D' : Dn), unF n σ D a b = some (r, σ', D') →
    (∀ k, F k → k < w.heap.size) → IsS w F p m1 m2 σ D nn xs → TV w F (a1, a2, a3) a → TV w F (b1, b2, b3) b →
    Ret Try.prog 12 #[.pointer (some ⟨p, 0, none⟩), .agg #[a1, a2, a3], .agg #[b1, b2, b3]] w fun v w' => v = .bool r ∧ (∃ xs', IsS w' F p m1 m2 σ' D' nn xs') ∧ Upd (Mut p m1 m2) w w' := by
  intro n
  induction n with
  | zero => intro w σ D xs a b a1 a2 a3 b1 b2 b3 r σ' D' h; simp [unF] at h
  | succ n ih =>
    intro w σ D xs a b a1 a2 a3 b1 b2 b3 r σ' D' hf hFb hI hta htb
    obtain ⟨hlp, hl1, hl2⟩ := hI.lt
    have hn1 := hI.ne1
    have hn2 := hI.ne2
    have hn3 := hI.ne
    obtain ⟨ma, Aa, ka, xka, rfl, rfl, rfl, hma, hra, hla, hba, hka⟩ := hta.open
    obtain ⟨mb, Ab, kb, xkb, rfl, rfl, rfl, hmb, hrb, hlb, hbb, hkb⟩ := htb.open
    refine enterRet (vs := [_, _, _]) (N := 115) Try.func12 rfl rfl rfl ?_
    have hU := Upd.refl (Mut p m1 m2) w
    refine WC.keep [(0, _), (1, _), (2, _)] ⟨rfl, rfl, rfl, trivial⟩ ?_
    refine WC.seq ?_
    refine WC.region ?_
    refine WL.cons (SO.alloc rfl rfl rfl rfl (r_boxAgg rfl (ev_t rfl)) ?_)
    intro w1 hu1 hB1 hz1
    have hs1 := hu1.size
    replace hU := hU.trans hu1 (by exact (fun _ _ h => h.elim))
    replace hI := hI.upd hu1 (fun k hk hl hS => by exact (show False from hS).elim)
    replace hta := hta.upd hu1 (fun k hk hl hS => by exact (show False from hS).elim)
    replace htb := htb.upd hu1 (fun k hk hl hS => by exact (show False from hS).elim)
    refine WL.cons (SO.alloc rfl rfl rfl rfl (r_boxAgg rfl (ev_t rfl)) ?_)
    intro w2 hu2 hB2 hz2
    have hs2 := hu2.size
    replace hU := hU.trans hu2 (by exact (fun _ _ h => h.elim))
    replace hI := hI.upd hu2 (fun k hk hl hS => by exact (show False from hS).elim)
    replace hta := hta.upd hu2 (fun k hk hl hS => by exact (show False from hS).elim)
    replace htb := htb.upd hu2 (fun k hk hl hS => by exact (show False from hS).elim)
    replace hB1 := hB1.upd hu2 (fun hS => by exact (show False from hS))
    refine WL.val rfl rfl rfl rfl (r_assign rfl ev_c) ?_
    refine WL.nil ?_
    refine WX.keep [(0, _), (4, _), (5, _)] ⟨rfl, rfl, rfl, trivial⟩ ?_
    refine WX.next ?_
    -- cut 1: live [0, 4, 5]
    refine WC.cut (fun E wA => ∃ (D1 : Dn) (a' b' : Ty), Upd (Mut p m1 m2) w wA ∧ w.heap.size + 2 ≤ wA.heap.size ∧ Blk wA w.heap.size #[.string ⟨a.nm.toArray⟩, .int .i64 ma, .slice Aa a.kids.length ka] typ ∧ Blk wA w1.heap.size #[.string ⟨b.nm.toArray⟩, .int .i64 mb, .slice Ab b.kids.length kb] typ ∧ IsS wA F p m1 m2 σ D1 nn xs ∧ TV wA F (.string ⟨a.nm.toArray⟩, .int .i64 ma, .slice Aa a.kids.length ka) a ∧ TV wA F (.string ⟨b.nm.toArray⟩, .int .i64 mb, .slice Ab b.kids.length kb) b ∧   hdF σ n a = some a' ∧ hdF σ n b = some b' ∧ unH n (unF n) σ D1 a' b' = some (r, σ', D') ∧   E = [(0, .pointer (some ⟨p, 0, none⟩)), (4, .pointer (some ⟨w.heap.size, 0, none⟩)), (5, .pointer (some ⟨w1.heap.size, 0, none⟩))]) ?_ ?_
    · refine WC.seq ?_
      refine WC.region ?_
      first | refine WL.val rfl rfl rfl rfl (r_field0 rfl (ev_t rfl) fld_28_1) ?_ | refine WL.val rfl rfl rfl rfl (r_fieldAt rfl (ev_t rfl) fld_28_1) ?_
      refine WL.val rfl rfl rfl rfl (r_load rfl (ev_t rfl) flat_3 (Blk.cell hB1 rfl)) ?_
      first | refine WL.val rfl rfl rfl rfl (r_field0 rfl (ev_t rfl) fld_28_1) ?_ | refine WL.val rfl rfl rfl rfl (r_fieldAt rfl (ev_t rfl) fld_28_1) ?_
      refine WL.val rfl rfl rfl rfl (r_load rfl (ev_t rfl) flat_3 (Blk.cell hB2 rfl)) ?_
      refine WL.val rfl rfl rfl rfl (r_buildA (cs := #[_, _]) (vs := [(0, _), (1, _)]) rfl ⟨⟨rfl, (ev_t rfl)⟩, ⟨rfl, (ev_t rfl)⟩, trivial⟩ arrz_60 zero_60 rfl) ?_
      refine WL.cons (SO.alloc rfl rfl rfl rfl (r_alloc rfl zero_60) ?_)
      intro w3 hu3 hB3 hz3
      have hs3 := hu3.size
      replace hU := hU.trans hu3 (by exact (fun _ _ h => h.elim))
      replace hI := hI.upd hu3 (fun k hk hl hS => by exact (show False from hS).elim)
      replace hta := hta.upd hu3 (fun k hk hl hS => by exact (show False from hS).elim)
      replace htb := htb.upd hu3 (fun k hk hl hS => by exact (show False from hS).elim)
      replace hB1 := hB1.upd hu3 (fun hS => by exact (show False from hS))
      replace hB2 := hB2.upd hu3 (fun hS => by exact (show False from hS))
      refine WL.cons (SO.store2 rfl (ev_t rfl) (ev_t rfl) size_60 hB3 rfl rfl rfl rfl rfl rfl ?_)
      intro w4 hu4 hB3 hz4
      have hs4 := hu4.size
      replace hU := hU.trans hu4 (by (intro k hl hk; (try simp only [At, New, Grow, From, No] at hk ⊢); omega))
      replace hI := hI.upd hu4 (fun k hk hl hS => by (simp only [At] at hS; subst hS; rcases hk with hk | hk; simp only [Mut] at hk; omega; have := hFb _ hk; omega))
      replace hta := hta.upd hu4 (fun k hk hl hS => by (simp only [At] at hS; have := hFb k hk; omega))
      replace htb := htb.upd hu4 (fun k hk hl hS => by (simp only [At] at hS; have := hFb k hk; omega))
      replace hB1 := hB1.upd hu4 (fun hS => by (simp only [At] at hS; omega))
      replace hB2 := hB2.upd hu4 (fun hS => by (simp only [At] at hS; omega))
      refine WL.nil ?_
      refine WX.keep [(0, _), (4, _), (5, _), (7, _)] ⟨rfl, rfl, rfl, rfl, trivial⟩ ?_
      refine WX.next ?_
      refine WC.seq ?_
      refine WC.region ?_
      first | refine WL.val rfl rfl rfl rfl (r_field0 rfl (ev_t rfl) fld_28_0) ?_ | refine WL.val rfl rfl rfl rfl (r_fieldAt rfl (ev_t rfl) fld_28_0) ?_
      refine WL.val rfl rfl rfl rfl (r_load rfl (ev_t rfl) flat_9 (Blk.cell hB1 rfl)) ?_
      refine WL.val rfl rfl rfl rfl (r_eqlStrL rfl (ev_t rfl) ev_c) ?_
      refine WL.val rfl rfl rfl rfl (r_move rfl (ev_t rfl)) ?_
      refine WL.cases 17 rfl (fun hb2_3 => ?_) (fun hb2_3 => ?_)
      · try (exfalso; first | (simp at hb2_3; done) | (simp only [decide_eq_true_eq, decide_eq_false_iff_not, Bool.not_eq_true', Bool.not_eq_false', Bool.not_eq_true, Bool.not_eq_false] at hb2_3; omega) | omega)
        all_goals
         try simp only [decide_eq_true_eq, decide_eq_false_iff_not, Bool.not_eq_true', Bool.not_eq_false', Bool.not_eq_true, Bool.not_eq_false, Option.isNone_none, Option.isNone_some, Option.isSome_none, Option.isSome_some, ne_eq, Decidable.not_not] at hb2_3
         obtain ⟨x, rfl⟩ := Ty.nm_nil.1 hb2_3
         obtain rfl := (hma x rfl).symm
         first | refine WL.val rfl rfl rfl rfl (r_field0 rfl (ev_t rfl) fld_28_0) ?_ | refine WL.val rfl rfl rfl rfl (r_fieldAt rfl (ev_t rfl) fld_28_0) ?_
         refine WL.val rfl rfl rfl rfl (r_load rfl (ev_t rfl) flat_9 (Blk.cell hB2 rfl)) ?_
         refine WL.val rfl rfl rfl rfl (r_eqlStrL rfl (ev_t rfl) ev_c) ?_
         refine WL.val rfl rfl rfl rfl (r_pickT rfl (ev_t rfl) (ev_t rfl)) ?_
         refine WL.nil ?_
         refine WX.keep [(0, _), (4, _), (5, _), (7, _), (21, _)] ⟨rfl, rfl, rfl, rfl, rfl, trivial⟩ ?_
         refine WX.next ?_
         refine WC.cond rfl (ev_t rfl) (fun hc2 => ?_) (fun hc2 => ?_)
         · try (exfalso; first | (simp at hc2; done) | (simp only [decide_eq_true_eq, decide_eq_false_iff_not, Bool.not_eq_true', Bool.not_eq_false', Bool.not_eq_true, Bool.not_eq_false] at hc2; omega) | omega)
           all_goals
            try simp only [decide_eq_true_eq, decide_eq_false_iff_not, Bool.not_eq_true', Bool.not_eq_false', Bool.not_eq_true, Bool.not_eq_false, Option.isNone_none, Option.isNone_some, Option.isSome_none, Option.isSome_some, ne_eq, Decidable.not_not] at hc2
            obtain ⟨y, rfl⟩ := Ty.nm_nil.1 hc2
            obtain rfl := (hmb y rfl).symm
            have hsm := unF_some (p := (x, y)) rfl hf
            refine WC.seq ?_
            refine WC.seq ?_
            refine WC.draws' (fun u0_ u1_ => Upd No u0_ u1_) (fun j => [0, 0, 0, 0, 1, 2].getD j 0) (.calm 0 (.calm 1 (.calm 2 (.held 3 (.one 4 (.one 5 (.done))))))) mixed (by kernel_rfl) (by repeat (first | with_reducible exact Deaf.body | with_reducible apply Deaf.then)) ?_
            intro w5 hu5
            have hz5 := congrArg Array.size hu5.2.2.2
            replace hu5 := Upd.of_draw hu5
            have hs5 := hu5.size
            replace hU := hU.trans hu5 (by exact (fun _ _ h => h.elim))
            replace hI := hI.upd hu5 (fun k hk hl hS => by exact (show False from hS).elim)
            replace hta := hta.upd hu5 (fun k hk hl hS => by exact (show False from hS).elim)
            replace htb := htb.upd hu5 (fun k hk hl hS => by exact (show False from hS).elim)
            replace hB1 := hB1.upd hu5 (fun hS => by exact (show False from hS))
            replace hB2 := hB2.upd hu5 (fun hS => by exact (show False from hS))
            replace hB3 := hB3.upd hu5 (fun hS => by exact (show False from hS))
            have hS3 := Upd.refl No w5
            refine WN.calm _ rfl rfl rfl rfl rfl (fun _ => r_move rfl (ev_t rfl)) ?_
            refine WN.calm _ rfl rfl rfl rfl rfl (fun _ => r_nilCheck rfl (ev_t rfl)) ?_
            first | refine WN.calm _ rfl rfl rfl rfl rfl (fun _ => r_field0 rfl (ev_t rfl) fld_59_2) ?_ | refine WN.calm _ rfl rfl rfl rfl rfl (fun _ => r_fieldAt rfl (ev_t rfl) fld_59_2) ?_
            refine WN.held _ rfl rfl rfl rfl rfl hS3 (fun w' hS => r_load rfl (ev_t rfl) flat_57 (Blk.cell (hI.hd.upd hS (fun h => h)) rfl)) ?_
            refine WN.step _ rfl (SO.val rfl rfl rfl rfl (r_loadAgg (vs := [_, _]) rfl (ev_t rfl) agg_60 size_60 (Blk.cells2 hB3)) ?_)
            refine ⟨hS3, ?_⟩
            refine WN.step _ rfl (SO.val rfl rfl rfl rfl (r_lookupW keyP hI.dn (done_val _ (x, y)) rfl (ev_t rfl) (ev_t rfl) map_57 zero_4) ?_)
            refine ⟨trivial, ?_⟩
            refine WN.done ?_
            refine WX.keep [(0, _), (4, _), (5, _), (7, _), (27, _)] ⟨rfl, rfl, rfl, rfl, rfl, trivial⟩ ?_
            refine WX.next ?_
            refine WC.cond rfl (ev_t rfl) (fun hc3 => ?_) (fun hc3 => ?_)
            · try (exfalso; first | (simp at hc3; done) | (simp only [decide_eq_true_eq, decide_eq_false_iff_not, Bool.not_eq_true', Bool.not_eq_false', Bool.not_eq_true, Bool.not_eq_false] at hc3; omega) | omega)
              all_goals
               try simp only [decide_eq_true_eq, decide_eq_false_iff_not, Bool.not_eq_true', Bool.not_eq_false', Bool.not_eq_true, Bool.not_eq_false, Option.isNone_none, Option.isNone_some, Option.isSome_none, Option.isSome_some, ne_eq, Decidable.not_not] at hc3
               obtain hR := hsm.1 (by simpa using hc3)
               injection hR with hR1 hR2
               injection hR2 with hR2 hR3
               subst hR1 hR2 hR3
               refine WC.seq ?_
               refine WC.region ?_
               refine WL.val rfl rfl rfl rfl (r_assign rfl ev_c) ?_
               refine WL.nil ?_
               refine WX.keep [(6, _)] ⟨rfl, trivial⟩ ?_
               refine WX.next ?_
               refine WC.ret ?_
               refine WX.thenRet ?_
               refine WX.thenRet ?_
               refine WX.retE1 rfl rfl ?_
               exact ⟨rfl, ⟨xs, hI⟩, hU⟩
            · try (exfalso; first | (simp at hc3; done) | (simp only [decide_eq_true_eq, decide_eq_false_iff_not, Bool.not_eq_true', Bool.not_eq_false', Bool.not_eq_true, Bool.not_eq_false] at hc3; omega) | omega)
              all_goals
               try simp only [decide_eq_true_eq, decide_eq_false_iff_not, Bool.not_eq_true', Bool.not_eq_false', Bool.not_eq_true, Bool.not_eq_false, Option.isNone_none, Option.isNone_some, Option.isSome_none, Option.isSome_some, ne_eq, Decidable.not_not] at hc3
               have hD0 : (x, y) ∉ D := by simpa using hc3
               obtain ⟨a', b', ha', hb', huh⟩ := hsm.2 hD0
               refine WC.skip ?_
               refine WX.next ?_
               refine WC.draws' (fun u0_ u1_ => Upd No u0_ u1_) (fun j => [0, 0, 0, 0, 1, 2].getD j 0) (.calm 0 (.calm 1 (.calm 2 (.held 3 (.one 4 (.one 5 (.done))))))) mixed (by kernel_rfl) (by repeat (first | with_reducible exact Deaf.body | with_reducible apply Deaf.then)) ?_
               intro w6 hu6
               have hz6 := congrArg Array.size hu6.2.2.2
               replace hu6 := Upd.of_draw hu6
               have hs6 := hu6.size
               replace hU := hU.trans hu6 (by exact (fun _ _ h => h.elim))
               replace hI := hI.upd hu6 (fun k hk hl hS => by exact (show False from hS).elim)
               replace hta := hta.upd hu6 (fun k hk hl hS => by exact (show False from hS).elim)
               replace htb := htb.upd hu6 (fun k hk hl hS => by exact (show False from hS).elim)
               replace hB1 := hB1.upd hu6 (fun hS => by exact (show False from hS))
               replace hB2 := hB2.upd hu6 (fun hS => by exact (show False from hS))
               replace hB3 := hB3.upd hu6 (fun hS => by exact (show False from hS))
               have hS5 := Upd.refl No w6
               refine WN.calm _ rfl rfl rfl rfl rfl (fun _ => r_move rfl (ev_t rfl)) ?_
               refine WN.calm _ rfl rfl rfl rfl rfl (fun _ => r_nilCheck rfl (ev_t rfl)) ?_
               first | refine WN.calm _ rfl rfl rfl rfl rfl (fun _ => r_field0 rfl (ev_t rfl) fld_59_2) ?_ | refine WN.calm _ rfl rfl rfl rfl rfl (fun _ => r_fieldAt rfl (ev_t rfl) fld_59_2) ?_
               refine WN.held _ rfl rfl rfl rfl rfl hS5 (fun w' hS => r_load rfl (ev_t rfl) flat_57 (Blk.cell (hI.hd.upd hS (fun h => h)) rfl)) ?_
               refine WN.step _ rfl (SO.val rfl rfl rfl rfl (r_loadAgg (vs := [_, _]) rfl (ev_t rfl) agg_60 size_60 (Blk.cells2 hB3)) ?_)
               refine ⟨hS5, ?_⟩
               obtain ⟨hhd, hof, hdn, hne, htv⟩ := hI
               refine WN.step _ rfl (SO.mapNew keyP (a := (x, y)) hdn ((look_doneE _ _).trans (if_neg hD0)) rfl (ev_t rfl) (ev_t rfl) ev_c map_57 rfl rfl rfl ?_)
               intro w7 hu7 hdn hz7
               have hs7 := hu7.size
               try replace hS5 := Upd.transA hS5 hu7
               replace hU := hU.trans hu7 (by (intro k hl hk; first | exact hk | (simp only [At] at hk; simp only [Mut]; omega)))
               replace hta := hta.upd hu7 (fun k hk hl hS => by (simp only [At] at hS; subst hS; exact hF _ hk (by (first | exact .inl rfl | exact .inr (.inl rfl) | exact .inr (.inr rfl)))))
               replace htb := htb.upd hu7 (fun k hk hl hS => by (simp only [At] at hS; subst hS; exact hF _ hk (by (first | exact .inl rfl | exact .inr (.inl rfl) | exact .inr (.inr rfl)))))
               replace hB1 := hB1.upd hu7 (fun hS => by (simp only [At] at hS; omega))
               replace hB2 := hB2.upd hu7 (fun hS => by (simp only [At] at hS; omega))
               replace hB3 := hB3.upd hu7 (fun hS => by (simp only [At] at hS; omega))
               replace hhd := hhd.upd hu7 (fun hS => by (simp only [At] at hS; omega))
               replace hof := hof.upd hu7 (fun hS => by (simp only [At] at hS; omega))
               replace htv := htv.upd hu7 (fun k hk hl hS => by (simp only [At] at hS; subst hS; exact hF _ hk (by (first | exact .inl rfl | exact .inr (.inl rfl) | exact .inr (.inr rfl)))))
               refine ⟨trivial, ?_⟩
               rw [← doneE_snoc] at hdn
               have hI : IsS w7 F p m1 m2 σ (D ++ [(x, y)]) nn xs := ⟨hhd, hof, hdn, hne, htv⟩
               refine WN.done ?_
               refine WX.keep [(0, _), (4, _), (5, _)] ⟨rfl, rfl, rfl, trivial⟩ ?_
               refine WX.meet [(0, _), (4, _), (5, _)] ⟨rfl, rfl, rfl, trivial⟩ ?_
               exact ⟨_, a', b', hU, by omega, hB1, hB2, hI, hta, htb, ha', hb', huh, rfl⟩
         · try (exfalso; first | (simp at hc2; done) | (simp only [decide_eq_true_eq, decide_eq_false_iff_not, Bool.not_eq_true', Bool.not_eq_false', Bool.not_eq_true, Bool.not_eq_false] at hc2; omega) | omega)
           all_goals
            try simp only [decide_eq_true_eq, decide_eq_false_iff_not, Bool.not_eq_true', Bool.not_eq_false', Bool.not_eq_true, Bool.not_eq_false, Option.isNone_none, Option.isNone_some, Option.isSome_none, Option.isSome_some, ne_eq, Decidable.not_not] at hc2
            obtain ⟨f, ks, rfl⟩ := nm_c hc2
            obtain ⟨a', b', ha', hb', huh⟩ := unF_none pairOf_vc hf
            refine WC.skip ?_
            refine WX.meet [(0, _), (4, _), (5, _)] ⟨rfl, rfl, rfl, trivial⟩ ?_
            exact ⟨_, a', b', hU, by omega, hB1, hB2, hI, hta, htb, ha', hb', huh, rfl⟩
      · try (exfalso; first | (simp at hb2_3; done) | (simp only [decide_eq_true_eq, decide_eq_false_iff_not, Bool.not_eq_true', Bool.not_eq_false', Bool.not_eq_true, Bool.not_eq_false] at hb2_3; omega) | omega)
        all_goals
         try simp only [decide_eq_true_eq, decide_eq_false_iff_not, Bool.not_eq_true', Bool.not_eq_false', Bool.not_eq_true, Bool.not_eq_false, Option.isNone_none, Option.isNone_some, Option.isSome_none, Option.isSome_some, ne_eq, Decidable.not_not] at hb2_3
         obtain ⟨f, ks, rfl⟩ := nm_c hb2_3
         obtain ⟨a', b', ha', hb', huh⟩ := unF_none pairOf_c hf
         refine WL.skip rfl rfl rfl ?_
         refine WL.skip rfl rfl rfl ?_
         refine WL.skip rfl rfl rfl ?_
         refine WL.val rfl rfl rfl rfl (r_pickF rfl (ev_t rfl) ev_c) ?_
         refine WL.nil ?_
         refine WX.keep [(0, _), (4, _), (5, _), (7, _), (21, _)] ⟨rfl, rfl, rfl, rfl, rfl, trivial⟩ ?_
         refine WX.next ?_
         refine WC.cond_false rfl (ev_t rfl) ?_
         refine WC.skip ?_
         refine WX.meet [(0, _), (4, _), (5, _)] ⟨rfl, rfl, rfl, trivial⟩ ?_
         exact ⟨_, a', b', hU, by omega, hB1, hB2, hI, hta, htb, ha', hb', huh, rfl⟩
    · clear hU hI hta htb hB1 hB2
      rintro E wA ⟨D1, a', b', hU, hsz, hb4, hb5, hI, hta, htb, ha', hb', huh, rfl⟩
      refine WC.seq ?_
      refine WC.draws' (fun u0_ u1_ => Upd No u0_ u1_) (fun j => [0, 0, 1, 0, 0, 2, 2, 2].getD j 0) (.calm 0 (.calm 3 (.held 1 (.held 4 (.one 2 (.one 5 (.one 6 (.one 7 (.done))))))))) mixed (by kernel_rfl) (by repeat (first | with_reducible exact Deaf.body | with_reducible apply Deaf.then)) ?_
      intro w8 hu8
      have hz8 := congrArg Array.size hu8.2.2.2
      replace hu8 := Upd.of_draw hu8
      have hs8 := hu8.size
      replace hU := hU.trans hu8 (by exact (fun _ _ h => h.elim))
      replace hI := hI.upd hu8 (fun k hk hl hS => by exact (show False from hS).elim)
      replace hta := hta.upd hu8 (fun k hk hl hS => by exact (show False from hS).elim)
      replace htb := htb.upd hu8 (fun k hk hl hS => by exact (show False from hS).elim)
      replace hb4 := hb4.upd hu8 (fun hS => by exact (show False from hS))
      replace hb5 := hb5.upd hu8 (fun hS => by exact (show False from hS))
      have hS6 := Upd.refl No w8
      refine WN.calm _ rfl rfl rfl rfl rfl (fun _ => r_move rfl (ev_t rfl)) ?_
      refine WN.calm _ rfl rfl rfl rfl rfl (fun _ => r_move rfl (ev_t rfl)) ?_
      refine WN.held _ rfl rfl rfl rfl rfl hS6 (fun w' hS => r_loadAgg (vs := [_, _, _]) rfl (ev_t rfl) agg_28 size_28 (Blk.cellsL (hb4.upd hS (fun h => h)))) ?_
      refine WN.held _ rfl rfl rfl rfl rfl hS6 (fun w' hS => r_loadAgg (vs := [_, _, _]) rfl (ev_t rfl) agg_28 size_28 (Blk.cellsL (hb5.upd hS (fun h => h)))) ?_
      refine WN.step _ rfl (SO.call (head_ok hI hta ha') rfl body_31 ⟨(ev_t rfl), (ev_t rfl), trivial⟩ rfl rfl rfl rfl ?_)
      rintro v w9 ⟨d1, d2, d3, rfl, hta2, hu9⟩
      obtain ⟨mc, Ac, kc, xkc, rfl, rfl, rfl, hmc, hrc, hlc, hbc, hkc⟩ := hta2.open
      have hs9 := hu9.size
      replace hS6 := Upd.transA hS6 hu9
      replace hU := hU.trans hu9 (by exact (fun _ _ h => h.elim))
      replace hI := hI.upd hu9 (fun k hk hl hS => by exact (show False from hS).elim)
      replace hta := hta.upd hu9 (fun k hk hl hS => by exact (show False from hS).elim)
      replace htb := htb.upd hu9 (fun k hk hl hS => by exact (show False from hS).elim)
      replace hb4 := hb4.upd hu9 (fun hS => by exact (show False from hS))
      replace hb5 := hb5.upd hu9 (fun hS => by exact (show False from hS))
      replace hta2 := hta2.upd hu9 (fun k hk hl hS => by exact (show False from hS).elim)
      refine ⟨hS6, ?_⟩
      refine WN.step _ rfl (SO.call (head_ok hI htb hb') rfl body_31 ⟨(ev_t rfl), (ev_t rfl), trivial⟩ rfl rfl rfl rfl ?_)
      rintro v w10 ⟨d1, d2, d3, rfl, htb2, hu10⟩
      obtain ⟨md, Ad, kd, xkd, rfl, rfl, rfl, hmd, hrd, hld, hbd, hkd⟩ := htb2.open
      have hs10 := hu10.size
      try replace hS6 := Upd.transA hS6 hu10
      replace hU := hU.trans hu10 (by exact (fun _ _ h => h.elim))
      replace hI := hI.upd hu10 (fun k hk hl hS => by exact (show False from hS).elim)
      replace hb4 := hb4.upd hu10 (fun hS => by exact (show False from hS))
      replace hb5 := hb5.upd hu10 (fun hS => by exact (show False from hS))
      replace hta2 := hta2.upd hu10 (fun k hk hl hS => by exact (show False from hS).elim)
      replace htb2 := htb2.upd hu10 (fun k hk hl hS => by exact (show False from hS).elim)
      refine ⟨trivial, ?_⟩
      refine WN.step _ rfl (SO.storeAll (us := [_, _, _]) rfl (ev_t rfl) (ev_t rfl) size_28 hb4 rfl rfl rfl rfl rfl ?_)
      intro w11 hu11 hb4 hz11
      have hs11 := hu11.size
      try replace hS6 := Upd.transA hS6 hu11
      replace hU := hU.trans hu11 (by (intro k hl hk; (try simp only [At, New, Grow, From, No] at hk ⊢); omega))
      replace hI := hI.upd hu11 (fun k hk hl hS => by (simp only [At] at hS; subst hS; rcases hk with hk | hk; simp only [Mut] at hk; omega; have := hFb _ hk; omega))
      replace hb5 := hb5.upd hu11 (fun hS => by (simp only [At] at hS; omega))
      replace hta2 := hta2.upd hu11 (fun k hk hl hS => by (simp only [At] at hS; have := hFb k hk; omega))
      replace htb2 := htb2.upd hu11 (fun k hk hl hS => by (simp only [At] at hS; have := hFb k hk; omega))
      refine ⟨trivial, ?_⟩
      refine WN.step _ rfl (SO.storeAll (us := [_, _, _]) rfl (ev_t rfl) (ev_t rfl) size_28 hb5 rfl rfl rfl rfl rfl ?_)
      intro w12 hu12 hb5 hz12
      have hs12 := hu12.size
      try replace hS6 := Upd.transA hS6 hu12
      replace hU := hU.trans hu12 (by (intro k hl hk; (try simp only [At, New, Grow, From, No] at hk ⊢); omega))
      replace hI := hI.upd hu12 (fun k hk hl hS => by (simp only [At] at hS; subst hS; rcases hk with hk | hk; simp only [Mut] at hk; omega; have := hFb _ hk; omega))
      replace hb4 := hb4.upd hu12 (fun hS => by (simp only [At] at hS; omega))
      replace hta2 := hta2.upd hu12 (fun k hk hl hS => by (simp only [At] at hS; have := hFb k hk; omega))
      replace htb2 := htb2.upd hu12 (fun k hk hl hS => by (simp only [At] at hS; have := hFb k hk; omega))
      refine ⟨trivial, ?_⟩
      refine WN.done ?_
      refine WX.keep [(0, _), (4, _), (5, _)] ⟨rfl, rfl, rfl, trivial⟩ ?_
      refine WX.next ?_
      refine WC.seq ?_
      refine WC.block ?_
      -- cut r7: live [0, 4, 5, 39]
      refine WC.cut (fun E wB => ∃ bb : Bool, w12 = wB ∧ (bb = true ↔ ∃ x, a' = .v x ∧ b' = .v x) ∧ E = [(0, .pointer (some ⟨p, 0, none⟩)), (4, .pointer (some ⟨w.heap.size, 0, none⟩)), (5, .pointer (some ⟨w1.heap.size, 0, none⟩)), (39, .bool bb)]) ?_ ?_
      · refine WC.region ?_
        first | refine WL.val rfl rfl rfl rfl (r_field0 rfl (ev_t rfl) fld_28_0) ?_ | refine WL.val rfl rfl rfl rfl (r_fieldAt rfl (ev_t rfl) fld_28_0) ?_
        refine WL.val rfl rfl rfl rfl (r_load rfl (ev_t rfl) flat_9 (Blk.cell hb4 rfl)) ?_
        refine WL.val rfl rfl rfl rfl (r_eqlStrL rfl (ev_t rfl) ev_c) ?_
        refine WL.val rfl rfl rfl rfl (r_move rfl (ev_t rfl)) ?_
        refine WL.cases 43 rfl (fun hb7_3 => ?_) (fun hb7_3 => ?_)
        · try (exfalso; first | (simp at hb7_3; done) | (simp only [decide_eq_true_eq, decide_eq_false_iff_not, Bool.not_eq_true', Bool.not_eq_false', Bool.not_eq_true, Bool.not_eq_false] at hb7_3; omega) | omega)
          all_goals
           try simp only [decide_eq_true_eq, decide_eq_false_iff_not, Bool.not_eq_true', Bool.not_eq_false', Bool.not_eq_true, Bool.not_eq_false, Option.isNone_none, Option.isNone_some, Option.isSome_none, Option.isSome_some, ne_eq, Decidable.not_not] at hb7_3
           obtain ⟨x, rfl⟩ := Ty.nm_nil.1 hb7_3
           obtain rfl := (hmc x rfl).symm
           first | refine WL.val rfl rfl rfl rfl (r_field0 rfl (ev_t rfl) fld_28_0) ?_ | refine WL.val rfl rfl rfl rfl (r_fieldAt rfl (ev_t rfl) fld_28_0) ?_
           refine WL.val rfl rfl rfl rfl (r_load rfl (ev_t rfl) flat_9 (Blk.cell hb5 rfl)) ?_
           refine WL.val rfl rfl rfl rfl (r_eqlStrL rfl (ev_t rfl) ev_c) ?_
           refine WL.val rfl rfl rfl rfl (r_pickT rfl (ev_t rfl) (ev_t rfl)) ?_
           refine WL.val rfl rfl rfl rfl (r_move rfl (ev_t rfl)) ?_
           refine WL.cases 48 rfl (fun hb7_8 => ?_) (fun hb7_8 => ?_)
           · try (exfalso; first | (simp at hb7_8; done) | (simp only [decide_eq_true_eq, decide_eq_false_iff_not, Bool.not_eq_true', Bool.not_eq_false', Bool.not_eq_true, Bool.not_eq_false] at hb7_8; omega) | omega)
             all_goals
              try simp only [decide_eq_true_eq, decide_eq_false_iff_not, Bool.not_eq_true', Bool.not_eq_false', Bool.not_eq_true, Bool.not_eq_false, Option.isNone_none, Option.isNone_some, Option.isSome_none, Option.isSome_some, ne_eq, Decidable.not_not] at hb7_8
              obtain ⟨y, rfl⟩ := Ty.nm_nil.1 hb7_8
              obtain rfl := (hmd y rfl).symm
              first | refine WL.val rfl rfl rfl rfl (r_field0 rfl (ev_t rfl) fld_28_1) ?_ | refine WL.val rfl rfl rfl rfl (r_fieldAt rfl (ev_t rfl) fld_28_1) ?_
              refine WL.val rfl rfl rfl rfl (r_load rfl (ev_t rfl) flat_3 (Blk.cell hb4 rfl)) ?_
              first | refine WL.val rfl rfl rfl rfl (r_field0 rfl (ev_t rfl) fld_28_1) ?_ | refine WL.val rfl rfl rfl rfl (r_fieldAt rfl (ev_t rfl) fld_28_1) ?_
              refine WL.val rfl rfl rfl rfl (r_load rfl (ev_t rfl) flat_3 (Blk.cell hb5 rfl)) ?_
              refine WL.val rfl rfl rfl rfl (r_eql rfl (ev_t rfl) (ev_t rfl)) ?_
              refine WL.val rfl rfl rfl rfl (r_pickT rfl (ev_t rfl) (ev_t rfl)) ?_
              refine WL.val rfl rfl rfl rfl (r_assign rfl (ev_t rfl)) ?_
              refine WL.nil ?_
              refine WX.keep [(0, _), (4, _), (5, _), (39, _)] ⟨rfl, rfl, rfl, rfl, trivial⟩ ?_
              refine WX.meet [(0, _), (4, _), (5, _), (39, _)] ⟨rfl, rfl, rfl, rfl, trivial⟩ ?_
              refine ⟨_, rfl, ?_, rfl⟩
              first
                | (simp only [decide_eq_true_eq]; exact ⟨fun h => ⟨_, rfl, by rw [h]⟩, fun ⟨z, h1, h2⟩ => by injection h1 with h1; injection h2 with h2; omega⟩)
                | exact ⟨fun h => Bool.noConfusion h, fun ⟨z, h1, h2⟩ => by subst h2; exact absurd rfl hb7_8⟩
                | exact ⟨fun h => Bool.noConfusion h, fun ⟨z, h1, h2⟩ => by subst h1; exact absurd rfl hb7_3⟩
           · try (exfalso; first | (simp at hb7_8; done) | (simp only [decide_eq_true_eq, decide_eq_false_iff_not, Bool.not_eq_true', Bool.not_eq_false', Bool.not_eq_true, Bool.not_eq_false] at hb7_8; omega) | omega)
             all_goals
              try simp only [decide_eq_true_eq, decide_eq_false_iff_not, Bool.not_eq_true', Bool.not_eq_false', Bool.not_eq_true, Bool.not_eq_false, Option.isNone_none, Option.isNone_some, Option.isSome_none, Option.isSome_some, ne_eq, Decidable.not_not] at hb7_8
              refine WL.skip rfl rfl rfl ?_
              refine WL.skip rfl rfl rfl ?_
              refine WL.skip rfl rfl rfl ?_
              refine WL.skip rfl rfl rfl ?_
              refine WL.skip rfl rfl rfl ?_
              refine WL.val rfl rfl rfl rfl (r_pickF rfl (ev_t rfl) ev_c) ?_
              refine WL.val rfl rfl rfl rfl (r_assign rfl (ev_t rfl)) ?_
              refine WL.nil ?_
              refine WX.keep [(0, _), (4, _), (5, _), (39, _)] ⟨rfl, rfl, rfl, rfl, trivial⟩ ?_
              refine WX.meet [(0, _), (4, _), (5, _), (39, _)] ⟨rfl, rfl, rfl, rfl, trivial⟩ ?_
              refine ⟨_, rfl, ?_, rfl⟩
              first
                | (simp only [decide_eq_true_eq]; exact ⟨fun h => ⟨_, rfl, by rw [h]⟩, fun ⟨z, h1, h2⟩ => by injection h1 with h1; injection h2 with h2; omega⟩)
                | exact ⟨fun h => Bool.noConfusion h, fun ⟨z, h1, h2⟩ => by subst h2; exact absurd rfl hb7_8⟩
                | exact ⟨fun h => Bool.noConfusion h, fun ⟨z, h1, h2⟩ => by subst h1; exact absurd rfl hb7_3⟩
        · try (exfalso; first | (simp at hb7_3; done) | (simp only [decide_eq_true_eq, decide_eq_false_iff_not, Bool.not_eq_true', Bool.not_eq_false', Bool.not_eq_true, Bool.not_eq_false] at hb7_3; omega) | omega)
          all_goals
           try simp only [decide_eq_true_eq, decide_eq_false_iff_not, Bool.not_eq_true', Bool.not_eq_false', Bool.not_eq_true, Bool.not_eq_false, Option.isNone_none, Option.isNone_some, Option.isSome_none, Option.isSome_some, ne_eq, Decidable.not_not] at hb7_3
           refine WL.skip rfl rfl rfl ?_
           refine WL.skip rfl rfl rfl ?_
           refine WL.skip rfl rfl rfl ?_
           refine WL.val rfl rfl rfl rfl (r_pickF rfl (ev_t rfl) ev_c) ?_
           refine WL.val rfl rfl rfl rfl (r_move rfl (ev_t rfl)) ?_
           refine WL.skip rfl rfl rfl ?_
           refine WL.skip rfl rfl rfl ?_
           refine WL.skip rfl rfl rfl ?_
           refine WL.skip rfl rfl rfl ?_
           refine WL.skip rfl rfl rfl ?_
           refine WL.val rfl rfl rfl rfl (r_pickF rfl (ev_t rfl) ev_c) ?_
           refine WL.val rfl rfl rfl rfl (r_assign rfl (ev_t rfl)) ?_
           refine WL.nil ?_
           refine WX.keep [(0, _), (4, _), (5, _), (39, _)] ⟨rfl, rfl, rfl, rfl, trivial⟩ ?_
           refine WX.meet [(0, _), (4, _), (5, _), (39, _)] ⟨rfl, rfl, rfl, rfl, trivial⟩ ?_
           refine ⟨_, rfl, ?_, rfl⟩
           first
             | (simp only [decide_eq_true_eq]; exact ⟨fun h => ⟨_, rfl, by rw [h]⟩, fun ⟨z, h1, h2⟩ => by injection h1 with h1; injection h2 with h2; omega⟩)
             | exact ⟨fun h => Bool.noConfusion h, fun ⟨z, h1, h2⟩ => by subst h2; exact absurd rfl hb7_8⟩
             | exact ⟨fun h => Bool.noConfusion h, fun ⟨z, h1, h2⟩ => by subst h1; exact absurd rfl hb7_3⟩
      · rintro E wB ⟨bb, rfl, hbb, rfl⟩
        refine WC.cond rfl (ev_t rfl) (fun hc7 => ?_) (fun hc7 => ?_)
        · try (exfalso; first | (simp at hc7; done) | (simp only [decide_eq_true_eq, decide_eq_false_iff_not, Bool.not_eq_true', Bool.not_eq_false', Bool.not_eq_true, Bool.not_eq_false] at hc7; omega) | omega)
          all_goals
           try simp only [decide_eq_true_eq, decide_eq_false_iff_not, Bool.not_eq_true', Bool.not_eq_false', Bool.not_eq_true, Bool.not_eq_false, Option.isNone_none, Option.isNone_some, Option.isSome_none, Option.isSome_some, ne_eq, Decidable.not_not] at hc7
           obtain ⟨x, rfl, rfl⟩ := hbb.1 hc7
           simp only [unH, if_true] at huh
           injection huh with hR
           injection hR with hR1 hR2
           injection hR2 with hR2 hR3
           subst hR1 hR2 hR3
           refine WC.seq ?_
           refine WC.region ?_
           refine WL.val rfl rfl rfl rfl (r_assign rfl ev_c) ?_
           refine WL.nil ?_
           refine WX.keep [(6, _)] ⟨rfl, trivial⟩ ?_
           refine WX.next ?_
           refine WC.ret ?_
           refine WX.blockRet ?_
           refine WX.thenRet ?_
           refine WX.retE1 rfl rfl ?_
           exact ⟨rfl, ⟨xs, hI⟩, hU⟩
        · try (exfalso; first | (simp at hc7; done) | (simp only [decide_eq_true_eq, decide_eq_false_iff_not, Bool.not_eq_true', Bool.not_eq_false', Bool.not_eq_true, Bool.not_eq_false] at hc7; omega) | omega)
          all_goals
           try simp only [decide_eq_true_eq, decide_eq_false_iff_not, Bool.not_eq_true', Bool.not_eq_false', Bool.not_eq_true, Bool.not_eq_false, Option.isNone_none, Option.isNone_some, Option.isSome_none, Option.isSome_some, ne_eq, Decidable.not_not] at hc7
           have hne7 : ¬ ∃ x, a' = .v x ∧ b' = .v x := fun h => by rw [hbb.2 h] at hc7; cases hc7
           refine WC.seq ?_
           refine WC.region ?_
           first | refine WL.val rfl rfl rfl rfl (r_field0 rfl (ev_t rfl) fld_28_0) ?_ | refine WL.val rfl rfl rfl rfl (r_fieldAt rfl (ev_t rfl) fld_28_0) ?_
           refine WL.val rfl rfl rfl rfl (r_load rfl (ev_t rfl) flat_9 (Blk.cell hb4 rfl)) ?_
           refine WL.val rfl rfl rfl rfl (r_eqlStrL rfl (ev_t rfl) ev_c) ?_
           refine WL.val rfl rfl rfl rfl (r_assign rfl (ev_t rfl)) ?_
           refine WL.nil ?_
           refine WX.keep [(0, _), (4, _), (5, _), (55, _)] ⟨rfl, rfl, rfl, rfl, trivial⟩ ?_
           refine WX.next ?_
           refine WC.cond rfl (ev_t rfl) (fun hc9 => ?_) (fun hc9 => ?_)
           · try (exfalso; first | (simp at hc9; done) | (simp only [decide_eq_true_eq, decide_eq_false_iff_not, Bool.not_eq_true', Bool.not_eq_false', Bool.not_eq_true, Bool.not_eq_false] at hc9; omega) | omega)
             all_goals
              try simp only [decide_eq_true_eq, decide_eq_false_iff_not, Bool.not_eq_true', Bool.not_eq_false', Bool.not_eq_true, Bool.not_eq_false, Option.isNone_none, Option.isNone_some, Option.isSome_none, Option.isSome_some, ne_eq, Decidable.not_not] at hc9
              obtain ⟨x, rfl⟩ := Ty.nm_nil.1 hc9
              obtain rfl := (hmc x rfl).symm
              rw [unH_v (fun e => hne7 ⟨x, rfl, e⟩)] at huh
              obtain ⟨s, hfr, hsl, hin, hout⟩ := bdF_inv huh
              refine WC.seq ?_
              refine WC.seq ?_
              refine WC.draws' (fun u0_ u1_ => Upd No u0_ u1_) (fun j => [0, 0, 1, 0, 0, 2].getD j 0) (.calm 0 (.calm 3 (.held 1 (.held 4 (.one 2 (.one 5 (.done))))))) mixed (by kernel_rfl) (by repeat (first | with_reducible exact Deaf.body | with_reducible apply Deaf.then | with_reducible apply Deaf.block)) ?_
              intro w13 hu13
              have hz13 := congrArg Array.size hu13.2.2.2
              replace hu13 := Upd.of_draw hu13
              have hs13 := hu13.size
              replace hU := hU.trans hu13 (by exact (fun _ _ h => h.elim))
              replace hI := hI.upd hu13 (fun k hk hl hS => by exact (show False from hS).elim)
              replace hb4 := hb4.upd hu13 (fun hS => by exact (show False from hS))
              replace hb5 := hb5.upd hu13 (fun hS => by exact (show False from hS))
              replace hta2 := hta2.upd hu13 (fun k hk hl hS => by exact (show False from hS).elim)
              replace htb2 := htb2.upd hu13 (fun k hk hl hS => by exact (show False from hS).elim)
              have hS10 := Upd.refl No w13
              refine WN.calm _ rfl rfl rfl rfl rfl (fun _ => r_move rfl (ev_t rfl)) ?_
              first | refine WN.calm _ rfl rfl rfl rfl rfl (fun _ => r_field0 rfl (ev_t rfl) fld_28_1) ?_ | refine WN.calm _ rfl rfl rfl rfl rfl (fun _ => r_fieldAt rfl (ev_t rfl) fld_28_1) ?_
              refine WN.held _ rfl rfl rfl rfl rfl hS10 (fun w' hS => r_loadAgg (vs := [_, _, _]) rfl (ev_t rfl) agg_28 size_28 (Blk.cellsL (hb5.upd hS (fun h => h)))) ?_
              refine WN.held _ rfl rfl rfl rfl rfl hS10 (fun w' hS => r_load rfl (ev_t rfl) flat_3 (Blk.cell (hb4.upd hS (fun h => h)) rfl)) ?_
              refine WN.step _ rfl (SO.call (free_ok hfr hsl hI htb2) rfl body_33 ⟨(ev_t rfl), (ev_t rfl), trivial⟩ rfl rfl rfl rfl ?_)
              rintro v w14 ⟨Af, kf, rfl, hof, hu14⟩
              have hs14 := hu14.size
              replace hS10 := Upd.transA hS10 hu14
              replace hU := hU.trans hu14 (by exact (fun _ _ h => h.elim))
              replace hI := hI.upd hu14 (fun k hk hl hS => by exact (show False from hS).elim)
              replace hb4 := hb4.upd hu14 (fun hS => by exact (show False from hS))
              replace hb5 := hb5.upd hu14 (fun hS => by exact (show False from hS))
              replace hta2 := hta2.upd hu14 (fun k hk hl hS => by exact (show False from hS).elim)
              replace htb2 := htb2.upd hu14 (fun k hk hl hS => by exact (show False from hS).elim)
              refine ⟨hS10, ?_⟩
              refine WN.step _ rfl (SO.call (contains_ok (hof.rd (by omega))) rfl body_32 ⟨(ev_t rfl), (ev_t rfl), trivial⟩ rfl rfl rfl rfl ?_)
              rintro v w15 ⟨rfl, he⟩
              obtain rfl := he.symm
              refine ⟨trivial, ?_⟩
              refine WN.done ?_
              refine WX.keep [(0, _), (4, _), (5, _), (64, _)] ⟨rfl, rfl, rfl, rfl, trivial⟩ ?_
              refine WX.next ?_
              refine WC.cond rfl (ev_t rfl) (fun hc10 => ?_) (fun hc10 => ?_)
              · try (exfalso; first | (simp at hc10; done) | (simp only [decide_eq_true_eq, decide_eq_false_iff_not, Bool.not_eq_true', Bool.not_eq_false', Bool.not_eq_true, Bool.not_eq_false] at hc10; omega) | omega)
                all_goals
                 try simp only [decide_eq_true_eq, decide_eq_false_iff_not, Bool.not_eq_true', Bool.not_eq_false', Bool.not_eq_true, Bool.not_eq_false, Option.isNone_none, Option.isNone_some, Option.isSome_none, Option.isSome_some, ne_eq, Decidable.not_not] at hc10
                 obtain hR := hin (by simpa using hc10)
                 injection hR with hR1 hR2
                 injection hR2 with hR2 hR3
                 subst hR1 hR2 hR3
                 refine WC.seq ?_
                 refine WC.region ?_
                 refine WL.val rfl rfl rfl rfl (r_assign rfl ev_c) ?_
                 refine WL.nil ?_
                 refine WX.keep [(6, _)] ⟨rfl, trivial⟩ ?_
                 refine WX.next ?_
                 refine WC.ret ?_
                 refine WX.thenRet ?_
                 refine WX.blockRet ?_
                 refine WX.thenRet ?_
                 refine WX.retE1 rfl rfl ?_
                 exact ⟨rfl, ⟨xs, hI⟩, hU⟩
              · try (exfalso; first | (simp at hc10; done) | (simp only [decide_eq_true_eq, decide_eq_false_iff_not, Bool.not_eq_true', Bool.not_eq_false', Bool.not_eq_true, Bool.not_eq_false] at hc10; omega) | omega)
                all_goals
                 try simp only [decide_eq_true_eq, decide_eq_false_iff_not, Bool.not_eq_true', Bool.not_eq_false', Bool.not_eq_true, Bool.not_eq_false, Option.isNone_none, Option.isNone_some, Option.isSome_none, Option.isSome_some, ne_eq, Decidable.not_not] at hc10
                 obtain hR := hout (by simpa using hc10)
                 injection hR with hR1 hR2
                 injection hR2 with hR2 hR3
                 subst hR1 hR2 hR3
                 clear hof
                 have hlx : look σ x = none := (hdF_isHd ha').end_ x rfl
                 refine WC.skip ?_
                 refine WX.next ?_
                 refine WC.seq ?_
                 refine WC.draws' (fun u0_ u1_ => Upd No u0_ u1_) (fun j => [0, 0, 0, 0, 0, 0, 1, 2].getD j 0) (.calm 0 (.calm 1 (.calm 2 (.calm 4 (.held 3 (.held 5 (.one 6 (.one 7 (.done))))))))) mixed (by kernel_rfl) (by repeat (first | with_reducible exact Deaf.body | with_reducible apply Deaf.then | with_reducible apply Deaf.block)) ?_
                 intro w16 hu16
                 have hz16 := congrArg Array.size hu16.2.2.2
                 replace hu16 := Upd.of_draw hu16
                 have hs16 := hu16.size
                 replace hU := hU.trans hu16 (by exact (fun _ _ h => h.elim))
                 replace hI := hI.upd hu16 (fun k hk hl hS => by exact (show False from hS).elim)
                 replace hb4 := hb4.upd hu16 (fun hS => by exact (show False from hS))
                 replace hb5 := hb5.upd hu16 (fun hS => by exact (show False from hS))
                 replace hta2 := hta2.upd hu16 (fun k hk hl hS => by exact (show False from hS).elim)
                 replace htb2 := htb2.upd hu16 (fun k hk hl hS => by exact (show False from hS).elim)
                 have hS12 := Upd.refl No w16
                 refine WN.calm _ rfl rfl rfl rfl rfl (fun _ => r_move rfl (ev_t rfl)) ?_
                 refine WN.calm _ rfl rfl rfl rfl rfl (fun _ => r_nilCheck rfl (ev_t rfl)) ?_
                 first | refine WN.calm _ rfl rfl rfl rfl rfl (fun _ => r_field0 rfl (ev_t rfl) fld_59_0) ?_ | refine WN.calm _ rfl rfl rfl rfl rfl (fun _ => r_fieldAt rfl (ev_t rfl) fld_59_0) ?_
                 first | refine WN.calm _ rfl rfl rfl rfl rfl (fun _ => r_field0 rfl (ev_t rfl) fld_28_1) ?_ | refine WN.calm _ rfl rfl rfl rfl rfl (fun _ => r_fieldAt rfl (ev_t rfl) fld_28_1) ?_
                 refine WN.held _ rfl rfl rfl rfl rfl hS12 (fun w' hS => r_load rfl (ev_t rfl) flat_56 (Blk.cell (hI.hd.upd hS (fun h => h)) rfl)) ?_
                 refine WN.held _ rfl rfl rfl rfl rfl hS12 (fun w' hS => r_load rfl (ev_t rfl) flat_3 (Blk.cell (hb4.upd hS (fun h => h)) rfl)) ?_
                 refine WN.step _ rfl (SO.val rfl rfl rfl rfl (r_loadAgg (vs := [_, _, _]) rfl (ev_t rfl) agg_28 size_28 (Blk.cellsL hb5)) ?_)
                 refine ⟨hS12, ?_⟩
                 have hlk := (hI.look x).1 hlx
                 have hxl : xs.length = σ.length := by have := hI.tv.1; simpa using this
                 obtain ⟨hhd, hof, hdn, hne, htv⟩ := hI
                 refine WN.step _ rfl (SO.mapNew keyI hof hlk rfl (ev_t rfl) (ev_t rfl) (ev_t rfl) map_56 rfl rfl rfl ?_)
                 intro w17 hu17 hof hz17
                 have hs17 := hu17.size
                 try replace hS12 := Upd.transA hS12 hu17
                 replace hU := hU.trans hu17 (by (intro k hl hk; first | exact hk | (simp only [At] at hk; simp only [Mut]; omega)))
                 replace hb4 := hb4.upd hu17 (fun hS => by (simp only [At] at hS; omega))
                 replace hb5 := hb5.upd hu17 (fun hS => by (simp only [At] at hS; omega))
                 replace hta2 := hta2.upd hu17 (fun k hk hl hS => by (simp only [At] at hS; subst hS; exact hF _ hk (by (first | exact .inl rfl | exact .inr (.inl rfl) | exact .inr (.inr rfl)))))
                 replace htb2 := htb2.upd hu17 (fun k hk hl hS => by (simp only [At] at hS; subst hS; exact hF _ hk (by (first | exact .inl rfl | exact .inr (.inl rfl) | exact .inr (.inr rfl)))))
                 replace hhd := hhd.upd hu17 (fun hS => by (simp only [At] at hS; omega))
                 replace hdn := hdn.upd hu17 (fun hS => by (simp only [At] at hS; omega))
                 replace htv := htv.upd hu17 (fun k hk hl hS => by (simp only [At] at hS; subst hS; exact hF _ hk (by (first | exact .inl rfl | exact .inr (.inl rfl) | exact .inr (.inr rfl)))))
                 refine ⟨trivial, ?_⟩
                 have hI : IsS w17 F p m1 m2 (σ ++ [(x, b')]) _ nn (xs ++ [(.string ⟨b'.nm.toArray⟩, .int .i64 md, .slice Ad b'.kids.length kd)]) := ⟨hhd, by rw [ofE_snoc hxl]; exact hof, hdn, hne, by rw [List.map_append]; exact htv.snoc htb2⟩
                 refine WN.done ?_
                 refine WX.keep [] trivial ?_
                 refine WX.next ?_
                 refine WC.seq ?_
                 refine WC.region ?_
                 refine WL.val rfl rfl rfl rfl (r_assign rfl ev_c) ?_
                 refine WL.nil ?_
                 refine WX.keep [(6, _)] ⟨rfl, trivial⟩ ?_
                 refine WX.next ?_
                 refine WC.ret ?_
                 refine WX.blockRet ?_
                 refine WX.thenRet ?_
                 refine WX.retE1 rfl rfl ?_
                 exact ⟨rfl, ⟨_, hI⟩, hU⟩
           · try (exfalso; first | (simp at hc9; done) | (simp only [decide_eq_true_eq, decide_eq_false_iff_not, Bool.not_eq_true', Bool.not_eq_false', Bool.not_eq_true, Bool.not_eq_false] at hc9; omega) | omega)
             all_goals
              try simp only [decide_eq_true_eq, decide_eq_false_iff_not, Bool.not_eq_true', Bool.not_eq_false', Bool.not_eq_true, Bool.not_eq_false, Option.isNone_none, Option.isNone_some, Option.isSome_none, Option.isSome_some, ne_eq, Decidable.not_not] at hc9
              obtain ⟨f, ks, rfl⟩ := nm_c hc9
              refine WC.seq ?_
              refine WC.region ?_
              first | refine WL.val rfl rfl rfl rfl (r_field0 rfl (ev_t rfl) fld_28_0) ?_ | refine WL.val rfl rfl rfl rfl (r_fieldAt rfl (ev_t rfl) fld_28_0) ?_
              refine WL.val rfl rfl rfl rfl (r_load rfl (ev_t rfl) flat_9 (Blk.cell hb5 rfl)) ?_
              refine WL.val rfl rfl rfl rfl (r_eqlStrL rfl (ev_t rfl) ev_c) ?_
              refine WL.val rfl rfl rfl rfl (r_assign rfl (ev_t rfl)) ?_
              refine WL.nil ?_
              refine WX.keep [(0, _), (4, _), (5, _), (72, _)] ⟨rfl, rfl, rfl, rfl, trivial⟩ ?_
              refine WX.next ?_
              refine WC.cond rfl (ev_t rfl) (fun hc14 => ?_) (fun hc14 => ?_)
              · try (exfalso; first | (simp at hc14; done) | (simp only [decide_eq_true_eq, decide_eq_false_iff_not, Bool.not_eq_true', Bool.not_eq_false', Bool.not_eq_true, Bool.not_eq_false] at hc14; omega) | omega)
                all_goals
                 try simp only [decide_eq_true_eq, decide_eq_false_iff_not, Bool.not_eq_true', Bool.not_eq_false', Bool.not_eq_true, Bool.not_eq_false, Option.isNone_none, Option.isNone_some, Option.isSome_none, Option.isSome_some, ne_eq, Decidable.not_not] at hc14
                 obtain ⟨y, rfl⟩ := Ty.nm_nil.1 hc14
                 simp only [unH] at huh
                 refine WC.seq ?_
                 refine WC.region ?_
                 refine WL.val rfl rfl rfl rfl (r_move rfl (ev_t rfl)) ?_
                 refine WL.val rfl rfl rfl rfl (r_loadAgg (vs := [_, _, _]) rfl (ev_t rfl) agg_28 size_28 (Blk.cellsL hb5)) ?_
                 refine WL.val rfl rfl rfl rfl (r_loadAgg (vs := [_, _, _]) rfl (ev_t rfl) agg_28 size_28 (Blk.cellsL hb4)) ?_
                 refine WL.cons (SO.call (ih _ _ _ xs _ _ _ _ _ _ _ _ r σ' D' huh (fun k hk => by have := hFb k hk; omega) hI htb2 hta2) rfl body_12 ⟨(ev_t rfl), (ev_t rfl), (ev_t rfl), trivial⟩ rfl rfl rfl rfl ?_)
                 rintro v w18 ⟨rfl, hI2, hu18⟩
                 have hs18 := hu18.size
                 replace hU := hU.trans hu18 (by exact (fun _ _ h => h))
                 refine WL.val rfl rfl rfl rfl (r_assign rfl (ev_t rfl)) ?_
                 refine WL.nil ?_
                 refine WX.keep [(6, _)] ⟨rfl, trivial⟩ ?_
                 refine WX.next ?_
                 refine WC.ret ?_
                 refine WX.blockRet ?_
                 refine WX.thenRet ?_
                 refine WX.retE1 rfl rfl ?_
                 exact ⟨rfl, hI2, hU⟩
              · try (exfalso; first | (simp at hc14; done) | (simp only [decide_eq_true_eq, decide_eq_false_iff_not, Bool.not_eq_true', Bool.not_eq_false', Bool.not_eq_true, Bool.not_eq_false] at hc14; omega) | omega)
                all_goals
                 try simp only [decide_eq_true_eq, decide_eq_false_iff_not, Bool.not_eq_true', Bool.not_eq_false', Bool.not_eq_true, Bool.not_eq_false, Option.isNone_none, Option.isNone_some, Option.isSome_none, Option.isSome_some, ne_eq, Decidable.not_not] at hc14
                 obtain ⟨g, ls, rfl⟩ := nm_c hc14
                 simp only [unH] at huh
                 refine WC.seq ?_
                 refine WC.region ?_
                 first | refine WL.val rfl rfl rfl rfl (r_field0 rfl (ev_t rfl) fld_28_0) ?_ | refine WL.val rfl rfl rfl rfl (r_fieldAt rfl (ev_t rfl) fld_28_0) ?_
                 refine WL.val rfl rfl rfl rfl (r_load rfl (ev_t rfl) flat_9 (Blk.cell hb4 rfl)) ?_
                 first | refine WL.val rfl rfl rfl rfl (r_field0 rfl (ev_t rfl) fld_28_0) ?_ | refine WL.val rfl rfl rfl rfl (r_fieldAt rfl (ev_t rfl) fld_28_0) ?_
                 refine WL.val rfl rfl rfl rfl (r_load rfl (ev_t rfl) flat_9 (Blk.cell hb5 rfl)) ?_
                 refine WL.val rfl rfl rfl rfl (r_neqStrL rfl (ev_t rfl) (ev_t rfl)) ?_
                 refine WL.val rfl rfl rfl rfl (r_move rfl (ev_t rfl)) ?_
                 refine WL.cases 86 rfl (fun hb16_5 => ?_) (fun hb16_5 => ?_)
                 · try (exfalso; first | (simp at hb16_5; done) | (simp only [decide_eq_true_eq, decide_eq_false_iff_not, Bool.not_eq_true', Bool.not_eq_false', Bool.not_eq_true, Bool.not_eq_false] at hb16_5; omega) | omega)
                   all_goals
                    try simp only [decide_eq_true_eq, decide_eq_false_iff_not, Bool.not_eq_true', Bool.not_eq_false', Bool.not_eq_true, Bool.not_eq_false, Option.isNone_none, Option.isNone_some, Option.isSome_none, Option.isSome_some, ne_eq, Decidable.not_not] at hb16_5
                    rw [if_pos (.inl (nmv_ne hb16_5))] at huh
                    injection huh with hR
                    injection hR with hR1 hR2
                    injection hR2 with hR2 hR3
                    subst hR1 hR2 hR3
                    refine WL.skip rfl rfl rfl ?_
                    refine WL.skip rfl rfl rfl ?_
                    refine WL.skip rfl rfl rfl ?_
                    refine WL.skip rfl rfl rfl ?_
                    refine WL.skip rfl rfl rfl ?_
                    refine WL.skip rfl rfl rfl ?_
                    refine WL.skip rfl rfl rfl ?_
                    refine WL.val rfl rfl rfl rfl (r_pickT rfl (ev_t rfl) ev_c) ?_
                    refine WL.val rfl rfl rfl rfl (r_assign rfl (ev_t rfl)) ?_
                    refine WL.nil ?_
                    refine WX.keep [(0, _), (4, _), (5, _), (80, _)] ⟨rfl, rfl, rfl, rfl, trivial⟩ ?_
                    refine WX.next ?_
                    refine WC.cond_true rfl (ev_t rfl) ?_
                    refine WC.seq ?_
                    refine WC.region ?_
                    refine WL.val rfl rfl rfl rfl (r_assign rfl ev_c) ?_
                    refine WL.nil ?_
                    refine WX.keep [(6, _)] ⟨rfl, trivial⟩ ?_
                    refine WX.next ?_
                    refine WC.ret ?_
                    refine WX.blockRet ?_
                    refine WX.thenRet ?_
                    refine WX.retE1 rfl rfl ?_
                    exact ⟨rfl, ⟨xs, hI⟩, hU⟩
                 · try (exfalso; first | (simp at hb16_5; done) | (simp only [decide_eq_true_eq, decide_eq_false_iff_not, Bool.not_eq_true', Bool.not_eq_false', Bool.not_eq_true, Bool.not_eq_false] at hb16_5; omega) | omega)
                   all_goals
                    try simp only [decide_eq_true_eq, decide_eq_false_iff_not, Bool.not_eq_true', Bool.not_eq_false', Bool.not_eq_true, Bool.not_eq_false, Option.isNone_none, Option.isNone_some, Option.isSome_none, Option.isSome_some, ne_eq, Decidable.not_not] at hb16_5
                    obtain rfl := nmv_eq hb16_5
                    first | refine WL.val rfl rfl rfl rfl (r_field0 rfl (ev_t rfl) fld_28_2) ?_ | refine WL.val rfl rfl rfl rfl (r_fieldAt rfl (ev_t rfl) fld_28_2) ?_
                    refine WL.val rfl rfl rfl rfl (r_load rfl (ev_t rfl) flat_26 (Blk.cell hb4 rfl)) ?_
                    refine WL.val rfl rfl rfl rfl (r_lenSlice (ts := #[]) rfl (ev_t rfl) elem_26) ?_
                    first | refine WL.val rfl rfl rfl rfl (r_field0 rfl (ev_t rfl) fld_28_2) ?_ | refine WL.val rfl rfl rfl rfl (r_fieldAt rfl (ev_t rfl) fld_28_2) ?_
                    refine WL.val rfl rfl rfl rfl (r_load rfl (ev_t rfl) flat_26 (Blk.cell hb5 rfl)) ?_
                    refine WL.val rfl rfl rfl rfl (r_lenSlice (ts := #[]) rfl (ev_t rfl) elem_26) ?_
                    refine WL.val rfl rfl rfl rfl (r_neq rfl (ev_t rfl) (ev_t rfl)) ?_
                    refine WL.val rfl rfl rfl rfl (r_pickF rfl (ev_t rfl) (ev_t rfl)) ?_
                    refine WL.val rfl rfl rfl rfl (r_assign rfl (ev_t rfl)) ?_
                    refine WL.nil ?_
                    refine WX.keep [(0, _), (4, _), (5, _), (80, _)] ⟨rfl, rfl, rfl, rfl, trivial⟩ ?_
                    refine WX.next ?_
                    refine WC.cond rfl (ev_t rfl) (fun hc16 => ?_) (fun hc16 => ?_)
                    · try (exfalso; first | (simp at hc16; done) | (simp only [decide_eq_true_eq, decide_eq_false_iff_not, Bool.not_eq_true', Bool.not_eq_false', Bool.not_eq_true, Bool.not_eq_false] at hc16; omega) | omega)
                      all_goals
                       try simp only [decide_eq_true_eq, decide_eq_false_iff_not, Bool.not_eq_true', Bool.not_eq_false', Bool.not_eq_true, Bool.not_eq_false, Option.isNone_none, Option.isNone_some, Option.isSome_none, Option.isSome_some, ne_eq, Decidable.not_not] at hc16
                       rw [if_pos (.inr (by simp only [Ty.kids] at hc16; omega))] at huh
                       injection huh with hR
                       injection hR with hR1 hR2
                       injection hR2 with hR2 hR3
                       subst hR1 hR2 hR3
                       refine WC.seq ?_
                       refine WC.region ?_
                       refine WL.val rfl rfl rfl rfl (r_assign rfl ev_c) ?_
                       refine WL.nil ?_
                       refine WX.keep [(6, _)] ⟨rfl, trivial⟩ ?_
                       refine WX.next ?_
                       refine WC.ret ?_
                       refine WX.blockRet ?_
                       refine WX.thenRet ?_
                       refine WX.retE1 rfl rfl ?_
                       exact ⟨rfl, ⟨xs, hI⟩, hU⟩
                    · try (exfalso; first | (simp at hc16; done) | (simp only [decide_eq_true_eq, decide_eq_false_iff_not, Bool.not_eq_true', Bool.not_eq_false', Bool.not_eq_true, Bool.not_eq_false] at hc16; omega) | omega)
                      all_goals
                       try simp only [decide_eq_true_eq, decide_eq_false_iff_not, Bool.not_eq_true', Bool.not_eq_false', Bool.not_eq_true, Bool.not_eq_false, Option.isNone_none, Option.isNone_some, Option.isSome_none, Option.isSome_some, ne_eq, Decidable.not_not] at hc16
                       have hll : ks.length = ls.length := by simp only [Ty.kids] at hc16; omega
                       rw [if_neg (fun h => by rcases h with h | h; exact h rfl; exact h hll)] at huh
                       refine WC.skip ?_
                       refine WX.blockNormal ?_
                       refine WX.next ?_
                       refine WC.seq ?_
                       refine WC.seq ?_
                       obtain ⟨m5, A5, k5, xk5, e1, e2, e3, _, hr5, hl5, _, hk5⟩ := hta2.open
                       injection e3 with e31 e32 e33
                       subst e31 e33
                       obtain ⟨m6, A6, k6, xk6, f1, f2, f3, _, hr6, hl6, _, hk6⟩ := htb2.open
                       injection f3 with f31 f32 f33
                       subst f31 f33
                       have hks5 : TVs w12 F xk5 ks := ⟨hl5, hk5⟩
                       have hks6 : TVs w12 F xk6 ls := ⟨hl6, hk6⟩
                       clear hta2 htb2 hrc hrd hkc hkd hk5 hk6
                       simp only [Ty.kids, Ty.nm] at hr5 hr6 hb4 hb5 hbc hbd
                       refine WC.region ?_
                       first | refine WL.val rfl rfl rfl rfl (r_field0 rfl (ev_t rfl) fld_28_2) ?_ | refine WL.val rfl rfl rfl rfl (r_fieldAt rfl (ev_t rfl) fld_28_2) ?_
                       refine WL.val rfl rfl rfl rfl (r_load rfl (ev_t rfl) flat_26 (Blk.cell hb4 rfl)) ?_
                       refine WL.val rfl rfl rfl rfl (r_lenSlice (ts := #[]) rfl (ev_t rfl) elem_26) ?_
                       refine WL.val rfl rfl rfl rfl (r_move rfl ev_c) ?_
                       refine WL.nil ?_
                       refine WX.keep [(0, _), (4, _), (5, _), (97, _), (98, _)] ⟨rfl, rfl, rfl, rfl, rfl, trivial⟩ ?_
                       refine WX.next ?_
                       refine WC.block ?_
                       -- loop 1: live [0, 4, 5, 97, 98]
                       refine WC.keep [(0, _), (4, _), (5, _), (97, _), (98, _)] ⟨rfl, rfl, rfl, rfl, rfl, trivial⟩ ?_
                       refine WC.loop (fun q E wC => ∃ (i : Nat) (σ1 : Sg) (D2 : Dn) (xs1 : List C3), i ≤ ks.length ∧ q = ks.length - i ∧ Upd (Mut p m1 m2) w wC ∧ w.heap.size + 2 ≤ wC.heap.size ∧ Blk wC w.heap.size #[.string ⟨f.1.toArray⟩, .int .i64 mc, .slice Ac ks.length kc] typ ∧ Blk wC w1.heap.size #[.string ⟨f.1.toArray⟩, .int .i64 md, .slice Ad ls.length kd] typ ∧ IsS wC F p m1 m2 σ1 D2 nn xs1 ∧   Rd wC F (.slice Ac ks.length kc) ks.length 3 (xk5.flatMap c3) ∧ Rd wC F (.slice Ad ls.length kd) ls.length 3 (xk6.flatMap c3) ∧ TVs wC F xk5 ks ∧ TVs wC F xk6 ls ∧ unL (unF n) (ks.drop i) (ls.drop i) σ1 D2 = some (r, σ', D') ∧   E = [(0, .pointer (some ⟨p, 0, none⟩)), (4, .pointer (some ⟨w.heap.size, 0, none⟩)), (5, .pointer (some ⟨w1.heap.size, 0, none⟩)), (97, .int .i64 (ks.length : Int)), (98, .int .i64 (i : Int))]) (ks.length) ?_ ?_
                       · exact ⟨0, _, _, xs, by omega, by omega, hU, by omega, hb4, hb5, hI, hr5, hr6, hks5, hks6, huh, rfl⟩
                       · clear hU hb4 hb5 hI hr5 hr6 hks5 hks6 huh
                         rintro q E wC ⟨i, σ1, D2, xs1, hi, rfl, hU, hsz, hb4, hb5, hI, hr5, hr6, hks5, hks6, huh, rfl⟩
                         refine WC.seq ?_
                         refine WC.region ?_
                         refine WL.val rfl rfl rfl rfl (r_lss rfl (ev_t rfl) (ev_t rfl)) ?_
                         refine WL.nil ?_
                         refine WX.keep [(0, _), (4, _), (5, _), (97, _), (98, _), (99, _)] ⟨rfl, rfl, rfl, rfl, rfl, rfl, trivial⟩ ?_
                         refine WX.next ?_
                         refine WC.seq ?_
                         refine WC.cond rfl (ev_t rfl) (fun hc19 => ?_) (fun hc19 => ?_)
                         · try (exfalso; first | (simp at hc19; done) | (simp only [decide_eq_true_eq, decide_eq_false_iff_not, Bool.not_eq_true', Bool.not_eq_false', Bool.not_eq_true, Bool.not_eq_false] at hc19; omega) | omega)
                           all_goals
                            try simp only [decide_eq_true_eq, decide_eq_false_iff_not, Bool.not_eq_true', Bool.not_eq_false', Bool.not_eq_true, Bool.not_eq_false, Option.isNone_none, Option.isNone_some, Option.isSome_none, Option.isSome_some, ne_eq, Decidable.not_not] at hc19
                            have hi5 : i < ks.length := by omega
                            have hi6 : i < ls.length := by omega
                            obtain ⟨g5, off5, rfl, _⟩ := hr5.open (by omega)
                            obtain ⟨g6, off6, rfl, _⟩ := hr6.open (by omega)
                            have hlx5 : i < xk5.length := by have := hks5.1; omega
                            have hlx6 : i < xk6.length := by have := hks6.1; omega
                            have hx5 : xk5[i]? = some xk5[i] := List.getElem?_eq_getElem (by have := hks5.1; omega)
                            have hx6 : xk6[i]? = some xk6[i] := List.getElem?_eq_getElem (by have := hks6.1; omega)
                            have hk5 : ks[i]? = some ks[i] := List.getElem?_eq_getElem hi5
                            have hk6 : ls[i]? = some ls[i] := List.getElem?_eq_getElem hi6
                            have hta5 := hks5.2 i _ _ hx5 hk5
                            have htb6 := hks6.2 i _ _ hx6 hk6
                            obtain ⟨r1, σ2, D3, hu1, hu2, hu3⟩ := unL_cons hk5 hk6 huh
                            generalize xk5[i] = c5 at *
                            generalize xk6[i] = c6 at *
                            generalize ks[i] = k5' at *
                            generalize ls[i] = k6' at *
                            obtain ⟨ca, cb, cc⟩ := c5
                            obtain ⟨cd, ce, cf⟩ := c6
                            refine WC.skip ?_
                            refine WX.next ?_
                            refine WC.seq ?_
                            refine WC.block ?_
                            refine WC.seq ?_
                            refine WC.region ?_
                            refine WL.val rfl rfl rfl rfl (r_move rfl (ev_t rfl)) ?_
                            refine WL.val rfl rfl rfl rfl (r_assign rfl (ev_t rfl)) ?_
                            refine WL.nil ?_
                            refine WX.keep [(0, _), (4, _), (5, _), (8, _), (97, _), (98, _)] ⟨rfl, rfl, rfl, rfl, rfl, rfl, trivial⟩ ?_
                            refine WX.next ?_
                            refine WC.seq ?_
                            refine WC.draws' (fun u0_ u1_ => Upd No u0_ u1_) (fun j => [0, 0, 0, 0, 0, 0, 0, 1, 0, 0, 1, 2, 0].getD j 0) (.calm 0 (.calm 1 (.calm 3 (.calm 6 (.calm 8 (.held 2 (.calm 4 (.held 5 (.one 7 (.calm 9 (.one 10 (.one 11 (.calm 12 (.done)))))))))))))) mixed (by kernel_rfl) (by repeat (first | with_reducible exact Deaf.body | with_reducible apply Deaf.then | with_reducible apply Deaf.block)) ?_
                            intro w19 hu19
                            have hz19 := congrArg Array.size hu19.2.2.2
                            replace hu19 := Upd.of_draw hu19
                            have hs19 := hu19.size
                            replace hU := hU.trans hu19 (by exact (fun _ _ h => h.elim))
                            replace hb4 := hb4.upd hu19 (fun hS => by exact (show False from hS))
                            replace hb5 := hb5.upd hu19 (fun hS => by exact (show False from hS))
                            replace hI := hI.upd hu19 (fun k hk hl hS => by exact (show False from hS).elim)
                            replace hr5 := hr5.upd hu19 (fun k hk hl hS => by exact (show False from hS).elim)
                            replace hr6 := hr6.upd hu19 (fun k hk hl hS => by exact (show False from hS).elim)
                            replace hks5 := hks5.upd hu19 (fun k hk hl hS => by exact (show False from hS).elim)
                            replace hks6 := hks6.upd hu19 (fun k hk hl hS => by exact (show False from hS).elim)
                            replace hta5 := hta5.upd hu19 (fun k hk hl hS => by exact (show False from hS).elim)
                            replace htb6 := htb6.upd hu19 (fun k hk hl hS => by exact (show False from hS).elim)
                            have hS21 := Upd.refl No w19
                            refine WN.calm _ rfl rfl rfl rfl rfl (fun _ => r_move rfl (ev_t rfl)) ?_
                            first | refine WN.calm _ rfl rfl rfl rfl rfl (fun _ => r_field0 rfl (ev_t rfl) fld_28_2) ?_ | refine WN.calm _ rfl rfl rfl rfl rfl (fun _ => r_fieldAt rfl (ev_t rfl) fld_28_2) ?_
                            refine WN.calm _ rfl rfl rfl rfl rfl (fun _ => r_move rfl (ev_t rfl)) ?_
                            first | refine WN.calm _ rfl rfl rfl rfl rfl (fun _ => r_field0 rfl (ev_t rfl) fld_28_2) ?_ | refine WN.calm _ rfl rfl rfl rfl rfl (fun _ => r_fieldAt rfl (ev_t rfl) fld_28_2) ?_
                            refine WN.calm _ rfl rfl rfl rfl rfl (fun _ => r_move rfl (ev_t rfl)) ?_
                            refine WN.held _ rfl rfl rfl rfl rfl hS21 (fun w' hS => r_load rfl (ev_t rfl) flat_26 (Blk.cell (hb4.upd hS (fun h => h)) rfl)) ?_
                            refine WN.calm _ rfl rfl rfl rfl rfl (fun _ => r_indexAddr rfl (ev_t rfl) (ev_t rfl) elem_26 size_28 (by omega) (by omega)) ?_
                            refine WN.held _ rfl rfl rfl rfl rfl hS21 (fun w' hS => r_loadAgg (vs := [_, _, _]) rfl (ev_t rfl) agg_28 size_28 (kid_cells (hr5.upd hS (fun _ _ _ h => h)) hx5 rfl)) ?_
                            refine WN.step _ rfl (SO.val rfl rfl rfl rfl (r_load rfl (ev_t rfl) flat_26 (Blk.cell hb5 rfl)) ?_)
                            refine ⟨hS21, ?_⟩
                            refine WN.calm _ rfl rfl rfl rfl rfl (fun _ => r_indexAddr rfl (ev_t rfl) (ev_t rfl) elem_26 size_28 (by omega) (by omega)) ?_
                            refine WN.step _ rfl (SO.val rfl rfl rfl rfl (r_loadAgg (vs := [_, _, _]) rfl (ev_t rfl) agg_28 size_28 (kid_cells hr6 hx6 rfl)) ?_)
                            refine ⟨hS21, ?_⟩
                            refine WN.step _ rfl (SO.call (ih _ _ _ _ _ _ _ _ _ _ _ _ _ _ _ hu1 (fun k hk => by have := hFb k hk; omega) hI hta5 htb6) rfl body_12 ⟨(ev_t rfl), (ev_t rfl), (ev_t rfl), trivial⟩ rfl rfl rfl rfl ?_)
                            rintro v w20 ⟨rfl, ⟨xs2, hI2⟩, hu20⟩
                            clear hI
                            have hs20 := hu20.size
                            try replace hS21 := Upd.transA hS21 hu20
                            replace hU := hU.trans hu20 (by exact (fun _ _ h => h))
                            replace hb4 := hb4.upd hu20 (fun hS => by (simp only [Mut] at hS; omega))
                            replace hb5 := hb5.upd hu20 (fun hS => by (simp only [Mut] at hS; omega))
                            replace hr5 := hr5.upd hu20 (fun k hk hl hS => by exact hF k hk hS)
                            replace hr6 := hr6.upd hu20 (fun k hk hl hS => by exact hF k hk hS)
                            replace hks5 := hks5.upd hu20 (fun k hk hl hS => by exact hF k hk hS)
                            replace hks6 := hks6.upd hu20 (fun k hk hl hS => by exact hF k hk hS)
                            refine ⟨trivial, ?_⟩
                            refine WN.calm _ rfl rfl rfl rfl rfl (fun _ => r_not rfl (ev_t rfl)) ?_
                            refine WN.done ?_
                            refine WX.keep [(0, _), (4, _), (5, _), (97, _), (98, _), (113, _)] ⟨rfl, rfl, rfl, rfl, rfl, rfl, trivial⟩ ?_
                            refine WX.next ?_
                            refine WC.cond rfl (ev_t rfl) (fun hc21 => ?_) (fun hc21 => ?_)
                            · try (exfalso; first | (simp at hc21; done) | (simp only [decide_eq_true_eq, decide_eq_false_iff_not, Bool.not_eq_true', Bool.not_eq_false', Bool.not_eq_true, Bool.not_eq_false] at hc21; omega) | omega)
                              all_goals
                               try simp only [decide_eq_true_eq, decide_eq_false_iff_not, Bool.not_eq_true', Bool.not_eq_false', Bool.not_eq_true, Bool.not_eq_false, Option.isNone_none, Option.isNone_some, Option.isSome_none, Option.isSome_some, ne_eq, Decidable.not_not] at hc21
                               obtain hR := hu2 (by simpa using hc21)
                               injection hR with hR1 hR2
                               injection hR2 with hR2 hR3
                               subst hR1 hR2 hR3
                               refine WC.seq ?_
                               refine WC.region ?_
                               refine WL.val rfl rfl rfl rfl (r_assign rfl ev_c) ?_
                               refine WL.nil ?_
                               refine WX.keep [(6, _)] ⟨rfl, trivial⟩ ?_
                               refine WX.next ?_
                               refine WC.ret ?_
                               refine WX.blockRet ?_
                               refine WX.thenRet ?_
                               refine WX.thenRet ?_
                               refine WX.blockRet ?_
                               refine WX.thenRet ?_
                               refine WX.retE1 rfl rfl ?_
                               exact ⟨rfl, ⟨xs2, hI2⟩, hU⟩
                            · try (exfalso; first | (simp at hc21; done) | (simp only [decide_eq_true_eq, decide_eq_false_iff_not, Bool.not_eq_true', Bool.not_eq_false', Bool.not_eq_true, Bool.not_eq_false] at hc21; omega) | omega)
                              all_goals
                               try simp only [decide_eq_true_eq, decide_eq_false_iff_not, Bool.not_eq_true', Bool.not_eq_false', Bool.not_eq_true, Bool.not_eq_false, Option.isNone_none, Option.isNone_some, Option.isSome_none, Option.isSome_some, ne_eq, Decidable.not_not] at hc21
                               refine WC.skip ?_
                               refine WX.blockNormal ?_
                               refine WX.next ?_
                               refine WC.region ?_
                               first | refine WL.val rfl rfl rfl rfl (r_addN rfl (ev_t rfl) ev_c (by simp only [inK]; omega)) ?_ | refine WL.val rfl rfl rfl rfl (r_add rfl (ev_t rfl) ev_c) ?_
                               refine WL.val rfl rfl rfl rfl (r_move rfl (ev_t rfl)) ?_
                               refine WL.nil ?_
                               refine WX.keep [(0, _), (4, _), (5, _), (97, _), (98, _)] ⟨rfl, rfl, rfl, rfl, rfl, trivial⟩ ?_
                               refine WX.meet [(0, _), (4, _), (5, _), (97, _), (98, _)] ⟨rfl, rfl, rfl, rfl, rfl, trivial⟩ ?_
                               exact ⟨ks.length - (i + 1), by omega, i + 1, σ2, D3, xs2, by omega, rfl, hU, by omega, hb4, hb5, hI2, hr5, hr6, hks5, hks6, hu3 (by simpa using hc21), by simp⟩
                         · try (exfalso; first | (simp at hc19; done) | (simp only [decide_eq_true_eq, decide_eq_false_iff_not, Bool.not_eq_true', Bool.not_eq_false', Bool.not_eq_true, Bool.not_eq_false] at hc19; omega) | omega)
                           all_goals
                            try simp only [decide_eq_true_eq, decide_eq_false_iff_not, Bool.not_eq_true', Bool.not_eq_false', Bool.not_eq_true, Bool.not_eq_false, Option.isNone_none, Option.isNone_some, Option.isSome_none, Option.isSome_some, ne_eq, Decidable.not_not] at hc19
                            obtain rfl : i = ks.length := by omega
                            rw [List.drop_length] at huh
                            simp only [unL] at huh
                            injection huh with hR
                            injection hR with hR1 hR2
                            injection hR2 with hR2 hR3
                            subst hR1 hR2 hR3
                            refine WC.exit ?_
                            refine WX.thenExit ?_
                            refine WX.thenExit ?_
                            refine WX.blockHere ?_
                            refine WX.next ?_
                            refine WC.seq ?_
                            refine WC.region ?_
                            refine WL.val rfl rfl rfl rfl (r_assign rfl ev_c) ?_
                            refine WL.nil ?_
                            refine WX.keep [(6, _)] ⟨rfl, trivial⟩ ?_
                            refine WX.next ?_
                            refine WC.ret ?_
                            refine WX.retE1 rfl rfl ?_
                            exact ⟨rfl, ⟨xs1, hI⟩, hU⟩
end Go.Proofs.Ytncakfcafkfmfaa

/-
  types: arguments as trees; law 06: small, of, apart; Same.
-/
namespace Go.Proofs.Ytncakfcafkfmfaa
open Go
set_option linter.unusedSimpArgs false
set_option linter.unusedVariables false

/-- a type as it may come in -/
inductive Tr where
  | mk (n : List UInt8) (v : Int) (ks : List Tr)
inductive TR (w : World) (F : Nat → Prop) : C3 → Tr → Prop
  | mk {n : List UInt8} {v : Int} {ks : List Tr} {kv : Value} {xs : List C3} : Rd w F kv ks.length 3 (xs.flatMap c3) → xs.length = ks.length → ks.length ≤ 2932031007402 → inK .i64 v → (∀ (i : Nat) c k, xs[i]? = some c → ks[i]? = some k → TR w F c k) → TR w F (.string ⟨n.toArray⟩, .int .i64 v, kv) (.mk n v ks)
theorem TR.upd {w w' : World} {F S : Nat → Prop} {c : C3} {t : Tr} (h : TR w F c t) (hu : Upd S w w') (hn : ∀ k, F k → k < w.heap.size → ¬ S k) : TR w' F c t := by
  induction h with
  | mk hr hl hb hv hk ih => exact .mk (hr.upd hu hn) hl hb hv fun i c k hc hk' => ih i c k hc hk'
theorem TR.updA {w w' : World} {F S : Nat → Prop} {c : C3} {t : Tr} (h : TR w F c t) (hu : Upd S w w') (hn : ∀ k, F k → k < w.heap.size → ¬ S k := by first | exact (fun _ _ _ h => h) | with_reducible assumption | (intro k hk hl hS; simp only [At] at hS; subst hS; contradiction) | (intro k hk hl hS; (try simp only [At, From, No, Grow, New] at hk hS); omega)) : TR w' F c t := h.upd hu hn
theorem TR.bound {w : World} {F : Nat → Prop} {c : C3} {t : Tr} (h : TR w F c t) : TR w (fun k => F k ∧ k < w.heap.size) c t := by
  induction h with
  | mk hr hl hb hv hk ih => exact .mk hr.bound hl hb hv fun i c k hc hk' => ih i c k hc hk'
theorem TR.open {w : World} {F : Nat → Prop} {a b c : Value} {n : List UInt8} {v : Int} {ks : List Tr} (h : TR w F (a, b, c) (.mk n v ks)) : ∃ (A : Option Addr) (k : Nat) (xs : List C3), a = .string ⟨n.toArray⟩ ∧ b = .int .i64 v ∧ c = .slice A ks.length k ∧ Rd w F (.slice A ks.length k) ks.length 3 (xs.flatMap c3) ∧ xs.length = ks.length ∧ ks.length ≤ 2932031007402 ∧ inK .i64 v ∧ ∀ (i : Nat) c k, xs[i]? = some c → ks[i]? = some k → TR w F c k := by
  cases h with
  | mk hr hl hb hv hk =>
    obtain ⟨A, k, rfl, _⟩ := hr.slice_form
    exact ⟨A, k, _, rfl, rfl, rfl, hr, hl, hb, hv, hk⟩
/-- types in a row, as they may come in -/
def TRs (w : World) (F : Nat → Prop) (xs : List C3) (ts : List Tr) : Prop := xs.length = ts.length ∧ ∀ (i : Nat) c t, xs[i]? = some c → ts[i]? = some t → TR w F c t
theorem TRs.upd {w w' : World} {F S : Nat → Prop} {xs : List C3} {ts : List Tr} (h : TRs w F xs ts) (hu : Upd S w w') (hn : ∀ k, F k → k < w.heap.size → ¬ S k) : TRs w' F xs ts := ⟨h.1, fun i c t h1 h2 => (h.2 i c t h1 h2).upd hu hn⟩
theorem TRs.updA {w w' : World} {F S : Nat → Prop} {xs : List C3} {ts : List Tr} (h : TRs w F xs ts) (hu : Upd S w w') (hn : ∀ k, F k → k < w.heap.size → ¬ S k := by first | exact (fun _ _ _ h => h) | with_reducible assumption | (intro k hk hl hS; simp only [At] at hS; subst hS; contradiction) | (intro k hk hl hS; (try simp only [At, From, No, Grow, New] at hk hS); omega)) : TRs w' F xs ts := h.upd hu hn
/-- few parts, and variables from 1 on: d levels at most -/
def smallR : Nat → Tr → Bool
  | 0, _ => false
  | d + 1, .mk n v ks => decide (ks.length ≤ 5 ∧ (n = [] → 1 ≤ v ∧ v ≤ 1000 ∧ ks.length = 0)) && ks.all (smallR d)
/-- such a type, clean -/
def cleanR : Nat → Tr → Ty
  | 0, _ => .v 0
  | d + 1, .mk n v ks => if h : n = [] then .v v else .c ⟨n, h⟩ (ks.map (cleanR d))
theorem clean_tv {w : World} {F : Nat → Prop} : ∀ {d : Nat} {t : Tr} {c : C3}, smallR d t = true → TR w F c t → TV w F c (cleanR d t)
  | 0, t, c, h, _ => by simp [smallR] at h
  | d + 1, .mk n v ks, (a, b, c), h, ht => by
    obtain ⟨A, k, xs, rfl, rfl, rfl, hr, hl, hb, hv, hk⟩ := ht.open
    simp only [smallR, Bool.and_eq_true, decide_eq_true_eq] at h
    obtain ⟨⟨h1, h2⟩, h3⟩ := h
    simp only [cleanR]
    by_cases hn : n = []
    · have h0 := (h2 hn).2.2
      have hks : ks = [] := List.eq_nil_of_length_eq_zero h0
      subst hks hn
      simp only [dif_pos]
      have hxs : xs = [] := List.eq_nil_of_length_eq_zero hl
      subst hxs
      exact .mk (t := .v v) (xs := []) (fun y e => by injection e) hr rfl (Nat.zero_le _) (fun i c k h => by simp at h)
    · simp only [hn, dif_neg, not_false_eq_true]
      refine .mk (t := .c ⟨n, hn⟩ (ks.map (cleanR d))) (xs := xs) (fun y e => by cases e) ?_ (by simpa [Ty.kids] using hl) (by simp [Ty.kids]; omega) ?_
      · simpa [Ty.kids] using hr
      · intro i c' k' hc hk'
        simp only [Ty.kids, List.getElem?_map] at hk'
        cases hki : ks[i]? with
        | none => rw [hki] at hk'; cases hk'
        | some k0 =>
          rw [hki] at hk'
          injection hk' with hk'
          subst hk'
          exact clean_tv (List.all_eq_true.1 h3 k0 (List.mem_of_getElem? hki)) (hk i c' k0 hc hki)
theorem clean_vars : ∀ {d : Nat} {t : Tr}, smallR d t = true → ∀ x ∈ vars (cleanR d t), 1 ≤ x ∧ x ≤ 1000
  | 0, t, h, _, _ => by simp [smallR] at h
  | d + 1, .mk n v ks, h, x, hx => by
    simp only [smallR, Bool.and_eq_true, decide_eq_true_eq] at h
    obtain ⟨⟨h1, h2⟩, h3⟩ := h
    simp only [cleanR] at hx
    by_cases hn : n = []
    · simp only [hn, dif_pos, vars_v, List.mem_singleton] at hx
      subst hx
      exact ⟨(h2 hn).1, (h2 hn).2.1⟩
    · simp only [hn, dif_neg, not_false_eq_true] at hx
      obtain ⟨k, hk, hx⟩ := mem_vars_c.1 hx
      obtain ⟨k0, hk0, rfl⟩ := List.mem_map.1 hk
      exact clean_vars (List.all_eq_true.1 h3 k0 hk0) x hx

theorem of_ok {w : World} {s : ByteArray} {A : Option Addr} {n c : Nat} :
    Ret Try.prog 13 #[.string s, .slice A n c] w fun v w' => v = .agg #[.string s, .int .i64 0, .slice A n c] ∧ Upd No w w' := by
  refine enterRet (vs := [_, _]) (N := 8) Try.func13 rfl rfl rfl ?_
  have hU := Upd.refl No w
  refine WC.keep [(0, _), (1, _)] ⟨rfl, rfl, trivial⟩ ?_
  refine WC.seq ?_
  refine WC.region ?_
  refine WL.cons (SO.alloc rfl rfl rfl rfl (r_alloc rfl zero_28) ?_)
  intro w1 hu1 hB1 hz1
  have hs1 := hu1.size
  replace hU := hU.transA hu1
  refine WL.nil ?_
  refine WX.keep [(0, _), (1, _), (4, _)] ⟨rfl, rfl, rfl, trivial⟩ ?_
  refine WX.next ?_
  refine WC.seq ?_
  refine WC.region ?_
  refine WL.val rfl rfl rfl rfl (r_move rfl (ev_t rfl)) ?_
  refine WL.val rfl rfl rfl rfl (r_move rfl (ev_t rfl)) ?_
  refine WL.val rfl rfl rfl rfl (r_build (cs := #[_, _, _]) (vs := [(0, _), (2, _)]) rfl ⟨⟨rfl, (ev_t rfl)⟩, ⟨rfl, (ev_t rfl)⟩, trivial⟩ plc_28 zero_28 rfl) ?_
  refine WL.cons (SO.storeAll (us := [_, _, _]) rfl (ev_t rfl) (ev_t rfl) size_28 hB1 rfl rfl rfl rfl rfl ?_)
  intro w2 hu2 hB1 hz2
  have hs2 := hu2.size
  replace hU := hU.transA hu2
  refine WL.nil ?_
  refine WX.keep [(4, _)] ⟨rfl, trivial⟩ ?_
  refine WX.next ?_
  refine WC.ret ?_
  refine WX.retC (vs := [_, _, _]) rfl rfl agg_28 size_28 (Blk.cellsL hB1) ?_
  exact ⟨rfl, hU⟩

theorem all_take_succ {α : Type} {p : α → Bool} {l : List α} {i : Nat} {a : α} (h : l[i]? = some a) : (l.take (i + 1)).all p = ((l.take i).all p && p a) := by
  have hi : i < l.length := (List.getElem?_eq_some_iff.1 h).1
  rw [List.getElem?_eq_getElem hi] at h
  injection h with h
  rw [List.take_succ_eq_append_getElem hi, List.all_append, h]
  simp
theorem all_false_of {α : Type} {p : α → Bool} {l : List α} {i : Nat} {a : α} (h : l[i]? = some a) (hp : p a = false) : l.all p = false := by
  rw [Bool.eq_false_iff]
  intro h1
  have := List.all_eq_true.1 h1 a (List.mem_of_getElem? h)
  rw [hp] at this
  cases this

set_option maxHeartbeats 1000000 in
theorem small_ok : ∀ (d : Nat) (w : World) (F : Nat → Prop) (a b c : Value) (t : Tr), TR w F (a, b, c) t → d ≤ 100 →
    Ret Try.prog 14 #[.agg #[a, b, c], .int .i64 ((d : Int) - 1)] w fun v w' => v = .bool (smallR d t) ∧ Upd No w w' := by
  intro d
  induction d with
  | zero =>
    intro w F a b c t ht hd
    obtain ⟨n, v, ks⟩ := t
    obtain ⟨A, k, xs, rfl, rfl, rfl, hr, hl, hb, hv, hk⟩ := ht.open
    refine enterRet (vs := [_, _]) (N := 51) Try.func14 rfl rfl rfl ?_
    have hU := Upd.refl No w
    refine WC.keep [(0, _), (1, _)] ⟨rfl, rfl, trivial⟩ ?_
    refine WC.seq ?_
    refine WC.region ?_
    refine WL.cons (SO.alloc rfl rfl rfl rfl (r_boxAgg rfl (ev_t rfl)) ?_)
    intro w1 hu1 hB1 hz1
    have hs1 := hu1.size
    replace hU := hU.transA hu1
    refine WL.val rfl rfl rfl rfl (r_assign rfl ev_c) ?_
    refine WL.nil ?_
    refine WX.keep [(1, _), (2, _)] ⟨rfl, rfl, trivial⟩ ?_
    refine WX.next ?_
    refine WC.seq ?_
    refine WC.seq ?_
    refine WC.region ?_
    refine WL.val rfl rfl rfl rfl (r_move rfl (ev_t rfl)) ?_
    refine WL.val rfl rfl rfl rfl (r_lss rfl (ev_t rfl) ev_c) ?_
    refine WL.val rfl rfl rfl rfl (r_move rfl (ev_t rfl)) ?_
    refine WL.cases 8 rfl (fun hb1_2 => ?_) (fun hb1_2 => ?_)
    · try (exfalso; first | (simp at hb1_2; done) | (simp only [decide_eq_true_eq, decide_eq_false_iff_not, Bool.not_eq_true', Bool.not_eq_false', Bool.not_eq_true, Bool.not_eq_false] at hb1_2; omega) | omega)
      all_goals
       try simp only [decide_eq_true_eq, decide_eq_false_iff_not, Bool.not_eq_true', Bool.not_eq_false', Bool.not_eq_true, Bool.not_eq_false, Option.isNone_none, Option.isNone_some, Option.isSome_none, Option.isSome_some, ne_eq, Decidable.not_not] at hb1_2
       refine WL.skip rfl rfl rfl ?_
       refine WL.skip rfl rfl rfl ?_
       refine WL.skip rfl rfl rfl ?_
       refine WL.skip rfl rfl rfl ?_
       refine WL.val rfl rfl rfl rfl (r_pickT rfl (ev_t rfl) ev_c) ?_
       refine WL.val rfl rfl rfl rfl (r_move rfl (ev_t rfl)) ?_
       refine WL.skip rfl rfl rfl ?_
       refine WL.skip rfl rfl rfl ?_
       refine WL.skip rfl rfl rfl ?_
       refine WL.skip rfl rfl rfl ?_
       refine WL.skip rfl rfl rfl ?_
       refine WL.skip rfl rfl rfl ?_
       refine WL.skip rfl rfl rfl ?_
       refine WL.skip rfl rfl rfl ?_
       refine WL.skip rfl rfl rfl ?_
       refine WL.skip rfl rfl rfl ?_
       refine WL.skip rfl rfl rfl ?_
       refine WL.skip rfl rfl rfl ?_
       refine WL.skip rfl rfl rfl ?_
       refine WL.skip rfl rfl rfl ?_
       refine WL.skip rfl rfl rfl ?_
       refine WL.skip rfl rfl rfl ?_
       refine WL.skip rfl rfl rfl ?_
       refine WL.skip rfl rfl rfl ?_
       refine WL.skip rfl rfl rfl ?_
       refine WL.val rfl rfl rfl rfl (r_pickT rfl (ev_t rfl) ev_c) ?_
       refine WL.nil ?_
       refine WX.keep [(1, _), (2, _), (34, _)] ⟨rfl, rfl, rfl, trivial⟩ ?_
       refine WX.next ?_
       refine WC.cond_true rfl (ev_t rfl) ?_
       refine WC.seq ?_
       refine WC.region ?_
       refine WL.val rfl rfl rfl rfl (r_assign rfl ev_c) ?_
       refine WL.nil ?_
       refine WX.keep [(4, _)] ⟨rfl, trivial⟩ ?_
       refine WX.next ?_
       refine WC.ret ?_
       refine WX.thenRet ?_
       refine WX.retE1 rfl rfl ?_
       exact ⟨rfl, hU⟩
    · try simp only [decide_eq_true_eq, decide_eq_false_iff_not, Bool.not_eq_true', Bool.not_eq_false', Bool.not_eq_true, Bool.not_eq_false, Option.isNone_none, Option.isNone_some, Option.isSome_none, Option.isSome_some, ne_eq, Decidable.not_not] at hb1_2
      exfalso
      omega
  | succ d ih =>
    intro w F a b c t ht hd
    replace ht := ht.bound
    obtain ⟨n, v, ks⟩ := t
    obtain ⟨A, k, xs, rfl, rfl, rfl, hr, hl, hb, hv, hk⟩ := ht.open
    have hks : TRs w (fun k => F k ∧ k < w.heap.size) xs ks := ⟨hl, hk⟩
    simp only [inK] at hv
    refine enterRet (vs := [_, _]) (N := 51) Try.func14 rfl rfl rfl ?_
    have hU := Upd.refl No w
    refine WC.keep [(0, _), (1, _)] ⟨rfl, rfl, trivial⟩ ?_
    refine WC.seq ?_
    refine WC.region ?_
    refine WL.cons (SO.alloc rfl rfl rfl rfl (r_boxAgg rfl (ev_t rfl)) ?_)
    intro w1 hu1 hB1 hz1
    have hs1 := hu1.size
    replace hU := hU.transA hu1
    replace hr := hr.updA hu1
    replace hks := hks.updA hu1
    refine WL.val rfl rfl rfl rfl (r_assign rfl ev_c) ?_
    refine WL.nil ?_
    refine WX.keep [(1, _), (2, _)] ⟨rfl, rfl, trivial⟩ ?_
    refine WX.next ?_
    -- cut 1: live [1, 2]
    refine WC.cut (fun E wA => w1 = wA ∧ (ks.length ≤ 5 ∧ (n = [] → 1 ≤ v ∧ v ≤ 1000 ∧ ks.length = 0)) ∧ E = [(1, .int .i64 (((d + 1 : Nat) : Int) - 1)), (2, .pointer (some ⟨w.heap.size, 0, none⟩))]) ?_ ?_
    · refine WC.seq ?_
      refine WC.region ?_
      refine WL.val rfl rfl rfl rfl (r_move rfl (ev_t rfl)) ?_
      refine WL.val rfl rfl rfl rfl (r_lss rfl (ev_t rfl) ev_c) ?_
      refine WL.val rfl rfl rfl rfl (r_move rfl (ev_t rfl)) ?_
      refine WL.cases 8 rfl (fun hb1_2 => ?_) (fun hb1_2 => ?_)
      · try simp only [decide_eq_true_eq, decide_eq_false_iff_not, Bool.not_eq_true', Bool.not_eq_false', Bool.not_eq_true, Bool.not_eq_false, Option.isNone_none, Option.isNone_some, Option.isSome_none, Option.isSome_some, ne_eq, Decidable.not_not] at hb1_2
        exfalso
        omega
      · try (exfalso; first | (simp at hb1_2; done) | (simp only [decide_eq_true_eq, decide_eq_false_iff_not, Bool.not_eq_true', Bool.not_eq_false', Bool.not_eq_true, Bool.not_eq_false] at hb1_2; omega) | omega)
        all_goals
         try simp only [decide_eq_true_eq, decide_eq_false_iff_not, Bool.not_eq_true', Bool.not_eq_false', Bool.not_eq_true, Bool.not_eq_false, Option.isNone_none, Option.isNone_some, Option.isSome_none, Option.isSome_some, ne_eq, Decidable.not_not] at hb1_2
         first | refine WL.val rfl rfl rfl rfl (r_field0 rfl (ev_t rfl) fld_28_2) ?_ | refine WL.val rfl rfl rfl rfl (r_fieldAt rfl (ev_t rfl) fld_28_2) ?_
         refine WL.val rfl rfl rfl rfl (r_load rfl (ev_t rfl) flat_26 (Blk.cell hB1 rfl)) ?_
         refine WL.val rfl rfl rfl rfl (r_lenSlice (ts := #[]) rfl (ev_t rfl) elem_26) ?_
         refine WL.val rfl rfl rfl rfl (r_gtr rfl (ev_t rfl) ev_c) ?_
         refine WL.val rfl rfl rfl rfl (r_pickF rfl (ev_t rfl) (ev_t rfl)) ?_
         refine WL.val rfl rfl rfl rfl (r_move rfl (ev_t rfl)) ?_
         refine WL.cases 14 rfl (fun hb1_8 => ?_) (fun hb1_8 => ?_)
         · try (exfalso; first | (simp at hb1_8; done) | (simp only [decide_eq_true_eq, decide_eq_false_iff_not, Bool.not_eq_true', Bool.not_eq_false', Bool.not_eq_true, Bool.not_eq_false] at hb1_8; omega) | omega)
           all_goals
            try simp only [decide_eq_true_eq, decide_eq_false_iff_not, Bool.not_eq_true', Bool.not_eq_false', Bool.not_eq_true, Bool.not_eq_false, Option.isNone_none, Option.isNone_some, Option.isSome_none, Option.isSome_some, ne_eq, Decidable.not_not] at hb1_8
            refine WL.skip rfl rfl rfl ?_
            refine WL.skip rfl rfl rfl ?_
            refine WL.skip rfl rfl rfl ?_
            refine WL.skip rfl rfl rfl ?_
            refine WL.skip rfl rfl rfl ?_
            refine WL.skip rfl rfl rfl ?_
            refine WL.skip rfl rfl rfl ?_
            refine WL.skip rfl rfl rfl ?_
            refine WL.skip rfl rfl rfl ?_
            refine WL.skip rfl rfl rfl ?_
            refine WL.skip rfl rfl rfl ?_
            refine WL.skip rfl rfl rfl ?_
            refine WL.skip rfl rfl rfl ?_
            refine WL.skip rfl rfl rfl ?_
            refine WL.skip rfl rfl rfl ?_
            refine WL.skip rfl rfl rfl ?_
            refine WL.skip rfl rfl rfl ?_
            refine WL.skip rfl rfl rfl ?_
            refine WL.skip rfl rfl rfl ?_
            refine WL.val rfl rfl rfl rfl (r_pickT rfl (ev_t rfl) ev_c) ?_
            refine WL.nil ?_
            refine WX.keep [(1, _), (2, _), (34, _)] ⟨rfl, rfl, rfl, trivial⟩ ?_
            refine WX.next ?_
            refine WC.cond_true rfl (ev_t rfl) ?_
            refine WC.seq ?_
            refine WC.region ?_
            refine WL.val rfl rfl rfl rfl (r_assign rfl ev_c) ?_
            refine WL.nil ?_
            refine WX.keep [(4, _)] ⟨rfl, trivial⟩ ?_
            refine WX.next ?_
            refine WC.ret ?_
            refine WX.thenRet ?_
            refine WX.retE1 rfl rfl ?_
            refine ⟨?_, hU⟩
            congr 1
            simp only [smallR]
            have hno : ¬ (ks.length ≤ 5 ∧ (n = [] → 1 ≤ v ∧ v ≤ 1000 ∧ ks.length = 0)) := fun h => by
              first
                | omega
                | (have h9 := h.2 hb1_12; omega)
            rw [decide_eq_false hno, Bool.false_and]
         · try (exfalso; first | (simp at hb1_8; done) | (simp only [decide_eq_true_eq, decide_eq_false_iff_not, Bool.not_eq_true', Bool.not_eq_false', Bool.not_eq_true, Bool.not_eq_false] at hb1_8; omega) | omega)
           all_goals
            try simp only [decide_eq_true_eq, decide_eq_false_iff_not, Bool.not_eq_true', Bool.not_eq_false', Bool.not_eq_true, Bool.not_eq_false, Option.isNone_none, Option.isNone_some, Option.isSome_none, Option.isSome_some, ne_eq, Decidable.not_not] at hb1_8
            first | refine WL.val rfl rfl rfl rfl (r_field0 rfl (ev_t rfl) fld_28_0) ?_ | refine WL.val rfl rfl rfl rfl (r_fieldAt rfl (ev_t rfl) fld_28_0) ?_
            refine WL.val rfl rfl rfl rfl (r_load rfl (ev_t rfl) flat_9 (Blk.cell hB1 rfl)) ?_
            refine WL.val rfl rfl rfl rfl (r_eqlStrL rfl (ev_t rfl) ev_c) ?_
            refine WL.val rfl rfl rfl rfl (r_move rfl (ev_t rfl)) ?_
            refine WL.cases 18 rfl (fun hb1_12 => ?_) (fun hb1_12 => ?_)
            · try (exfalso; first | (simp at hb1_12; done) | (simp only [decide_eq_true_eq, decide_eq_false_iff_not, Bool.not_eq_true', Bool.not_eq_false', Bool.not_eq_true, Bool.not_eq_false] at hb1_12; omega) | omega)
              all_goals
               try simp only [decide_eq_true_eq, decide_eq_false_iff_not, Bool.not_eq_true', Bool.not_eq_false', Bool.not_eq_true, Bool.not_eq_false, Option.isNone_none, Option.isNone_some, Option.isSome_none, Option.isSome_some, ne_eq, Decidable.not_not] at hb1_12
               first | refine WL.val rfl rfl rfl rfl (r_field0 rfl (ev_t rfl) fld_28_1) ?_ | refine WL.val rfl rfl rfl rfl (r_fieldAt rfl (ev_t rfl) fld_28_1) ?_
               refine WL.val rfl rfl rfl rfl (r_load rfl (ev_t rfl) flat_3 (Blk.cell hB1 rfl)) ?_
               refine WL.val rfl rfl rfl rfl (r_lss rfl (ev_t rfl) ev_c) ?_
               refine WL.val rfl rfl rfl rfl (r_move rfl (ev_t rfl)) ?_
               refine WL.cases 22 rfl (fun hb1_16 => ?_) (fun hb1_16 => ?_)
               · try (exfalso; first | (simp at hb1_16; done) | (simp only [decide_eq_true_eq, decide_eq_false_iff_not, Bool.not_eq_true', Bool.not_eq_false', Bool.not_eq_true, Bool.not_eq_false] at hb1_16; omega) | omega)
                 all_goals
                  try simp only [decide_eq_true_eq, decide_eq_false_iff_not, Bool.not_eq_true', Bool.not_eq_false', Bool.not_eq_true, Bool.not_eq_false, Option.isNone_none, Option.isNone_some, Option.isSome_none, Option.isSome_some, ne_eq, Decidable.not_not] at hb1_16
                  refine WL.skip rfl rfl rfl ?_
                  refine WL.skip rfl rfl rfl ?_
                  refine WL.skip rfl rfl rfl ?_
                  refine WL.val rfl rfl rfl rfl (r_pickT rfl (ev_t rfl) ev_c) ?_
                  refine WL.val rfl rfl rfl rfl (r_move rfl (ev_t rfl)) ?_
                  refine WL.skip rfl rfl rfl ?_
                  refine WL.skip rfl rfl rfl ?_
                  refine WL.skip rfl rfl rfl ?_
                  refine WL.skip rfl rfl rfl ?_
                  refine WL.val rfl rfl rfl rfl (r_pickT rfl (ev_t rfl) ev_c) ?_
                  refine WL.val rfl rfl rfl rfl (r_pickT rfl (ev_t rfl) (ev_t rfl)) ?_
                  refine WL.val rfl rfl rfl rfl (r_pickF rfl (ev_t rfl) (ev_t rfl)) ?_
                  refine WL.nil ?_
                  refine WX.keep [(1, _), (2, _), (34, _)] ⟨rfl, rfl, rfl, trivial⟩ ?_
                  refine WX.next ?_
                  refine WC.cond_true rfl (ev_t rfl) ?_
                  refine WC.seq ?_
                  refine WC.region ?_
                  refine WL.val rfl rfl rfl rfl (r_assign rfl ev_c) ?_
                  refine WL.nil ?_
                  refine WX.keep [(4, _)] ⟨rfl, trivial⟩ ?_
                  refine WX.next ?_
                  refine WC.ret ?_
                  refine WX.thenRet ?_
                  refine WX.retE1 rfl rfl ?_
                  refine ⟨?_, hU⟩
                  congr 1
                  simp only [smallR]
                  have hno : ¬ (ks.length ≤ 5 ∧ (n = [] → 1 ≤ v ∧ v ≤ 1000 ∧ ks.length = 0)) := fun h => by
                    first
                      | omega
                      | (have h9 := h.2 hb1_12; omega)
                  rw [decide_eq_false hno, Bool.false_and]
               · try (exfalso; first | (simp at hb1_16; done) | (simp only [decide_eq_true_eq, decide_eq_false_iff_not, Bool.not_eq_true', Bool.not_eq_false', Bool.not_eq_true, Bool.not_eq_false] at hb1_16; omega) | omega)
                 all_goals
                  try simp only [decide_eq_true_eq, decide_eq_false_iff_not, Bool.not_eq_true', Bool.not_eq_false', Bool.not_eq_true, Bool.not_eq_false, Option.isNone_none, Option.isNone_some, Option.isSome_none, Option.isSome_some, ne_eq, Decidable.not_not] at hb1_16
                  first | refine WL.val rfl rfl rfl rfl (r_field0 rfl (ev_t rfl) fld_28_1) ?_ | refine WL.val rfl rfl rfl rfl (r_fieldAt rfl (ev_t rfl) fld_28_1) ?_
                  refine WL.val rfl rfl rfl rfl (r_load rfl (ev_t rfl) flat_3 (Blk.cell hB1 rfl)) ?_
                  refine WL.val rfl rfl rfl rfl (r_gtr rfl (ev_t rfl) ev_c) ?_
                  refine WL.val rfl rfl rfl rfl (r_pickF rfl (ev_t rfl) (ev_t rfl)) ?_
                  refine WL.val rfl rfl rfl rfl (r_move rfl (ev_t rfl)) ?_
                  refine WL.cases 27 rfl (fun hb1_21 => ?_) (fun hb1_21 => ?_)
                  · try (exfalso; first | (simp at hb1_21; done) | (simp only [decide_eq_true_eq, decide_eq_false_iff_not, Bool.not_eq_true', Bool.not_eq_false', Bool.not_eq_true, Bool.not_eq_false] at hb1_21; omega) | omega)
                    all_goals
                     try simp only [decide_eq_true_eq, decide_eq_false_iff_not, Bool.not_eq_true', Bool.not_eq_false', Bool.not_eq_true, Bool.not_eq_false, Option.isNone_none, Option.isNone_some, Option.isSome_none, Option.isSome_some, ne_eq, Decidable.not_not] at hb1_21
                     refine WL.skip rfl rfl rfl ?_
                     refine WL.skip rfl rfl rfl ?_
                     refine WL.skip rfl rfl rfl ?_
                     refine WL.skip rfl rfl rfl ?_
                     refine WL.val rfl rfl rfl rfl (r_pickT rfl (ev_t rfl) ev_c) ?_
                     refine WL.val rfl rfl rfl rfl (r_pickT rfl (ev_t rfl) (ev_t rfl)) ?_
                     refine WL.val rfl rfl rfl rfl (r_pickF rfl (ev_t rfl) (ev_t rfl)) ?_
                     refine WL.nil ?_
                     refine WX.keep [(1, _), (2, _), (34, _)] ⟨rfl, rfl, rfl, trivial⟩ ?_
                     refine WX.next ?_
                     refine WC.cond_true rfl (ev_t rfl) ?_
                     refine WC.seq ?_
                     refine WC.region ?_
                     refine WL.val rfl rfl rfl rfl (r_assign rfl ev_c) ?_
                     refine WL.nil ?_
                     refine WX.keep [(4, _)] ⟨rfl, trivial⟩ ?_
                     refine WX.next ?_
                     refine WC.ret ?_
                     refine WX.thenRet ?_
                     refine WX.retE1 rfl rfl ?_
                     refine ⟨?_, hU⟩
                     congr 1
                     simp only [smallR]
                     have hno : ¬ (ks.length ≤ 5 ∧ (n = [] → 1 ≤ v ∧ v ≤ 1000 ∧ ks.length = 0)) := fun h => by
                       first
                         | omega
                         | (have h9 := h.2 hb1_12; omega)
                     rw [decide_eq_false hno, Bool.false_and]
                  · try (exfalso; first | (simp at hb1_21; done) | (simp only [decide_eq_true_eq, decide_eq_false_iff_not, Bool.not_eq_true', Bool.not_eq_false', Bool.not_eq_true, Bool.not_eq_false] at hb1_21; omega) | omega)
                    all_goals
                     try simp only [decide_eq_true_eq, decide_eq_false_iff_not, Bool.not_eq_true', Bool.not_eq_false', Bool.not_eq_true, Bool.not_eq_false, Option.isNone_none, Option.isNone_some, Option.isSome_none, Option.isSome_some, ne_eq, Decidable.not_not] at hb1_21
                     first | refine WL.val rfl rfl rfl rfl (r_field0 rfl (ev_t rfl) fld_28_2) ?_ | refine WL.val rfl rfl rfl rfl (r_fieldAt rfl (ev_t rfl) fld_28_2) ?_
                     refine WL.val rfl rfl rfl rfl (r_load rfl (ev_t rfl) flat_26 (Blk.cell hB1 rfl)) ?_
                     refine WL.val rfl rfl rfl rfl (r_lenSlice (ts := #[]) rfl (ev_t rfl) elem_26) ?_
                     refine WL.val rfl rfl rfl rfl (r_gtr rfl (ev_t rfl) ev_c) ?_
                     refine WL.val rfl rfl rfl rfl (r_pickF rfl (ev_t rfl) (ev_t rfl)) ?_
                     refine WL.val rfl rfl rfl rfl (r_pickT rfl (ev_t rfl) (ev_t rfl)) ?_
                     refine WL.val rfl rfl rfl rfl (r_pickF rfl (ev_t rfl) (ev_t rfl)) ?_
                     refine WL.nil ?_
                     refine WX.keep [(1, _), (2, _), (34, _)] ⟨rfl, rfl, rfl, trivial⟩ ?_
                     refine WX.next ?_
                     refine WC.cond rfl (ev_t rfl) (fun hc1 => ?_) (fun hc1 => ?_)
                     · try (exfalso; first | (simp at hc1; done) | (simp only [decide_eq_true_eq, decide_eq_false_iff_not, Bool.not_eq_true', Bool.not_eq_false', Bool.not_eq_true, Bool.not_eq_false] at hc1; omega) | omega)
                       all_goals
                        try simp only [decide_eq_true_eq, decide_eq_false_iff_not, Bool.not_eq_true', Bool.not_eq_false', Bool.not_eq_true, Bool.not_eq_false, Option.isNone_none, Option.isNone_some, Option.isSome_none, Option.isSome_some, ne_eq, Decidable.not_not] at hc1
                        refine WC.seq ?_
                        refine WC.region ?_
                        refine WL.val rfl rfl rfl rfl (r_assign rfl ev_c) ?_
                        refine WL.nil ?_
                        refine WX.keep [(4, _)] ⟨rfl, trivial⟩ ?_
                        refine WX.next ?_
                        refine WC.ret ?_
                        refine WX.thenRet ?_
                        refine WX.retE1 rfl rfl ?_
                        refine ⟨?_, hU⟩
                        congr 1
                        simp only [smallR]
                        have hno : ¬ (ks.length ≤ 5 ∧ (n = [] → 1 ≤ v ∧ v ≤ 1000 ∧ ks.length = 0)) := fun h => by
                          first
                            | omega
                            | (have h9 := h.2 hb1_12; omega)
                        rw [decide_eq_false hno, Bool.false_and]
                     · try (exfalso; first | (simp at hc1; done) | (simp only [decide_eq_true_eq, decide_eq_false_iff_not, Bool.not_eq_true', Bool.not_eq_false', Bool.not_eq_true, Bool.not_eq_false] at hc1; omega) | omega)
                       all_goals
                        try simp only [decide_eq_true_eq, decide_eq_false_iff_not, Bool.not_eq_true', Bool.not_eq_false', Bool.not_eq_true, Bool.not_eq_false, Option.isNone_none, Option.isNone_some, Option.isSome_none, Option.isSome_some, ne_eq, Decidable.not_not] at hc1
                        refine WC.skip ?_
                        refine WX.meet [(1, _), (2, _)] ⟨rfl, rfl, trivial⟩ ?_
                        refine ⟨rfl, ⟨by omega, fun h => ?_⟩, rfl⟩
                        first
                          | exact absurd h hb1_12
                          | omega
            · try (exfalso; first | (simp at hb1_12; done) | (simp only [decide_eq_true_eq, decide_eq_false_iff_not, Bool.not_eq_true', Bool.not_eq_false', Bool.not_eq_true, Bool.not_eq_false] at hb1_12; omega) | omega)
              all_goals
               try simp only [decide_eq_true_eq, decide_eq_false_iff_not, Bool.not_eq_true', Bool.not_eq_false', Bool.not_eq_true, Bool.not_eq_false, Option.isNone_none, Option.isNone_some, Option.isSome_none, Option.isSome_some, ne_eq, Decidable.not_not] at hb1_12
               refine WL.skip rfl rfl rfl ?_
               refine WL.skip rfl rfl rfl ?_
               refine WL.skip rfl rfl rfl ?_
               refine WL.skip rfl rfl rfl ?_
               refine WL.skip rfl rfl rfl ?_
               refine WL.skip rfl rfl rfl ?_
               refine WL.skip rfl rfl rfl ?_
               refine WL.skip rfl rfl rfl ?_
               refine WL.skip rfl rfl rfl ?_
               refine WL.skip rfl rfl rfl ?_
               refine WL.skip rfl rfl rfl ?_
               refine WL.skip rfl rfl rfl ?_
               refine WL.skip rfl rfl rfl ?_
               refine WL.skip rfl rfl rfl ?_
               refine WL.val rfl rfl rfl rfl (r_pickF rfl (ev_t rfl) ev_c) ?_
               refine WL.val rfl rfl rfl rfl (r_pickF rfl (ev_t rfl) (ev_t rfl)) ?_
               refine WL.nil ?_
               refine WX.keep [(1, _), (2, _), (34, _)] ⟨rfl, rfl, rfl, trivial⟩ ?_
               refine WX.next ?_
               refine WC.cond_false rfl (ev_t rfl) ?_
               refine WC.skip ?_
               refine WX.meet [(1, _), (2, _)] ⟨rfl, rfl, trivial⟩ ?_
               refine ⟨rfl, ⟨by omega, fun h => ?_⟩, rfl⟩
               first
                 | exact absurd h hb1_12
                 | omega
    · rintro E wA ⟨rfl, htop, rfl⟩
      refine WC.seq ?_
      refine WC.seq ?_
      refine WC.region ?_
      refine WL.val rfl rfl rfl rfl (r_assign rfl ev_c) ?_
      refine WL.nil ?_
      refine WX.keep [(1, _), (2, _), (5, _)] ⟨rfl, rfl, rfl, trivial⟩ ?_
      refine WX.next ?_
      refine WC.block ?_
      -- loop 1: live [1, 2, 5]
      refine WC.keep [(1, _), (2, _), (5, _)] ⟨rfl, rfl, rfl, trivial⟩ ?_
      refine WC.loop (fun q E w' => ∃ (i : Nat), i ≤ ks.length ∧ q = ks.length - i ∧ Upd No w w' ∧ Blk w' w.heap.size #[.string ⟨n.toArray⟩, .int .i64 v, .slice A ks.length k] typ ∧ Rd w' (fun k => F k ∧ k < w.heap.size) (.slice A ks.length k) ks.length 3 (xs.flatMap c3) ∧ TRs w' (fun k => F k ∧ k < w.heap.size) xs ks ∧ (ks.take i).all (smallR d) = true ∧   E = [(1, .int .i64 (((d + 1 : Nat) : Int) - 1)), (2, .pointer (some ⟨w.heap.size, 0, none⟩)), (5, .int .i64 (i : Int))]) (ks.length) ?_ ?_
      · exact ⟨0, by omega, by omega, hU, hB1, hr, hks, rfl, rfl⟩
      · clear hU hB1 hr hks
        rintro q E w' ⟨i, hi, rfl, hU, hB1, hr, hks, hall, rfl⟩
        refine WC.seq ?_
        refine WC.seq ?_
        refine WC.region ?_
        refine WL.val rfl rfl rfl rfl (r_move rfl (ev_t rfl)) ?_
        first | refine WL.val rfl rfl rfl rfl (r_field0 rfl (ev_t rfl) fld_28_2) ?_ | refine WL.val rfl rfl rfl rfl (r_fieldAt rfl (ev_t rfl) fld_28_2) ?_
        refine WL.val rfl rfl rfl rfl (r_load rfl (ev_t rfl) flat_26 (Blk.cell hB1 rfl)) ?_
        refine WL.val rfl rfl rfl rfl (r_lenSlice (ts := #[]) rfl (ev_t rfl) elem_26) ?_
        refine WL.val rfl rfl rfl rfl (r_lss rfl (ev_t rfl) (ev_t rfl)) ?_
        refine WL.nil ?_
        refine WX.keep [(1, _), (2, _), (5, _), (39, _)] ⟨rfl, rfl, rfl, rfl, trivial⟩ ?_
        refine WX.next ?_
        refine WC.cond rfl (ev_t rfl) (fun hc4 => ?_) (fun hc4 => ?_)
        · try (exfalso; first | (simp at hc4; done) | (simp only [decide_eq_true_eq, decide_eq_false_iff_not, Bool.not_eq_true', Bool.not_eq_false', Bool.not_eq_true, Bool.not_eq_false] at hc4; omega) | omega)
          all_goals
           try simp only [decide_eq_true_eq, decide_eq_false_iff_not, Bool.not_eq_true', Bool.not_eq_false', Bool.not_eq_true, Bool.not_eq_false, Option.isNone_none, Option.isNone_some, Option.isSome_none, Option.isSome_some, ne_eq, Decidable.not_not] at hc4
           have hi' : i < ks.length := by omega
           obtain ⟨b0, off, rfl, _⟩ := hr.open (by omega)
           have hlx : i < xs.length := by have := hks.1; omega
           have hxi : xs[i]? = some xs[i] := List.getElem?_eq_getElem hlx
           have hki : ks[i]? = some ks[i] := List.getElem?_eq_getElem hi'
           have htk := hks.2 i _ _ hxi hki
           generalize xs[i] = ck at *
           generalize ks[i] = kk at *
           obtain ⟨ca, cb, cc⟩ := ck
           have htake := all_take_succ (p := smallR d) hki
           refine WC.skip ?_
           refine WX.next ?_
           refine WC.seq ?_
           refine WC.block ?_
           refine WC.seq ?_
           refine WC.region ?_
           first | refine WL.val rfl rfl rfl rfl (r_field0 rfl (ev_t rfl) fld_28_2) ?_ | refine WL.val rfl rfl rfl rfl (r_fieldAt rfl (ev_t rfl) fld_28_2) ?_
           refine WL.val rfl rfl rfl rfl (r_load rfl (ev_t rfl) flat_26 (Blk.cell hB1 rfl)) ?_
           refine WL.val rfl rfl rfl rfl (r_move rfl (ev_t rfl)) ?_
           refine WL.val rfl rfl rfl rfl (r_indexAddr rfl (ev_t rfl) (ev_t rfl) elem_26 size_28 (by omega) (by omega)) ?_
           refine WL.val rfl rfl rfl rfl (r_loadAgg (vs := [_, _, _]) rfl (ev_t rfl) agg_28 size_28 (kid_cells hr hxi rfl)) ?_
           refine WL.val rfl rfl rfl rfl (r_move rfl (ev_t rfl)) ?_
           first | refine WL.val rfl rfl rfl rfl (r_subN rfl (ev_t rfl) ev_c (by simp only [inK]; omega)) ?_ | refine WL.val rfl rfl rfl rfl (r_sub rfl (ev_t rfl) ev_c) ?_
           rw [show (((d + 1 : Nat) : Int) - 1 - 1) = (d : Int) - 1 by omega]
           refine WL.cons (SO.call (ih _ _ _ _ _ kk htk (by omega)) rfl body_14 ⟨(ev_t rfl), (ev_t rfl), trivial⟩ rfl rfl rfl rfl ?_)
           rintro v w2 ⟨rfl, hu2⟩
           have hs2 := hu2.size
           replace hU := hU.transA hu2
           replace hB1 := hB1.updA hu2
           replace hr := hr.updA hu2
           replace hks := hks.updA hu2
           refine WL.val rfl rfl rfl rfl (r_not rfl (ev_t rfl)) ?_
           refine WL.nil ?_
           refine WX.keep [(1, _), (2, _), (5, _), (50, _)] ⟨rfl, rfl, rfl, rfl, trivial⟩ ?_
           refine WX.next ?_
           refine WC.cond rfl (ev_t rfl) (fun hc6 => ?_) (fun hc6 => ?_)
           · try (exfalso; first | (simp at hc6; done) | (simp only [decide_eq_true_eq, decide_eq_false_iff_not, Bool.not_eq_true', Bool.not_eq_false', Bool.not_eq_true, Bool.not_eq_false] at hc6; omega) | omega)
             all_goals
              try simp only [decide_eq_true_eq, decide_eq_false_iff_not, Bool.not_eq_true', Bool.not_eq_false', Bool.not_eq_true, Bool.not_eq_false, Option.isNone_none, Option.isNone_some, Option.isSome_none, Option.isSome_some, ne_eq, Decidable.not_not] at hc6
              refine WC.seq ?_
              refine WC.region ?_
              refine WL.val rfl rfl rfl rfl (r_assign rfl ev_c) ?_
              refine WL.nil ?_
              refine WX.keep [(4, _)] ⟨rfl, trivial⟩ ?_
              refine WX.next ?_
              refine WC.ret ?_
              refine WX.blockRet ?_
              refine WX.thenRet ?_
              refine WX.thenRet ?_
              refine WX.blockRet ?_
              refine WX.thenRet ?_
              refine WX.retE1 rfl rfl ?_
              refine ⟨?_, hU⟩
              congr 1
              simp only [smallR]
              rw [all_false_of hki (by simpa using hc6)]
              simp
           · try (exfalso; first | (simp at hc6; done) | (simp only [decide_eq_true_eq, decide_eq_false_iff_not, Bool.not_eq_true', Bool.not_eq_false', Bool.not_eq_true, Bool.not_eq_false] at hc6; omega) | omega)
             all_goals
              try simp only [decide_eq_true_eq, decide_eq_false_iff_not, Bool.not_eq_true', Bool.not_eq_false', Bool.not_eq_true, Bool.not_eq_false, Option.isNone_none, Option.isNone_some, Option.isSome_none, Option.isSome_some, ne_eq, Decidable.not_not] at hc6
              refine WC.skip ?_
              refine WX.blockNormal ?_
              refine WX.next ?_
              refine WC.region ?_
              refine WL.val rfl rfl rfl rfl (r_move rfl (ev_t rfl)) ?_
              first | refine WL.val rfl rfl rfl rfl (r_addN rfl (ev_t rfl) ev_c (by simp only [inK]; omega)) ?_ | refine WL.val rfl rfl rfl rfl (r_add rfl (ev_t rfl) ev_c) ?_
              refine WL.val rfl rfl rfl rfl (r_assign rfl (ev_t rfl)) ?_
              refine WL.nil ?_
              refine WX.keep [(1, _), (2, _), (5, _)] ⟨rfl, rfl, rfl, trivial⟩ ?_
              refine WX.meet [(1, _), (2, _), (5, _)] ⟨rfl, rfl, rfl, trivial⟩ ?_
              exact ⟨ks.length - (i + 1), by omega, i + 1, by omega, rfl, hU, hB1, hr, hks, by rw [htake, hall]; simpa using hc6, by simp⟩
        · try (exfalso; first | (simp at hc4; done) | (simp only [decide_eq_true_eq, decide_eq_false_iff_not, Bool.not_eq_true', Bool.not_eq_false', Bool.not_eq_true, Bool.not_eq_false] at hc4; omega) | omega)
          all_goals
           try simp only [decide_eq_true_eq, decide_eq_false_iff_not, Bool.not_eq_true', Bool.not_eq_false', Bool.not_eq_true, Bool.not_eq_false, Option.isNone_none, Option.isNone_some, Option.isSome_none, Option.isSome_some, ne_eq, Decidable.not_not] at hc4
           refine WC.exit ?_
           refine WX.thenExit ?_
           refine WX.thenExit ?_
           refine WX.blockHere ?_
           refine WX.next ?_
           refine WC.seq ?_
           refine WC.region ?_
           refine WL.val rfl rfl rfl rfl (r_assign rfl ev_c) ?_
           refine WL.nil ?_
           refine WX.keep [(4, _)] ⟨rfl, trivial⟩ ?_
           refine WX.next ?_
           refine WC.ret ?_
           refine WX.retE1 rfl rfl ?_
           refine ⟨?_, hU⟩
           have h0 : ks.take i = ks := List.take_of_length_le (by omega)
           rw [h0] at hall
           congr 1
           simp only [smallR, hall, Bool.and_true]
           exact (decide_eq_true htop).symm
end Go.Proofs.Ytncakfcafkfmfaa

/-
  types: apart, Put.
-/
namespace Go.Proofs.Ytncakfcafkfmfaa
open Go
set_option linter.unusedSimpArgs false
set_option linter.unusedVariables false

def apS (by_ : Int) : Int → Ty := fun x => .v (x % 8 + by_)
set_option maxHeartbeats 2000000 in
theorem apart_ok {by_ : Int} (hby : 0 ≤ by_ ∧ by_ ≤ 1000) : ∀ (N : Nat) (F : Nat → Prop) (w : World) (a b c : Value) (t : Ty), sz t ≤ N → TV w F (a, b, c) t → (∀ x ∈ vars t, 0 ≤ x ∧ x ≤ 1000) →
    Ret Try.prog 15 #[.agg #[a, b, c], .int .i64 by_] w fun v w' => ∃ a' b' c', v = .agg #[a', b', c'] ∧ TV w' (New w w') (a', b', c') (ext (apS by_) t) ∧ Upd No w w' := by
  intro N
  induction N with
  | zero =>
    intro F w a b c t hN
    have := sz_pos t
    omega
  | succ N ih =>
    intro F w a b c t hN ht hvs
    replace ht := ht.bound
    obtain ⟨m, A0, k0, xk, rfl, rfl, rfl, hm, hr, hl, hb, hk⟩ := ht.open
    have hks : TVs w (fun k => F k ∧ k < w.heap.size) xk t.kids := ⟨hl, hk⟩
    refine enterRet (vs := [_, _]) (N := 39) Try.func15 rfl rfl rfl ?_
    have hU := Upd.refl No w
    refine WC.keep [(0, _), (1, _)] ⟨rfl, rfl, trivial⟩ ?_
    refine WC.seq ?_
    refine WC.region ?_
    refine WL.cons (SO.alloc rfl rfl rfl rfl (r_boxAgg rfl (ev_t rfl)) ?_)
    intro w1 hu1 hB1 hz1
    have hs1 := hu1.size
    replace hU := hU.trans hu1 (by exact (fun _ _ h => h))
    replace hr := hr.upd hu1 (fun k hk hl hS => by exact (show False from hS).elim)
    replace hks := hks.upd hu1 (fun k hk hl hS => by exact (show False from hS).elim)
    refine WL.cons (SO.alloc rfl rfl rfl rfl (r_alloc rfl zero_28) ?_)
    intro w2 hu2 hB2 hz2
    have hs2 := hu2.size
    replace hU := hU.trans hu2 (by exact (fun _ _ h => h))
    replace hr := hr.upd hu2 (fun k hk hl hS => by exact (show False from hS).elim)
    replace hks := hks.upd hu2 (fun k hk hl hS => by exact (show False from hS).elim)
    replace hB1 := hB1.updA hu2
    refine WL.nil ?_
    refine WX.keep [(1, _), (2, _), (4, _)] ⟨rfl, rfl, rfl, trivial⟩ ?_
    refine WX.next ?_
    refine WC.seq ?_
    refine WC.seq ?_
    refine WC.region ?_
    first | refine WL.val rfl rfl rfl rfl (r_field0 rfl (ev_t rfl) fld_28_0) ?_ | refine WL.val rfl rfl rfl rfl (r_fieldAt rfl (ev_t rfl) fld_28_0) ?_
    refine WL.val rfl rfl rfl rfl (r_load rfl (ev_t rfl) flat_9 (Blk.cell hB1 rfl)) ?_
    refine WL.val rfl rfl rfl rfl (r_eqlStrL rfl (ev_t rfl) ev_c) ?_
    refine WL.nil ?_
    refine WX.keep [(1, _), (2, _), (4, _), (9, _)] ⟨rfl, rfl, rfl, rfl, trivial⟩ ?_
    refine WX.next ?_
    refine WC.cond rfl (ev_t rfl) (fun hc1 => ?_) (fun hc1 => ?_)
    · try (exfalso; first | (simp at hc1; done) | (simp only [decide_eq_true_eq, decide_eq_false_iff_not, Bool.not_eq_true', Bool.not_eq_false', Bool.not_eq_true, Bool.not_eq_false] at hc1; omega) | omega)
      all_goals
       try simp only [decide_eq_true_eq, decide_eq_false_iff_not, Bool.not_eq_true', Bool.not_eq_false', Bool.not_eq_true, Bool.not_eq_false, Option.isNone_none, Option.isNone_some, Option.isSome_none, Option.isSome_some, ne_eq, Decidable.not_not] at hc1
       obtain ⟨x, rfl⟩ := Ty.nm_nil.1 hc1
       obtain rfl := (hm x rfl).symm
       have hx := hvs x (by rw [vars_v]; simp)
       have hx8 : x % 8 < 8 ∧ 0 ≤ x % 8 := ⟨Int.emod_lt_of_pos _ (by omega), Int.emod_nonneg _ (by omega)⟩
       refine WC.seq ?_
       refine WC.region ?_
       first | refine WL.val rfl rfl rfl rfl (r_field0 rfl (ev_t rfl) fld_28_1) ?_ | refine WL.val rfl rfl rfl rfl (r_fieldAt rfl (ev_t rfl) fld_28_1) ?_
       refine WL.val rfl rfl rfl rfl (r_load rfl (ev_t rfl) flat_3 (Blk.cell hB1 rfl)) ?_
       first | refine WL.val rfl rfl rfl rfl (r_remN rfl (ev_t rfl) ev_c (by omega) (by omega)) ?_ | refine WL.val rfl rfl rfl rfl (r_rem rfl (ev_t rfl) ev_c (by omega)) ?_
       refine WL.val rfl rfl rfl rfl (r_move rfl (ev_t rfl)) ?_
       first | refine WL.val rfl rfl rfl rfl (r_addN rfl (ev_t rfl) (ev_t rfl) (by simp only [inK]; omega)) ?_ | refine WL.val rfl rfl rfl rfl (r_add rfl (ev_t rfl) (ev_t rfl)) ?_
       refine WL.val rfl rfl rfl rfl (r_build (cs := #[_, _, _]) (vs := [(1, _)]) rfl ⟨⟨rfl, (ev_t rfl)⟩, trivial⟩ plc_28 zero_28 rfl) ?_
       refine WL.cons (SO.storeAll (us := [_, _, _]) rfl (ev_t rfl) (ev_t rfl) size_28 hB2 rfl rfl rfl rfl rfl ?_)
       intro w3 hu3 hB2 hz3
       have hs3 := hu3.size
       replace hU := hU.trans hu3 (by (intro k hl hk; (try simp only [At, New, Grow, From, No] at hk ⊢); omega))
       replace hr := hr.upd hu3 (fun k hk hl hS => by (simp only [At] at hS; omega))
       replace hks := hks.upd hu3 (fun k hk hl hS => by (simp only [At] at hS; omega))
       replace hB1 := hB1.updA hu3
       refine WL.nil ?_
       refine WX.keep [(4, _)] ⟨rfl, trivial⟩ ?_
       refine WX.next ?_
       refine WC.ret ?_
       refine WX.thenRet ?_
       refine WX.retC (vs := [_, _, _]) rfl rfl agg_28 size_28 (Blk.cellsL hB2) ?_
       refine ⟨_, _, _, rfl, ?_, hU⟩
       rw [ext_v]
       exact TV.nil _
    · try (exfalso; first | (simp at hc1; done) | (simp only [decide_eq_true_eq, decide_eq_false_iff_not, Bool.not_eq_true', Bool.not_eq_false', Bool.not_eq_true, Bool.not_eq_false] at hc1; omega) | omega)
      all_goals
       try simp only [decide_eq_true_eq, decide_eq_false_iff_not, Bool.not_eq_true', Bool.not_eq_false', Bool.not_eq_true, Bool.not_eq_false, Option.isNone_none, Option.isNone_some, Option.isSome_none, Option.isSome_some, ne_eq, Decidable.not_not] at hc1
       obtain ⟨f, ks, rfl⟩ := nm_c hc1
       refine WC.skip ?_
       refine WX.next ?_
       refine WC.seq ?_
       refine WC.region ?_
       first | refine WL.val rfl rfl rfl rfl (r_field0 rfl (ev_t rfl) fld_28_0) ?_ | refine WL.val rfl rfl rfl rfl (r_fieldAt rfl (ev_t rfl) fld_28_0) ?_
       refine WL.val rfl rfl rfl rfl (r_load rfl (ev_t rfl) flat_9 (Blk.cell hB1 rfl)) ?_
       refine WL.val rfl rfl rfl rfl (r_build (cs := #[_, _, _]) (vs := [(0, _)]) rfl ⟨⟨rfl, (ev_t rfl)⟩, trivial⟩ plc_28 zero_28 rfl) ?_
       refine WL.cons (SO.alloc rfl rfl rfl rfl (r_alloc rfl zero_28) ?_)
       intro w4 hu4 hB4 hz4
       have hs4 := hu4.size
       replace hU := hU.trans hu4 (by exact (fun _ _ h => h))
       replace hr := hr.upd hu4 (fun k hk hl hS => by exact (show False from hS).elim)
       replace hks := hks.upd hu4 (fun k hk hl hS => by exact (show False from hS).elim)
       replace hB1 := hB1.updA hu4
       replace hB2 := hB2.upd hu4 (by exact (fun h => h))
       refine WL.cons (SO.storeAll (us := [_, _, _]) rfl (ev_t rfl) (ev_t rfl) size_28 hB4 rfl rfl rfl rfl rfl ?_)
       intro w5 hu5 hB4 hz5
       have hs5 := hu5.size
       replace hU := hU.trans hu5 (by (intro k hl hk; (try simp only [At, New, Grow, From, No] at hk ⊢); omega))
       replace hr := hr.upd hu5 (fun k hk hl hS => by (simp only [At] at hS; omega))
       replace hks := hks.upd hu5 (fun k hk hl hS => by (simp only [At] at hS; omega))
       replace hB1 := hB1.updA hu5
       replace hB2 := hB2.upd hu5 (by (simp only [At]; omega))
       refine WL.nil ?_
       refine WX.keep [(1, _), (2, _), (4, _), (5, _)] ⟨rfl, rfl, rfl, rfl, trivial⟩ ?_
       refine WX.next ?_
       refine WC.seq ?_
       refine WC.seq ?_
       refine WC.region ?_
       refine WL.val rfl rfl rfl rfl (r_assign rfl ev_c) ?_
       refine WL.nil ?_
       refine WX.keep [(1, _), (2, _), (4, _), (5, _), (6, _)] ⟨rfl, rfl, rfl, rfl, rfl, trivial⟩ ?_
       refine WX.next ?_
       refine WC.block ?_
       -- loop 1: live [1, 2, 4, 5, 6]
       refine WC.keep [(1, _), (2, _), (4, _), (5, _), (6, _)] ⟨rfl, rfl, rfl, rfl, rfl, trivial⟩ ?_
       refine WC.loop (fun q E w' => ∃ (i : Nat) (A5 : Option Addr) (c5 : Nat) (ys : List C3) (G T : Nat → Prop), i ≤ ks.length ∧ q = ks.length - i ∧ Upd No w w' ∧ w4.heap.size ≤ w'.heap.size ∧ Rd w' (fun k => F k ∧ k < w.heap.size) (.slice A0 ks.length k0) ks.length 3 (xk.flatMap c3) ∧ TVs w' (fun k => F k ∧ k < w.heap.size) xk ks ∧   Blk w' w.heap.size #[.string ⟨f.1.toArray⟩, .int .i64 m, .slice A0 ks.length k0] typ ∧ Blk w' w1.heap.size #[.string ⟨#[]⟩, .int .i64 0, .slice none 0 0] typ ∧ Blk w' w2.heap.size #[.string ⟨f.1.toArray⟩, .int .i64 0, .slice A5 i c5] typ ∧ Own w' G typ 3 (.slice A5 i c5) i (ys.flatMap c3) ∧ TVs w' T ys ((ks.take i).map (ext (apS by_))) ∧ (∀ k, G k → w4.heap.size ≤ k ∧ k < w'.heap.size) ∧ (∀ k, T k → w4.heap.size ≤ k ∧ k < w'.heap.size ∧ ¬ G k) ∧   E = [(1, .int .i64 by_), (2, .pointer (some ⟨w.heap.size, 0, none⟩)), (4, .pointer (some ⟨w1.heap.size, 0, none⟩)), (5, .pointer (some ⟨w2.heap.size, 0, none⟩)), (6, .int .i64 (i : Int))]) (ks.length) ?_ ?_
       · exact ⟨0, none, 0, [], fun _ => False, fun _ => False, by omega, by omega, hU, by omega, hr, hks, hB1, hB2, hB4, Own.nil _ _ _ _, TVs.nil _ _, fun k h => h.elim, fun k h => h.elim, rfl⟩
       · clear hU hr hks hB1 hB2
         rintro q E w' ⟨i, A5, c5, ys, G, T, hi, rfl, hU, hws, hr, hks, hb2, hB2, hb5, ho, hys, hG, hT, rfl⟩
         have hs0 := hU.size
         simp only [Ty.kids] at hb
         refine WC.seq ?_
         refine WC.seq ?_
         refine WC.region ?_
         refine WL.val rfl rfl rfl rfl (r_move rfl (ev_t rfl)) ?_
         first | refine WL.val rfl rfl rfl rfl (r_field0 rfl (ev_t rfl) fld_28_2) ?_ | refine WL.val rfl rfl rfl rfl (r_fieldAt rfl (ev_t rfl) fld_28_2) ?_
         refine WL.val rfl rfl rfl rfl (r_load rfl (ev_t rfl) flat_26 (Blk.cell hb2 rfl)) ?_
         refine WL.val rfl rfl rfl rfl (r_lenSlice (ts := #[]) rfl (ev_t rfl) elem_26) ?_
         refine WL.val rfl rfl rfl rfl (r_lss rfl (ev_t rfl) (ev_t rfl)) ?_
         refine WL.nil ?_
         refine WX.keep [(1, _), (2, _), (4, _), (5, _), (6, _), (23, _)] ⟨rfl, rfl, rfl, rfl, rfl, rfl, trivial⟩ ?_
         refine WX.next ?_
         refine WC.cond rfl (ev_t rfl) (fun hc5 => ?_) (fun hc5 => ?_)
         · try (exfalso; first | (simp at hc5; done) | (simp only [decide_eq_true_eq, decide_eq_false_iff_not, Bool.not_eq_true', Bool.not_eq_false', Bool.not_eq_true, Bool.not_eq_false] at hc5; omega) | omega)
           all_goals
            try simp only [decide_eq_true_eq, decide_eq_false_iff_not, Bool.not_eq_true', Bool.not_eq_false', Bool.not_eq_true, Bool.not_eq_false, Option.isNone_none, Option.isNone_some, Option.isSome_none, Option.isSome_some, ne_eq, Decidable.not_not] at hc5
            have hi' : i < ks.length := by omega
            obtain ⟨b0, off, rfl, _⟩ := hr.open (by omega)
            have hlx : i < xk.length := by have := hks.1; omega
            have hxi : xk[i]? = some xk[i] := List.getElem?_eq_getElem hlx
            have hki : ks[i]? = some ks[i] := List.getElem?_eq_getElem hi'
            have htk := hks.2 i _ _ hxi hki
            have htake := take_map_snoc (f := ext (apS by_)) hi'
            have hkl := sz_kid (n := f) (List.getElem_mem hi')
            have hkv : ∀ x ∈ vars ks[i], 0 ≤ x ∧ x ≤ 1000 := fun x hx => hvs x (mem_vars_c.2 ⟨_, List.getElem_mem hi', hx⟩)
            generalize xk[i] = ck at *
            generalize ks[i] = kk at *
            obtain ⟨ca, cb, cc⟩ := ck
            refine WC.skip ?_
            refine WX.next ?_
            refine WC.seq ?_
            refine WC.block ?_
            refine WC.draws' (fun u0_ u1_ => Upd No u0_ u1_) (fun j => [0, 0, 0, 1, 0, 0, 1, 0, 1, 1, 2, 0, 2].getD j 0) (.calm 0 (.calm 2 (.calm 4 (.calm 7 (.held 1 (.one 3 (.calm 5 (.one 6 (.one 8 (.one 9 (.one 10 (.calm 11 (.one 12 (.done)))))))))))))) mixed (by kernel_rfl) (by repeat (first | with_reducible exact Deaf.body | with_reducible apply Deaf.then | with_reducible apply Deaf.block)) ?_
            intro w6 hu6
            have hz6 := congrArg Array.size hu6.2.2.2
            replace hu6 := Upd.of_draw hu6
            have hs6 := hu6.size
            replace hU := hU.trans hu6 (by exact (fun _ _ h => h))
            replace hr := hr.upd hu6 (fun k hk hl hS => by exact (show False from hS).elim)
            replace hks := hks.upd hu6 (fun k hk hl hS => by exact (show False from hS).elim)
            replace hb2 := hb2.upd hu6 (by exact (fun h => h))
            replace hB2 := hB2.upd hu6 (by exact (fun h => h))
            replace hb5 := hb5.upd hu6 (by exact (fun h => h))
            replace ho := ho.upd hu6 (fun k hk hl hS => by exact (show False from hS).elim)
            replace hys := hys.upd hu6 (fun k hk hl hS => by have := hT k hk; exact (show False from hS).elim)
            replace htk := htk.upd hu6 (fun k hk hl hS => by exact (show False from hS).elim)
            have hS7 := Upd.refl No w6
            first | refine WN.calm _ rfl rfl rfl rfl rfl (fun _ => r_field0 rfl (ev_t rfl) fld_28_2) ?_ | refine WN.calm _ rfl rfl rfl rfl rfl (fun _ => r_fieldAt rfl (ev_t rfl) fld_28_2) ?_
            first | refine WN.calm _ rfl rfl rfl rfl rfl (fun _ => r_field0 rfl (ev_t rfl) fld_28_2) ?_ | refine WN.calm _ rfl rfl rfl rfl rfl (fun _ => r_fieldAt rfl (ev_t rfl) fld_28_2) ?_
            refine WN.calm _ rfl rfl rfl rfl rfl (fun _ => r_move rfl (ev_t rfl)) ?_
            refine WN.calm _ rfl rfl rfl rfl rfl (fun _ => r_move rfl (ev_t rfl)) ?_
            refine WN.held _ rfl rfl rfl rfl rfl hS7 (fun w' hS => r_load rfl (ev_t rfl) flat_26 (Blk.cell (hb5.upd hS (fun h => h)) rfl)) ?_
            refine WN.step _ rfl (SO.val rfl rfl rfl rfl (r_load rfl (ev_t rfl) flat_26 (Blk.cell hb2 rfl)) ?_)
            refine ⟨hS7, ?_⟩
            refine WN.calm _ rfl rfl rfl rfl rfl (fun _ => r_indexAddr rfl (ev_t rfl) (ev_t rfl) elem_26 size_28 (by omega) (by omega)) ?_
            refine WN.step _ rfl (SO.val rfl rfl rfl rfl (r_loadAgg (vs := [_, _, _]) rfl (ev_t rfl) agg_28 size_28 (kid_cells hr hxi rfl)) ?_)
            refine ⟨hS7, ?_⟩
            refine WN.step _ rfl (SO.call (ih _ _ _ _ _ kk (by omega) htk hkv) rfl body_15 ⟨(ev_t rfl), (ev_t rfl), trivial⟩ rfl rfl rfl rfl ?_)
            rintro v w7 ⟨a8, b8, c8, rfl, ht8, hu7⟩
            obtain ⟨m8, A8, k8, xk8, rfl, rfl, rfl, _⟩ := ht8.open
            have hs8 := hu7.size
            have hs7 := hu7.size
            replace hS7 := Upd.transA hS7 hu7
            replace hU := hU.trans hu7 (by exact (fun _ _ h => h))
            replace hr := hr.upd hu7 (fun k hk hl hS => by exact (show False from hS).elim)
            replace hks := hks.upd hu7 (fun k hk hl hS => by exact (show False from hS).elim)
            replace hb2 := hb2.upd hu7 (by exact (fun h => h))
            replace hB2 := hB2.upd hu7 (by exact (fun h => h))
            replace hb5 := hb5.upd hu7 (by exact (fun h => h))
            replace ho := ho.upd hu7 (fun k hk hl hS => by exact (show False from hS).elim)
            replace hys := hys.upd hu7 (fun k hk hl hS => by have := hT k hk; exact (show False from hS).elim)
            replace htk := htk.upd hu7 (fun k hk hl hS => by exact (show False from hS).elim)
            have hys2 := (hys.mono (F' := fun k => T k ∨ New w6 w7 k) (fun k h => .inl h)).snoc (ht8.mono (F' := fun k => T k ∨ New w6 w7 k) (fun k h => .inr h))
            rw [← htake] at hys2
            refine ⟨hS7, ?_⟩
            refine WN.step _ rfl (SO.alloc rfl rfl rfl rfl (r_buildSlice (cs := #[_, _, _]) (vs := [(0, _)]) rfl ⟨⟨rfl, (ev_t rfl)⟩, trivial⟩ row_26 rfl rfl) ?_)
            intro w8 hu8 hB8 hz8
            have hs8 := hu8.size
            replace hS7 := Upd.transA hS7 hu8
            replace hU := hU.trans hu8 (by exact (fun _ _ h => h))
            replace hr := hr.upd hu8 (fun k hk hl hS => by exact (show False from hS).elim)
            replace hks := hks.upd hu8 (fun k hk hl hS => by exact (show False from hS).elim)
            replace hb2 := hb2.upd hu8 (by exact (fun h => h))
            replace hB2 := hB2.upd hu8 (by exact (fun h => h))
            replace hb5 := hb5.upd hu8 (by exact (fun h => h))
            replace ho := ho.upd hu8 (fun k hk hl hS => by exact (show False from hS).elim)
            replace hys2 := hys2.upd hu8 (fun k hk hl hS => by exact (show False from hS).elim)
            refine ⟨hS7, ?_⟩
            refine WN.step _ rfl (SO.append ho (show Rd _ _ _ 1 3 [Value.string ⟨(ext (apS by_) kk).nm.toArray⟩, .int .i64 m8, .slice A8 (ext (apS by_) kk).kids.length k8] from rd_one hB8) row_26 one_c3 (le_maxLen (by omega)) (by omega) rfl (ev_t rfl) (ev_t rfl) rfl rfl rfl rfl ?_)
            intro v9 w9 ho hu9
            have hs9 := hu9.size
            try replace hS7 := Upd.transA hS7 hu9
            replace hU := hU.trans hu9 (by (intro k hl hk; have := hG k hk; omega))
            replace hr := hr.upd hu9 (fun k hk hl hS => by (have := hG k hS; omega))
            replace hks := hks.upd hu9 (fun k hk hl hS => by (have := hG k hS; omega))
            replace hb2 := hb2.upd hu9 (by (intro hS; have := hG _ hS; omega))
            replace hB2 := hB2.upd hu9 (by (intro hS; have := hG _ hS; omega))
            replace hb5 := hb5.upd hu9 (by (intro hS; have := hG _ hS; omega))
            replace hys2 := hys2.upd hu9 (fun k hk hl hS => by (rcases hk with hk | hk <;> first | exact (hT k hk).2.2 hS | (have := hT k hk; simp only [At] at hS; omega) | (simp only [New] at hk; have := hG k hS; omega) | (simp only [New, At] at *; omega)))
            refine ⟨trivial, ?_⟩
            obtain ⟨A9, c9, rfl, hc9⟩ := Own.form ho
            rw [← flat_snoc] at ho
            first | refine WN.calm _ rfl rfl rfl rfl rfl (fun _ => r_field0 rfl (ev_t rfl) fld_28_2) ?_ | refine WN.calm _ rfl rfl rfl rfl rfl (fun _ => r_fieldAt rfl (ev_t rfl) fld_28_2) ?_
            refine WN.step _ rfl (SO.store rfl (ev_t rfl) (ev_t rfl) size_26 hb5 rfl rfl rfl rfl rfl ?_)
            intro w10 hu10 hb5 hz10
            have hs10 := hu10.size
            try replace hS7 := Upd.transA hS7 hu10
            replace hU := hU.trans hu10 (by (intro k hl hk; (try simp only [At, New, Grow, From, No] at hk ⊢); omega))
            replace hr := hr.upd hu10 (fun k hk hl hS => by (simp only [At] at hS; omega))
            replace hks := hks.upd hu10 (fun k hk hl hS => by (simp only [At] at hS; omega))
            replace hb2 := hb2.upd hu10 (by (simp only [At]; omega))
            replace hB2 := hB2.upd hu10 (by (simp only [At]; omega))
            replace ho := ho.upd hu10 (fun k hk hl hS => by (simp only [At] at hS; first | (have := hG k hk; omega) | (rcases hk with hk | hk <;> first | (have := hG k hk; omega) | omega)))
            replace hys2 := hys2.upd hu10 (fun k hk hl hS => by (rcases hk with hk | hk <;> first | exact (hT k hk).2.2 hS | (have := hT k hk; simp only [At] at hS; omega) | (simp only [New] at hk; have := hG k hS; omega) | (simp only [New, At] at *; omega)))
            refine ⟨trivial, ?_⟩
            refine WN.done ?_
            refine WX.keep [(1, _), (2, _), (4, _), (5, _), (6, _)] ⟨rfl, rfl, rfl, rfl, rfl, trivial⟩ ?_
            refine WX.blockNormal ?_
            refine WX.next ?_
            refine WC.region ?_
            refine WL.val rfl rfl rfl rfl (r_move rfl (ev_t rfl)) ?_
            first | refine WL.val rfl rfl rfl rfl (r_addN rfl (ev_t rfl) ev_c (by simp only [inK]; omega)) ?_ | refine WL.val rfl rfl rfl rfl (r_add rfl (ev_t rfl) ev_c) ?_
            refine WL.val rfl rfl rfl rfl (r_assign rfl (ev_t rfl)) ?_
            refine WL.nil ?_
            refine WX.keep [(1, _), (2, _), (4, _), (5, _), (6, _)] ⟨rfl, rfl, rfl, rfl, rfl, trivial⟩ ?_
            refine WX.meet [(1, _), (2, _), (4, _), (5, _), (6, _)] ⟨rfl, rfl, rfl, rfl, rfl, trivial⟩ ?_
            refine ⟨ks.length - (i + 1), by omega, i + 1, _, _, _, _, _, by omega, rfl, hU, by omega, hr, hks, hb2, hB2, hb5, ho, hys2, fun k hk => ?_, fun k hk => ?_, by simp⟩
            · rcases hk with hk | hk
              · have := hG k hk; omega
              · omega
            · rcases hk with hk | hk
              · have h9 := hT k hk
                refine ⟨by omega, by omega, fun h => ?_⟩
                rcases h with h | h
                · exact h9.2.2 h
                · omega
              · simp only [New] at hk
                refine ⟨by omega, by omega, fun h => ?_⟩
                rcases h with h | h
                · have := hG k h; omega
                · omega
         · try (exfalso; first | (simp at hc5; done) | (simp only [decide_eq_true_eq, decide_eq_false_iff_not, Bool.not_eq_true', Bool.not_eq_false', Bool.not_eq_true, Bool.not_eq_false] at hc5; omega) | omega)
           all_goals
            try simp only [decide_eq_true_eq, decide_eq_false_iff_not, Bool.not_eq_true', Bool.not_eq_false', Bool.not_eq_true, Bool.not_eq_false, Option.isNone_none, Option.isNone_some, Option.isSome_none, Option.isSome_some, ne_eq, Decidable.not_not] at hc5
            refine WC.exit ?_
            refine WX.thenExit ?_
            refine WX.thenExit ?_
            refine WX.blockHere ?_
            refine WX.next ?_
            refine WC.seq ?_
            refine WC.region ?_
            refine WL.val rfl rfl rfl rfl (r_loadAgg (vs := [_, _, _]) rfl (ev_t rfl) agg_28 size_28 (Blk.cellsL hb5)) ?_
            refine WL.cons (SO.storeAll (us := [_, _, _]) rfl (ev_t rfl) (ev_t rfl) size_28 hB2 rfl rfl rfl rfl rfl ?_)
            intro w11 hu11 hB2 hz11
            have hs11 := hu11.size
            replace hU := hU.trans hu11 (by (intro k hl hk; (try simp only [At, New, Grow, From, No] at hk ⊢); omega))
            replace hr := hr.upd hu11 (fun k hk hl hS => by (simp only [At] at hS; omega))
            replace hks := hks.upd hu11 (fun k hk hl hS => by (simp only [At] at hS; omega))
            replace hb2 := hb2.upd hu11 (by (simp only [At]; omega))
            replace hb5 := hb5.upd hu11 (by (simp only [At]; omega))
            replace ho := ho.upd hu11 (fun k hk hl hS => by (simp only [At] at hS; first | (have := hG k hk; omega) | (rcases hk with hk | hk <;> first | (have := hG k hk; omega) | omega)))
            replace hys := hys.upd hu11 (fun k hk hl hS => by have := hT k hk; (simp only [At] at hS; omega))
            refine WL.nil ?_
            refine WX.keep [(4, _)] ⟨rfl, trivial⟩ ?_
            refine WX.next ?_
            refine WC.ret ?_
            refine WX.retC (vs := [_, _, _]) rfl rfl agg_28 size_28 (Blk.cellsL hB2) ?_
            obtain rfl : i = ks.length := by omega
            rw [List.take_of_length_le (Nat.le_refl _)] at hys
            refine ⟨_, _, _, rfl, ?_, hU⟩
            rw [ext_c]
            refine TV.kids (t := .c f (ks.map (ext (apS by_)))) (xs := ys) (fun x e => by cases e) ?_ (by simpa [Ty.kids] using hb) (hys.mono fun k hk => by have := hT k hk; simp only [New]; omega)
            simp only [Ty.kids, List.length_map]
            exact (ho.rd (by omega)).mono fun k hk => by have := hG k hk; simp only [New]; omega
end Go.Proofs.Ytncakfcafkfmfaa

/-
  law 06, the plain part: the document's example; a ring; what is most general; once more. No program in sight.
-/
namespace Go.Proofs.Ytncakfcafkfmfaa
open Go
set_option linter.unusedSimpArgs false
set_option linter.unusedVariables false

def nArrow : Nm := ⟨[45, 62], by decide⟩
def nInt : Nm := ⟨[105, 110, 116], by decide⟩
def nBool : Nm := ⟨[98, 111, 111, 108], by decide⟩
def nList : Nm := ⟨[108, 105, 115, 116], by decide⟩
def nRef : Nm := ⟨[114, 101, 102], by decide⟩
theorem Good.nil (U : List Int) : Good U [] := ⟨.nil, fun x u h => by cases h⟩
theorem Sol.nil (τ : Int → Ty) : Sol τ [] := fun x u h => by cases h

theorem awake_un : ∃ σ' D' N, unF N [] [] (.c nArrow [.v 1, .c nInt []]) (.c nArrow [.c nBool [], .v 2]) = some (true, σ', D') ∧ WF σ' ∧ th σ' 1 = .c nBool [] ∧ th σ' 2 = .c nInt [] := by
  obtain ⟨r, σ', D', N, hN, R⟩ := Good.un (U := [1, 2]) (by decide) (Good.nil _) (D := []) (fun p hp => by cases hp) (a := .c nArrow [.v 1, .c nInt []]) (b := .c nArrow [.c nBool [], .v 2])
    (fun y hy => by simp [vars_c, vars_v] at hy; simp [hy]) (fun y hy => by simp [vars_c, vars_v] at hy; simp [hy])
  obtain ⟨h1, _⟩ := R.gen (fun x => if x = 1 then .c nBool [] else .c nInt []) (Sol.nil _) (by simp [ext_c, ext_v])
  have h2 := R.eq h1
  simp only [List.map_cons, List.map_nil, ext_c, ext_v, List.cons.injEq, Ty.c.injEq, and_true, true_and] at h2
  exact ⟨σ', D', N, h1 ▸ hN N (Nat.le_refl _), R.good.wf, h2.1, h2.2.symm⟩

/-! ### rings -/
/-- list of list of .. of a variable -/
def lists : Nat → Ty → Ty
  | 0, t => t
  | n + 1, t => .c nList [lists n t]
theorem sz_lists (n : Nat) (t : Ty) : sz (lists n t) = n + sz t := by
  induction n with
  | zero => simp [lists]
  | succ n ih => simp only [lists, sz_c, List.map_cons, List.map_nil, List.sum_cons, List.sum_nil, ih]; omega
/-- variables up to k, each a list of the next one -/
def upto (k : Nat) : List Int := (List.range (k + 1)).map fun (i : Nat) => (i : Int)
theorem mem_upto {k : Nat} {x : Int} : x ∈ upto k ↔ 0 ≤ x ∧ x ≤ k := by
  simp only [upto, List.mem_map, List.mem_range]
  constructor
  · rintro ⟨i, hi, rfl⟩; omega
  · intro h; exact ⟨x.toNat, by omega, by omega⟩
/-- what the variables stand for at the end -/
def ringS (k : Nat) : Int → Ty := fun x => if 1 ≤ x ∧ x ≤ k then lists (k - x.toNat) (.v k) else .v x
structure Ring (k : Nat) (i : Nat) (σ : Sg) (D : Dn) : Prop where
  good : Good (upto 20) σ
  done : ∀ p ∈ D, th σ p.1 = th σ p.2
  sol : Sol (ringS k) σ
  eqs : ∀ j : Nat, 1 ≤ j → j < i → th σ (j : Int) = .c nList [th σ ((j : Int) + 1)]
theorem Ring.start (k : Nat) : Ring k 1 [] [] := ⟨Good.nil _, fun p h => (by cases h), Sol.nil _, fun j h1 h2 => by omega⟩
theorem Ring.next {k i : Nat} {σ : Sg} {D : Dn} (h : Ring k i σ D) (h1 : 1 ≤ i) (h2 : i < k) (hk : k ≤ 20) :
    ∃ σ' D' N, unF N σ D (.v (i : Int)) (.c nList [.v ((i : Int) + 1)]) = some (true, σ', D') ∧ Ring k (i + 1) σ' D' := by
  obtain ⟨r, σ', D', N, hN, R⟩ := Good.un (U := upto 20) (by decide) h.good h.done (a := .v (i : Int)) (b := .c nList [.v ((i : Int) + 1)])
    (fun y hy => by simp [vars_v] at hy; rw [mem_upto]; omega) (fun y hy => by simp [vars_c, vars_v] at hy; rw [mem_upto]; omega)
  obtain ⟨e1, e2⟩ := R.gen (ringS k) h.sol (by
    have ha : (1 : Int) ≤ i ∧ (i : Int) ≤ k := by omega
    have hb : (1 : Int) ≤ (i : Int) + 1 ∧ (i : Int) + 1 ≤ k := by omega
    simp only [List.map_cons, List.map_nil, ext_v, ext_c, ringS, ha, hb, and_self, if_true, List.cons.injEq, and_true]
    have e : k - (i : Int).toNat = (k - ((i : Int) + 1).toNat) + 1 := by omega
    rw [e]
    rfl)
  have e3 := R.eq e1
  simp only [List.map_cons, List.map_nil, ext_c, ext_v, List.cons.injEq, and_true] at e3
  have hs : Sol (th σ') σ := R.good.wf.sol.sub R.sub
  have up : ∀ {a b : Ty}, ext (th σ) a = ext (th σ) b → ext (th σ') a = ext (th σ') b := fun h' => eq_th_of_sol h.good.wf hs h'
  refine ⟨σ', D', N, e1 ▸ hN N (Nat.le_refl _), R.good, fun p hp => ?_, e2, fun j h3 h4 => ?_⟩
  · rcases R.done e1 p hp with h' | h'
    · have := up (a := .v p.1) (b := .v p.2) (by rw [ext_v, ext_v]; exact h.done p h')
      simpa only [ext_v] using this
    · exact h'
  · by_cases hj : j = i
    · subst hj; exact e3
    · have h5 := h.eqs j h3 (by omega)
      have := up (a := .v (j : Int)) (b := .c nList [.v ((j : Int) + 1)]) (by simp only [ext_v, ext_c, List.map_cons, List.map_nil]; exact h5)
      simpa only [ext_v, ext_c, List.map_cons, List.map_nil] using this
theorem Ring.last {k : Nat} {σ : Sg} {D : Dn} (h : Ring k k σ D) (h1 : 1 ≤ k) (hk : k ≤ 20) :
    ∃ σ' D' N, unF N σ D (.v (k : Int)) (.v (k : Int)) = some (true, σ', D') ∧ ∃ σ2 D2 N2, unF N2 σ' D' (.v (k : Int)) (.c nRef [.v 1]) = some (false, σ2, D2) := by
  obtain ⟨r, σ', D', N, hN, R⟩ := Good.un (U := upto 20) (by decide) h.good h.done (a := .v (k : Int)) (b := .v (k : Int))
    (fun y hy => by simp [vars_v] at hy; rw [mem_upto]; omega) (fun y hy => by simp [vars_v] at hy; rw [mem_upto]; omega)
  obtain ⟨e1, e2⟩ := R.same rfl
  subst e1 e2
  have hd : ∀ p ∈ D', th σ' p.1 = th σ' p.2 := fun p hp => by
    rcases R.done rfl p hp with h' | h'
    · exact h.done p h'
    · exact h'
  obtain ⟨r2, σ2, D2, N2, hN2, R2⟩ := Good.un (U := upto 20) (by decide) h.good hd (a := .v (k : Int)) (b := .c nRef [.v 1])
    (fun y hy => by simp [vars_v] at hy; rw [mem_upto]; omega) (fun y hy => by simp [vars_c, vars_v] at hy; rw [mem_upto]; omega)
  refine ⟨σ', D', N, hN N (Nat.le_refl _), σ2, D2, N2, ?_⟩
  cases r2 with
  | false => exact hN2 N2 (Nat.le_refl _)
  | true =>
    exfalso
    have e3 := R2.eq rfl
    simp only [List.map_cons, List.map_nil, ext_c, ext_v, List.cons.injEq, and_true] at e3
    have hs : Sol (th σ2) σ' := R2.good.wf.sol.sub R2.sub
    have hj : ∀ d : Nat, d < k → th σ2 ((k - d : Nat) : Int) = lists d (th σ2 (k : Int)) := by
      intro d
      induction d with
      | zero => intro _; rfl
      | succ d ih =>
        intro hd'
        have h5 := h.eqs (k - (d + 1)) (by omega) (by omega)
        have := eq_th_of_sol (a := .v ((k - (d + 1) : Nat) : Int)) (b := .c nList [.v (((k - (d + 1) : Nat) : Int) + 1)]) h.good.wf hs (by simp only [ext_v, ext_c, List.map_cons, List.map_nil]; exact h5)
        simp only [ext_v, ext_c, List.map_cons, List.map_nil] at this
        rw [this]
        have e : ((k - (d + 1) : Nat) : Int) + 1 = ((k - d : Nat) : Int) := by omega
        rw [e, ih (by omega)]
        rfl
    have h6 := hj (k - 1) (by omega)
    have e : ((k - (k - 1) : Nat) : Int) = 1 := by omega
    rw [e] at h6
    rw [h6] at e3
    have h7 := congrArg sz e3
    simp only [sz_c, List.map_cons, List.map_nil, List.sum_cons, List.sum_nil, sz_lists] at h7
    omega

/-! ### once, and again -/
theorem Good.vars {U : List Int} {σ : Sg} (g : Good U σ) {t : Ty} (ht : ∀ y ∈ vars t, y ∈ U) : ∀ y ∈ vars (ext (th σ) t), y ∈ U := by
  obtain ⟨W, hW⟩ := g.wf.rank
  have key : ∀ m z, W z < m → z ∈ U → ∀ y ∈ Go.Proofs.Ytncakfcafkfmfaa.vars (th σ z), y ∈ U := by
    intro m
    induction m with
    | zero => intro z hz; omega
    | succ m ih =>
      intro z hz hU y hy
      cases hl : look σ z with
      | none => rw [g.wf.unb hl, vars_v] at hy; simp at hy; subst hy; exact hU
      | some u =>
        rw [g.wf.bnd hl] at hy
        obtain ⟨x, hx, hy⟩ := mem_vars_ext.1 hy
        exact ih x (by have := hW z u hl x hx; omega) ((g.inU z u hl).2 x hx) y hy
  intro y hy
  obtain ⟨z, hz, hy⟩ := mem_vars_ext.1 hy
  exact key _ z (Nat.lt_succ_self _) (ht z hz) y hy
/-- a state in which all pairs are one -/
structure Fine (U : List Int) (σ : Sg) (D : Dn) : Prop where
  good : Good U σ
  done : ∀ p ∈ D, th σ p.1 = th σ p.2
theorem Fine.nil (U : List Int) : Fine U [] [] := ⟨Good.nil _, fun p h => (by cases h)⟩
theorem Fine.un {U : List Int} (hU9 : U.length ≤ 1000000000) {σ : Sg} {D : Dn} (h : Fine U σ D) {a b : Ty} (ha : ∀ y ∈ vars a, y ∈ U) (hb : ∀ y ∈ vars b, y ∈ U) :
    ∃ r σ' D' N, unF N σ D a b = some (r, σ', D') ∧ Good U σ' ∧ Sub σ σ' ∧ (r = true → Fine U σ' D' ∧ ext (th σ') a = ext (th σ') b) ∧ (∀ τ, Sol τ σ → ext τ a = ext τ b → r = true ∧ Sol τ σ') := by
  obtain ⟨r, σ', D', N, hN, R⟩ := Good.un hU9 h.good h.done ha hb
  refine ⟨r, σ', D', N, hN N (Nat.le_refl _), R.good, R.sub, fun hr => ⟨⟨R.good, fun p hp => ?_⟩, ?_⟩, fun τ hτ he => R.gen τ hτ (by simpa using he)⟩
  · rcases R.done hr p hp with h' | h'
    · have := eq_th_of_sol (a := .v p.1) (b := .v p.2) h.good.wf (R.good.wf.sol.sub R.sub) (by rw [ext_v, ext_v]; exact h.done p h')
      simpa only [ext_v] using this
    · exact h'
  · simpa using R.eq hr
theorem Fine.again {U : List Int} (hU9 : U.length ≤ 1000000000) {σ : Sg} {D : Dn} (h : Fine U σ D) {a b : Ty} (ha : ∀ y ∈ vars a, y ∈ U) (hb : ∀ y ∈ vars b, y ∈ U) (he : ext (th σ) a = ext (th σ) b) :
    ∃ D' N, unF N σ D a b = some (true, σ, D') ∧ Fine U σ D' := by
  obtain ⟨r, σ', D', N, hN, R⟩ := Good.un hU9 h.good h.done ha hb
  obtain ⟨rfl, rfl⟩ := R.same (by simpa using he)
  refine ⟨D', N, hN N (Nat.le_refl _), h.good, fun p hp => ?_⟩
  rcases R.done rfl p hp with h' | h'
  · exact h.done p h'
  · exact h'
theorem ap8 {t : Ty} (ht : ∀ x ∈ vars t, 1 ≤ x ∧ x ≤ 1000) {b : Int} : ∀ y ∈ vars (ext (fun x => Ty.v (x % 8 + b)) t), b ≤ y ∧ y ≤ b + 7 := fun y hy => by
  obtain ⟨z, hz, hy⟩ := mem_vars_ext.1 hy
  rw [vars_v] at hy
  simp at hy
  subst hy
  have := ht z hz
  omega

/-! ### the most general -/
def putT : List Int → List Ty → Int → Ty
  | v :: vs, l :: ls, x => if v = x then l else putT vs ls x
  | _, _, x => .v x
theorem putT_cases : ∀ (vs : List Int) (ls : List Ty) (x : Int), putT vs ls x ∈ ls ∨ (putT vs ls x = .v x ∧ (vs.length = ls.length → x ∉ vs))
  | [], ls, x => .inr ⟨by simp [putT], fun _ h => by cases h⟩
  | v :: vs, [], x => .inr ⟨by simp [putT], fun h => by simp at h⟩
  | v :: vs, l :: ls, x => by
    simp only [putT]
    split
    · exact .inl (by simp)
    · rename_i hv
      rcases putT_cases vs ls x with h | ⟨h1, h2⟩
      · exact .inl (List.mem_cons_of_mem _ h)
      · refine .inr ⟨h1, fun hl hx => ?_⟩
        rcases List.mem_cons.1 hx with h | h
        · exact hv h.symm
        · exact h2 (by simpa using hl) h
theorem upto_len (k : Nat) : (upto k).length = k + 1 := by simp [upto]
theorem general {X Y : Ty} {vs : List Int} {ls : List Ty} (hX : ∀ y ∈ vars X, 1 ≤ y ∧ y ≤ 8) (hY : ∀ y ∈ vars Y, 1 ≤ y ∧ y ≤ 8) (hvs : ∀ y ∈ vs, y ≤ 8) (hl : vs.length = ls.length) (hls : ∀ t ∈ ls, ∀ y ∈ vars t, 100 ≤ y ∧ y ≤ 107) (he : ext (putT vs ls) X = ext (putT vs ls) Y) :
    ∃ σ D N, unF N [] [] X Y = some (true, σ, D) ∧ WF σ ∧ ∃ σ2 D2 N2, unF N2 σ D (ext (th σ) X) (ext (putT vs ls) X) = some (true, σ2, D2) := by
  have hU9 : (upto 120).length ≤ 1000000000 := by rw [upto_len]; decide
  have hXU : ∀ y ∈ vars X, y ∈ upto 120 := fun y hy => by have := hX y hy; rw [mem_upto]; omega
  have hYU : ∀ y ∈ vars Y, y ∈ upto 120 := fun y hy => by have := hY y hy; rw [mem_upto]; omega
  obtain ⟨r, σ, D, N, hun, hg, hsub, hok, hgen⟩ := (Fine.nil (upto 120)).un hU9 hXU hYU
  obtain ⟨h1, h2⟩ := hgen _ (Sol.nil _) he
  subst h1
  obtain ⟨hF, hxy⟩ := hok rfl
  have hP : ∀ y ∈ vars (ext (putT vs ls) X), y ∈ upto 120 := fun y hy => by
    obtain ⟨z, hz, hy⟩ := mem_vars_ext.1 hy
    have hz' := hX z hz
    rw [mem_upto]
    rcases putT_cases vs ls z with h | ⟨h, _⟩
    · have := hls _ h y hy; omega
    · rw [h, vars_v] at hy; simp at hy; omega
  have id1 : ∀ z, 1 ≤ z ∧ z ≤ 8 → ext (putT vs ls) (putT vs ls z) = putT vs ls z := fun z hz => by
    rcases putT_cases vs ls z with h | ⟨h, _⟩
    · refine (ext_congr fun y hy => ?_).trans (ext_id _)
      have hy' := hls _ h y hy
      rcases putT_cases vs ls y with h3 | ⟨h3, _⟩
      · have key : ∀ (vs : List Int) (ls : List Ty), (∀ y ∈ vs, y ≤ 8) → 100 ≤ y → putT vs ls y = .v y := by
          intro vs
          induction vs with
          | nil => intro ls _ _; simp [putT]
          | cons v vs ih =>
            intro ls hv h100
            cases ls with
            | nil => simp [putT]
            | cons l ls =>
              have := hv v (by simp)
              have hne : ¬ v = y := by omega
              simp only [putT, hne, if_false]
              exact ih ls (fun y hy => hv y (List.mem_cons_of_mem _ hy)) h100
        exact key vs ls hvs hy'.1
      · exact h3
    · rw [h, ext_v, h]
  have hPP : ext (putT vs ls) (ext (putT vs ls) X) = ext (putT vs ls) X := by
    rw [ext_comp]
    exact ext_congr fun z hz => id1 z (hX z hz)
  obtain ⟨r2, σ2, D2, N2, hun2, _, _, _, hgen2⟩ := hF.un hU9 (hg.vars hXU) hP
  obtain ⟨h3, _⟩ := hgen2 _ h2 (by rw [h2.ext hg.wf, hPP])
  subst h3
  exact ⟨σ, D, N, hun, hg.wf, σ2, D2, N2, hun2⟩
end Go.Proofs.Ytncakfcafkfmfaa

/-
  types: the reference's Put and Same; the program's Same.
-/
namespace Go.Proofs.Ytncakfcafkfmfaa
open Go
set_option linter.unusedSimpArgs false
set_option linter.unusedVariables false

/-- the variables of a list replaced by the types of another one -/
abbrev putS : List Int → List Ty → Int → Ty := putT
theorem putS_hit : ∀ {vs : List Int} {ls : List Ty} {i : Nat} {x : Int} {u : Ty}, vs[i]? = some x → (∀ j, j < i → vs[j]? ≠ some x) → ls[i]? = some u → putS vs ls x = u
  | [], _, i, x, u, h, _, _ => by simp at h
  | v :: vs, [], i, x, u, _, _, h => by simp at h
  | v :: vs, l :: ls, 0, x, u, h, _, h2 => by
    simp only [List.getElem?_cons_zero, Option.some.injEq] at h h2
    subst h h2
    simp [putS, putT]
  | v :: vs, l :: ls, i + 1, x, u, h, hn, h2 => by
    have hv : ¬ v = x := fun e => hn 0 (by omega) (by simp [e])
    simp only [putS, putT, hv, if_false]
    exact putS_hit (by simpa using h) (fun j hj => by have := hn (j + 1) (by omega); simpa using this) (by simpa using h2)
theorem putS_miss : ∀ {vs : List Int} {ls : List Ty} {x : Int}, (∀ j, j < vs.length → vs[j]? ≠ some x) → putS vs ls x = .v x
  | [], _, x, _ => by simp [putS, putT]
  | v :: vs, [], x, _ => by simp [putS, putT]
  | v :: vs, l :: ls, x, hn => by
    have hv : ¬ v = x := fun e => hn 0 (by simp) (by simp [e])
    simp only [putS, putT, hv, if_false]
    exact putS_miss fun j hj => by have := hn (j + 1) (by simp; omega); simpa using this

set_option maxHeartbeats 4000000 in
theorem put_ok {vv lv : Value} {vs : List Int} {ls : List Ty} (hvl : vs.length ≤ ls.length) : ∀ (N : Nat) (F : Nat → Prop) (w : World) (xl : List C3) (a b c : Value) (t : Ty), sz t ≤ N → TV w F (a, b, c) t → Rd w F vv vs.length 1 (vs.map I6) → Rd w F lv ls.length 3 (xl.flatMap c3) → TVs w F xl ls →
    Ret Try.prog 17 #[.agg #[a, b, c], vv, lv] w fun v w' => ∃ a' b' c', v = .agg #[a', b', c'] ∧ TV w' (fun k => F k ∨ New w w' k) (a', b', c') (ext (putS vs ls) t) ∧ Upd No w w' := by
  intro N
  induction N with
  | zero =>
    intro F w xl a b c t hN
    have := sz_pos t
    omega
  | succ N ih =>
    intro F w xl a b c t hN ht hv hl hls
    replace ht := ht.bound
    replace hv := hv.bound
    replace hl := hl.bound
    replace hls := hls.bound
    obtain ⟨Av, kv, rfl, _⟩ := hv.slice_form
    obtain ⟨Al, kl, rfl, _⟩ := hl.slice_form
    have hvm := hv.le
    obtain ⟨m, A0, k0, xk, rfl, rfl, rfl, hm, hr, hlk, hb, hk⟩ := ht.open
    have hks : TVs w (fun k => F k ∧ k < w.heap.size) xk t.kids := ⟨hlk, hk⟩
    refine enterRet (vs := [_, _, _]) (N := 58) Try.func17 rfl rfl rfl ?_
    have hU := Upd.refl No w
    refine WC.keep [(0, _), (1, _), (2, _)] ⟨rfl, rfl, rfl, trivial⟩ ?_
    refine WC.seq ?_
    refine WC.region ?_
    refine WL.cons (SO.alloc rfl rfl rfl rfl (r_boxAgg rfl (ev_t rfl)) ?_)
    intro w1 hu1 hB1 hz1
    have hs1 := hu1.size
    replace hU := hU.trans hu1 (by exact (fun _ _ h => h))
    replace hr := hr.upd hu1 (fun k hk hl hS => by exact (show False from hS).elim)
    replace hks := hks.upd hu1 (fun k hk hl hS => by exact (show False from hS).elim)
    replace hv := hv.upd hu1 (fun k hk hl hS => by exact (show False from hS).elim)
    replace hl := hl.upd hu1 (fun k hk hl hS => by exact (show False from hS).elim)
    replace hls := hls.upd hu1 (fun k hk hl hS => by exact (show False from hS).elim)
    refine WL.cons (SO.alloc rfl rfl rfl rfl (r_alloc rfl zero_28) ?_)
    intro w2 hu2 hB2 hz2
    have hs2 := hu2.size
    replace hU := hU.trans hu2 (by exact (fun _ _ h => h))
    replace hr := hr.upd hu2 (fun k hk hl hS => by exact (show False from hS).elim)
    replace hks := hks.upd hu2 (fun k hk hl hS => by exact (show False from hS).elim)
    replace hv := hv.upd hu2 (fun k hk hl hS => by exact (show False from hS).elim)
    replace hl := hl.upd hu2 (fun k hk hl hS => by exact (show False from hS).elim)
    replace hls := hls.upd hu2 (fun k hk hl hS => by exact (show False from hS).elim)
    replace hB1 := hB1.upd hu2 (by exact (fun h => h))
    refine WL.nil ?_
    refine WX.keep [(1, _), (2, _), (3, _), (6, _)] ⟨rfl, rfl, rfl, rfl, trivial⟩ ?_
    refine WX.next ?_
    refine WC.seq ?_
    refine WC.seq ?_
    refine WC.region ?_
    refine WL.val rfl rfl rfl rfl (r_assign rfl ev_c) ?_
    refine WL.nil ?_
    refine WX.keep [(1, _), (2, _), (3, _), (6, _), (7, _)] ⟨rfl, rfl, rfl, rfl, rfl, trivial⟩ ?_
    refine WX.next ?_
    refine WC.block ?_
    -- loop 1: live [1, 2, 3, 6, 7]
    refine WC.keep [(1, _), (2, _), (3, _), (6, _), (7, _)] ⟨rfl, rfl, rfl, rfl, rfl, trivial⟩ ?_
    refine WC.loop (fun q E w' => ∃ (i : Nat), i ≤ vs.length ∧ q = vs.length - i ∧ Upd No w w' ∧ w.heap.size + 2 ≤ w'.heap.size ∧ Rd w' (fun k => F k ∧ k < w.heap.size) (.slice A0 t.kids.length k0) t.kids.length 3 (xk.flatMap c3) ∧ TVs w' (fun k => F k ∧ k < w.heap.size) xk t.kids ∧ Rd w' (fun k => F k ∧ k < w.heap.size) (.slice Av vs.length kv) vs.length 1 (vs.map I6) ∧ Rd w' (fun k => F k ∧ k < w.heap.size) (.slice Al ls.length kl) ls.length 3 (xl.flatMap c3) ∧ TVs w' (fun k => F k ∧ k < w.heap.size) xl ls ∧   Blk w' w.heap.size #[.string ⟨t.nm.toArray⟩, .int .i64 m, .slice A0 t.kids.length k0] typ ∧ Blk w' w1.heap.size #[.string ⟨#[]⟩, .int .i64 0, .slice none 0 0] typ ∧ (∀ x, t = .v x → ∀ j, j < i → vs[j]? ≠ some x) ∧   E = [(1, .slice Av vs.length kv), (2, .slice Al ls.length kl), (3, .pointer (some ⟨w.heap.size, 0, none⟩)), (6, .pointer (some ⟨w1.heap.size, 0, none⟩)), (7, .int .i64 (i : Int))]) (vs.length) ?_ ?_
    · exact ⟨0, by omega, by omega, hU, by omega, hr, hks, hv, hl, hls, hB1, hB2, fun x _ j h => by omega, rfl⟩
    · clear hU hr hks hv hl hls hB1 hB2
      rintro q E wA ⟨i, hi, rfl, hU, hws0, hr, hks, hv, hl, hls, hB1, hB2, hno, rfl⟩
      have hs0 := hU.size
      refine WC.seq ?_
      refine WC.seq ?_
      refine WC.region ?_
      refine WL.val rfl rfl rfl rfl (r_move rfl (ev_t rfl)) ?_
      refine WL.val rfl rfl rfl rfl (r_move rfl (ev_t rfl)) ?_
      refine WL.val rfl rfl rfl rfl (r_lenSlice (ts := #[]) rfl (ev_t rfl) elem_33) ?_
      refine WL.val rfl rfl rfl rfl (r_lss rfl (ev_t rfl) (ev_t rfl)) ?_
      refine WL.nil ?_
      refine WX.keep [(1, _), (2, _), (3, _), (6, _), (7, _), (13, _)] ⟨rfl, rfl, rfl, rfl, rfl, rfl, trivial⟩ ?_
      refine WX.next ?_
      refine WC.cond rfl (ev_t rfl) (fun hc2 => ?_) (fun hc2 => ?_)
      · try (exfalso; first | (simp at hc2; done) | (simp only [decide_eq_true_eq, decide_eq_false_iff_not, Bool.not_eq_true', Bool.not_eq_false', Bool.not_eq_true, Bool.not_eq_false] at hc2; omega) | omega)
        all_goals
         try simp only [decide_eq_true_eq, decide_eq_false_iff_not, Bool.not_eq_true', Bool.not_eq_false', Bool.not_eq_true, Bool.not_eq_false, Option.isNone_none, Option.isNone_some, Option.isSome_none, Option.isSome_some, ne_eq, Decidable.not_not] at hc2
         have hi' : i < vs.length := by omega
         obtain ⟨bv0, offv, rfl, _⟩ := hv.open (by omega)
         have hvi : vs[i]? = some vs[i] := List.getElem?_eq_getElem hi'
         generalize vs[i] = vi at *
         refine WC.skip ?_
         refine WX.next ?_
         refine WC.seq ?_
         refine WC.block ?_
         refine WC.seq ?_
         refine WC.draws' (fun u0_ u1_ => Upd No u0_ u1_) (fun j => [0, 1, 0, 0, 0, 0, 0, 0, 0, 1, 0, 0].getD j 0) (.calm 0 (.one 1 (.calm 2 (.calm 3 (.calm 4 (.calm 6 (.calm 7 (.calm 8 (.held 5 (.one 9 (.calm 10 (.calm 11 (.done))))))))))))) mixed (by kernel_rfl) (by repeat (first | with_reducible exact Deaf.body | with_reducible apply Deaf.then | with_reducible apply Deaf.block)) ?_
         intro w3 hu3
         have hz3 := congrArg Array.size hu3.2.2.2
         replace hu3 := Upd.of_draw hu3
         have hs3 := hu3.size
         replace hU := hU.trans hu3 (by exact (fun _ _ h => h))
         replace hr := hr.upd hu3 (fun k hk hl hS => by exact (show False from hS).elim)
         replace hks := hks.upd hu3 (fun k hk hl hS => by exact (show False from hS).elim)
         replace hv := hv.upd hu3 (fun k hk hl hS => by exact (show False from hS).elim)
         replace hl := hl.upd hu3 (fun k hk hl hS => by exact (show False from hS).elim)
         replace hls := hls.upd hu3 (fun k hk hl hS => by exact (show False from hS).elim)
         replace hB1 := hB1.upd hu3 (by exact (fun h => h))
         replace hB2 := hB2.upd hu3 (by exact (fun h => h))
         have hS4 := Upd.refl No w3
         first | refine WN.calm _ rfl rfl rfl rfl rfl (fun _ => r_field0 rfl (ev_t rfl) fld_28_0) ?_ | refine WN.calm _ rfl rfl rfl rfl rfl (fun _ => r_fieldAt rfl (ev_t rfl) fld_28_0) ?_
         refine WN.step _ rfl (SO.val rfl rfl rfl rfl (r_load rfl (ev_t rfl) flat_9 (Blk.cell hB1 rfl)) ?_)
         refine ⟨hS4, ?_⟩
         refine WN.calm _ rfl rfl rfl rfl rfl (fun _ => r_eqlStrL rfl (ev_t rfl) ev_c) ?_
         refine WN.calm _ rfl rfl rfl rfl rfl (fun _ => r_move rfl (ev_t rfl)) ?_
         refine WN.cases 19 rfl (fun hb4_3 => ?_) (fun hb4_3 => ?_)
         · try (exfalso; first | (simp at hb4_3; done) | (simp only [decide_eq_true_eq, decide_eq_false_iff_not, Bool.not_eq_true', Bool.not_eq_false', Bool.not_eq_true, Bool.not_eq_false] at hb4_3; omega) | omega)
           all_goals
            try simp only [decide_eq_true_eq, decide_eq_false_iff_not, Bool.not_eq_true', Bool.not_eq_false', Bool.not_eq_true, Bool.not_eq_false, Option.isNone_none, Option.isNone_some, Option.isSome_none, Option.isSome_some, ne_eq, Decidable.not_not] at hb4_3
            obtain ⟨x, rfl⟩ := Ty.nm_nil.1 hb4_3
            obtain rfl := (hm x rfl).symm
            first | refine WN.calm _ rfl rfl rfl rfl rfl (fun _ => r_field0 rfl (ev_t rfl) fld_28_1) ?_ | refine WN.calm _ rfl rfl rfl rfl rfl (fun _ => r_fieldAt rfl (ev_t rfl) fld_28_1) ?_
            refine WN.calm _ rfl rfl rfl rfl rfl (fun _ => r_move rfl (ev_t rfl)) ?_
            refine WN.calm _ rfl rfl rfl rfl rfl (fun _ => r_move rfl (ev_t rfl)) ?_
            refine WN.calm _ rfl rfl rfl rfl rfl (fun _ => r_indexAddr rfl (ev_t rfl) (ev_t rfl) elem_33 size_3 (by omega) (by omega)) ?_
            refine WN.held _ rfl rfl rfl rfl rfl hS4 (fun w' hS => r_load rfl (ev_t rfl) flat_3 (Blk.cell (hB1.upd hS (fun h => h)) rfl)) ?_
            refine WN.step _ rfl (SO.val rfl rfl rfl rfl (r_load rfl (ev_t rfl) flat_3 (Rd.cell hv (j := i) (u := I6 vi) (by omega) (by rw [List.getElem?_map, hvi]; rfl))) ?_)
            refine ⟨hS4, ?_⟩
            refine WN.calm _ rfl rfl rfl rfl rfl (fun _ => r_eql rfl (ev_t rfl) (ev_t rfl)) ?_
            refine WN.calm _ rfl rfl rfl rfl rfl (fun _ => r_pickT rfl (ev_t rfl) (ev_t rfl)) ?_
            refine WN.done ?_
            refine WX.keep [(1, _), (2, _), (3, _), (6, _), (7, _), (27, _)] ⟨rfl, rfl, rfl, rfl, rfl, rfl, trivial⟩ ?_
            refine WX.next ?_
            refine WC.cond rfl (ev_t rfl) (fun hc4 => ?_) (fun hc4 => ?_)
            · try (exfalso; first | (simp at hc4; done) | (simp only [decide_eq_true_eq, decide_eq_false_iff_not, Bool.not_eq_true', Bool.not_eq_false', Bool.not_eq_true, Bool.not_eq_false] at hc4; omega) | omega)
              all_goals
               try simp only [decide_eq_true_eq, decide_eq_false_iff_not, Bool.not_eq_true', Bool.not_eq_false', Bool.not_eq_true, Bool.not_eq_false, Option.isNone_none, Option.isNone_some, Option.isSome_none, Option.isSome_some, ne_eq, Decidable.not_not] at hc4
               obtain rfl : x = vi := by simpa using hc4
               have hil : i < ls.length := by omega
               obtain ⟨bl0, offl, rfl, _⟩ := hl.open (by omega)
               have hlx : i < xl.length := by have := hls.1; omega
               have hxi : xl[i]? = some xl[i] := List.getElem?_eq_getElem hlx
               have hli : ls[i]? = some ls[i] := List.getElem?_eq_getElem hil
               have htl := hls.2 i _ _ hxi hli
               have hput := putS_hit (x := x) hvi (hno x rfl) hli
               generalize xl[i] = ck at *
               generalize ls[i] = lk at *
               obtain ⟨ca, cb, cc⟩ := ck
               obtain ⟨m3, A3, k3, xk3, rfl, rfl, rfl, _⟩ := htl.open
               refine WC.seq ?_
               refine WC.region ?_
               refine WL.val rfl rfl rfl rfl (r_move rfl (ev_t rfl)) ?_
               refine WL.val rfl rfl rfl rfl (r_move rfl (ev_t rfl)) ?_
               refine WL.val rfl rfl rfl rfl (r_indexAddr rfl (ev_t rfl) (ev_t rfl) elem_26 size_28 (by omega) (by omega)) ?_
               refine WL.val rfl rfl rfl rfl (r_loadAgg (vs := [_, _, _]) rfl (ev_t rfl) agg_28 size_28 (kid_cells hl hxi rfl)) ?_
               refine WL.cons (SO.storeAll (us := [_, _, _]) rfl (ev_t rfl) (ev_t rfl) size_28 hB2 rfl rfl rfl rfl rfl ?_)
               intro w4 hu4 hB2 hz4
               have hs4 := hu4.size
               replace hU := hU.trans hu4 (by (intro k hl hk; (try simp only [At, New, Grow, From, No] at hk ⊢); omega))
               replace hr := hr.upd hu4 (fun k hk hl hS => by (simp only [At] at hS; omega))
               replace hks := hks.upd hu4 (fun k hk hl hS => by (simp only [At] at hS; omega))
               replace hv := hv.upd hu4 (fun k hk hl hS => by (simp only [At] at hS; omega))
               replace hl := hl.upd hu4 (fun k hk hl hS => by (simp only [At] at hS; omega))
               replace hls := hls.upd hu4 (fun k hk hl hS => by (simp only [At] at hS; omega))
               replace hB1 := hB1.upd hu4 (by (simp only [At]; omega))
               replace htl := htl.upd hu4 (fun k hk hl hS => by (simp only [At] at hS; omega))
               refine WL.nil ?_
               refine WX.keep [(6, _)] ⟨rfl, trivial⟩ ?_
               refine WX.next ?_
               refine WC.ret ?_
               refine WX.blockRet ?_
               refine WX.thenRet ?_
               refine WX.thenRet ?_
               refine WX.blockRet ?_
               refine WX.thenRet ?_
               refine WX.retC (vs := [_, _, _]) rfl rfl agg_28 size_28 (Blk.cellsL hB2) ?_
               refine ⟨_, _, _, rfl, ?_, hU⟩
               rw [ext_v, hput]
               exact htl.mono fun k hk => .inl hk.1
            · try (exfalso; first | (simp at hc4; done) | (simp only [decide_eq_true_eq, decide_eq_false_iff_not, Bool.not_eq_true', Bool.not_eq_false', Bool.not_eq_true, Bool.not_eq_false] at hc4; omega) | omega)
              all_goals
               try simp only [decide_eq_true_eq, decide_eq_false_iff_not, Bool.not_eq_true', Bool.not_eq_false', Bool.not_eq_true, Bool.not_eq_false, Option.isNone_none, Option.isNone_some, Option.isSome_none, Option.isSome_some, ne_eq, Decidable.not_not] at hc4
               refine WC.skip ?_
               refine WX.blockNormal ?_
               refine WX.next ?_
               refine WC.region ?_
               refine WL.val rfl rfl rfl rfl (r_move rfl (ev_t rfl)) ?_
               first | refine WL.val rfl rfl rfl rfl (r_addN rfl (ev_t rfl) ev_c (by simp only [inK]; omega)) ?_ | refine WL.val rfl rfl rfl rfl (r_add rfl (ev_t rfl) ev_c) ?_
               refine WL.val rfl rfl rfl rfl (r_assign rfl (ev_t rfl)) ?_
               refine WL.nil ?_
               refine WX.keep [(1, _), (2, _), (3, _), (6, _), (7, _)] ⟨rfl, rfl, rfl, rfl, rfl, trivial⟩ ?_
               refine WX.meet [(1, _), (2, _), (3, _), (6, _), (7, _)] ⟨rfl, rfl, rfl, rfl, rfl, trivial⟩ ?_
               refine ⟨vs.length - (i + 1), by omega, i + 1, by omega, rfl, hU, by omega, hr, hks, hv, hl, hls, hB1, hB2, fun x hx j hj => ?_, by simp⟩
               rcases Nat.lt_or_ge j i with h | h
               · exact hno x hx j h
               · obtain rfl : j = i := by omega
                 rw [hvi]
                 intro e
                 injection e with e
                 first
                   | (injection hx with hx; subst hx; subst e; exact absurd hc4 (by simp))
                   | (subst hx; exact absurd rfl hb4_3)
         · try (exfalso; first | (simp at hb4_3; done) | (simp only [decide_eq_true_eq, decide_eq_false_iff_not, Bool.not_eq_true', Bool.not_eq_false', Bool.not_eq_true, Bool.not_eq_false] at hb4_3; omega) | omega)
           all_goals
            try simp only [decide_eq_true_eq, decide_eq_false_iff_not, Bool.not_eq_true', Bool.not_eq_false', Bool.not_eq_true, Bool.not_eq_false, Option.isNone_none, Option.isNone_some, Option.isSome_none, Option.isSome_some, ne_eq, Decidable.not_not] at hb4_3
            refine WN.skip _ rfl rfl rfl rfl ?_
            refine WN.skip _ rfl rfl rfl rfl ?_
            refine WN.skip _ rfl rfl rfl rfl ?_
            refine WN.skip _ rfl rfl rfl rfl ?_
            refine WN.heldSkip _ rfl rfl rfl rfl hS4 ?_
            refine WN.step _ rfl (SO.skip rfl rfl rfl ?_)
            refine ⟨hS4, ?_⟩
            refine WN.skip _ rfl rfl rfl rfl ?_
            refine WN.calm _ rfl rfl rfl rfl rfl (fun _ => r_pickF rfl (ev_t rfl) ev_c) ?_
            refine WN.done ?_
            refine WX.keep [(1, _), (2, _), (3, _), (6, _), (7, _), (27, _)] ⟨rfl, rfl, rfl, rfl, rfl, rfl, trivial⟩ ?_
            refine WX.next ?_
            refine WC.cond_false rfl (ev_t rfl) ?_
            refine WC.skip ?_
            refine WX.blockNormal ?_
            refine WX.next ?_
            refine WC.region ?_
            refine WL.val rfl rfl rfl rfl (r_move rfl (ev_t rfl)) ?_
            first | refine WL.val rfl rfl rfl rfl (r_addN rfl (ev_t rfl) ev_c (by simp only [inK]; omega)) ?_ | refine WL.val rfl rfl rfl rfl (r_add rfl (ev_t rfl) ev_c) ?_
            refine WL.val rfl rfl rfl rfl (r_assign rfl (ev_t rfl)) ?_
            refine WL.nil ?_
            refine WX.keep [(1, _), (2, _), (3, _), (6, _), (7, _)] ⟨rfl, rfl, rfl, rfl, rfl, trivial⟩ ?_
            refine WX.meet [(1, _), (2, _), (3, _), (6, _), (7, _)] ⟨rfl, rfl, rfl, rfl, rfl, trivial⟩ ?_
            refine ⟨vs.length - (i + 1), by omega, i + 1, by omega, rfl, hU, by omega, hr, hks, hv, hl, hls, hB1, hB2, fun x hx j hj => ?_, by simp⟩
            rcases Nat.lt_or_ge j i with h | h
            · exact hno x hx j h
            · obtain rfl : j = i := by omega
              rw [hvi]
              intro e
              injection e with e
              first
                | (injection hx with hx; subst hx; subst e; exact absurd hc4 (by simp))
                | (subst hx; exact absurd rfl hb4_3)
      · try (exfalso; first | (simp at hc2; done) | (simp only [decide_eq_true_eq, decide_eq_false_iff_not, Bool.not_eq_true', Bool.not_eq_false', Bool.not_eq_true, Bool.not_eq_false] at hc2; omega) | omega)
        all_goals
         try simp only [decide_eq_true_eq, decide_eq_false_iff_not, Bool.not_eq_true', Bool.not_eq_false', Bool.not_eq_true, Bool.not_eq_false, Option.isNone_none, Option.isNone_some, Option.isSome_none, Option.isSome_some, ne_eq, Decidable.not_not] at hc2
         obtain rfl : i = vs.length := by omega
         have hmiss : ∀ x, t = .v x → putS vs ls x = .v x := fun x hx => putS_miss (hno x hx)
         have e1 : (ext (putS vs ls) t).nm = t.nm ∧ (ext (putS vs ls) t).kids = t.kids.map (ext (putS vs ls)) ∧ ∀ x, ext (putS vs ls) t = .v x → t = .v x := by
           cases t with
           | v x => rw [ext_v, hmiss x rfl]; exact ⟨rfl, rfl, fun y e => e⟩
           | c f ks => rw [ext_c]; exact ⟨rfl, rfl, fun y e => by cases e⟩
         obtain ⟨e1, e2, e3⟩ := e1
         refine WC.exit ?_
         refine WX.thenExit ?_
         refine WX.thenExit ?_
         refine WX.blockHere ?_
         refine WX.next ?_
         refine WC.seq ?_
         refine WC.region ?_
         first | refine WL.val rfl rfl rfl rfl (r_field0 rfl (ev_t rfl) fld_28_0) ?_ | refine WL.val rfl rfl rfl rfl (r_fieldAt rfl (ev_t rfl) fld_28_0) ?_
         refine WL.val rfl rfl rfl rfl (r_load rfl (ev_t rfl) flat_9 (Blk.cell hB1 rfl)) ?_
         first | refine WL.val rfl rfl rfl rfl (r_field0 rfl (ev_t rfl) fld_28_1) ?_ | refine WL.val rfl rfl rfl rfl (r_fieldAt rfl (ev_t rfl) fld_28_1) ?_
         refine WL.val rfl rfl rfl rfl (r_load rfl (ev_t rfl) flat_3 (Blk.cell hB1 rfl)) ?_
         refine WL.val rfl rfl rfl rfl (r_build (cs := #[_, _, _]) (vs := [(0, _), (1, _)]) rfl ⟨⟨rfl, (ev_t rfl)⟩, ⟨rfl, (ev_t rfl)⟩, trivial⟩ plc_28 zero_28 rfl) ?_
         refine WL.cons (SO.alloc rfl rfl rfl rfl (r_alloc rfl zero_28) ?_)
         intro w5 hu5 hB5 hz5
         have hs5 := hu5.size
         replace hU := hU.trans hu5 (by exact (fun _ _ h => h))
         replace hr := hr.upd hu5 (fun k hk hl hS => by exact (show False from hS).elim)
         replace hks := hks.upd hu5 (fun k hk hl hS => by exact (show False from hS).elim)
         replace hv := hv.upd hu5 (fun k hk hl hS => by exact (show False from hS).elim)
         replace hl := hl.upd hu5 (fun k hk hl hS => by exact (show False from hS).elim)
         replace hls := hls.upd hu5 (fun k hk hl hS => by exact (show False from hS).elim)
         replace hB1 := hB1.upd hu5 (by exact (fun h => h))
         replace hB2 := hB2.upd hu5 (by exact (fun h => h))
         refine WL.cons (SO.storeAll (us := [_, _, _]) rfl (ev_t rfl) (ev_t rfl) size_28 hB5 rfl rfl rfl rfl rfl ?_)
         intro w6 hu6 hB5 hz6
         have hs6 := hu6.size
         replace hU := hU.trans hu6 (by (intro k hl hk; (try simp only [At, New, Grow, From, No] at hk ⊢); omega))
         replace hr := hr.upd hu6 (fun k hk hl hS => by (simp only [At] at hS; omega))
         replace hks := hks.upd hu6 (fun k hk hl hS => by (simp only [At] at hS; omega))
         replace hv := hv.upd hu6 (fun k hk hl hS => by (simp only [At] at hS; omega))
         replace hl := hl.upd hu6 (fun k hk hl hS => by (simp only [At] at hS; omega))
         replace hls := hls.upd hu6 (fun k hk hl hS => by (simp only [At] at hS; omega))
         replace hB1 := hB1.upd hu6 (by (simp only [At]; omega))
         replace hB2 := hB2.upd hu6 (by (simp only [At]; omega))
         refine WL.nil ?_
         refine WX.keep [(1, _), (2, _), (3, _), (6, _), (8, _)] ⟨rfl, rfl, rfl, rfl, rfl, trivial⟩ ?_
         refine WX.next ?_
         refine WC.seq ?_
         refine WC.seq ?_
         refine WC.region ?_
         refine WL.val rfl rfl rfl rfl (r_assign rfl ev_c) ?_
         refine WL.nil ?_
         refine WX.keep [(1, _), (2, _), (3, _), (6, _), (8, _), (9, _)] ⟨rfl, rfl, rfl, rfl, rfl, rfl, trivial⟩ ?_
         refine WX.next ?_
         refine WC.block ?_
         -- loop 2: live [1, 2, 3, 6, 8, 9]
         refine WC.keep [(1, _), (2, _), (3, _), (6, _), (8, _), (9, _)] ⟨rfl, rfl, rfl, rfl, rfl, rfl, trivial⟩ ?_
         refine WC.loop (fun q E w' => ∃ (i : Nat) (A5 : Option Addr) (c5 : Nat) (ys : List C3) (G T : Nat → Prop), i ≤ t.kids.length ∧ q = t.kids.length - i ∧ Upd No w w' ∧ wA.heap.size + 1 ≤ w'.heap.size ∧ Rd w' (fun k => F k ∧ k < w.heap.size) (.slice A0 t.kids.length k0) t.kids.length 3 (xk.flatMap c3) ∧ TVs w' (fun k => F k ∧ k < w.heap.size) xk t.kids ∧ Rd w' (fun k => F k ∧ k < w.heap.size) (.slice Av vs.length kv) vs.length 1 (vs.map I6) ∧ Rd w' (fun k => F k ∧ k < w.heap.size) (.slice Al ls.length kl) ls.length 3 (xl.flatMap c3) ∧ TVs w' (fun k => F k ∧ k < w.heap.size) xl ls ∧   Blk w' w.heap.size #[.string ⟨t.nm.toArray⟩, .int .i64 m, .slice A0 t.kids.length k0] typ ∧ Blk w' w1.heap.size #[.string ⟨#[]⟩, .int .i64 0, .slice none 0 0] typ ∧ Blk w' wA.heap.size #[.string ⟨t.nm.toArray⟩, .int .i64 m, .slice A5 i c5] typ ∧ Own w' G typ 3 (.slice A5 i c5) i (ys.flatMap c3) ∧ TVs w' T ys ((t.kids.take i).map (ext (putS vs ls))) ∧ (∀ k, G k → wA.heap.size + 1 ≤ k ∧ k < w'.heap.size) ∧ (∀ k, T k → (F k ∧ k < w.heap.size ∨ wA.heap.size + 1 ≤ k) ∧ k < w'.heap.size ∧ ¬ G k) ∧   E = [(1, .slice Av vs.length kv), (2, .slice Al ls.length kl), (3, .pointer (some ⟨w.heap.size, 0, none⟩)), (6, .pointer (some ⟨w1.heap.size, 0, none⟩)), (8, .pointer (some ⟨wA.heap.size, 0, none⟩)), (9, .int .i64 (i : Int))]) (t.kids.length) ?_ ?_
         · exact ⟨0, none, 0, [], fun _ => False, fun _ => False, by omega, by omega, hU, by omega, hr, hks, hv, hl, hls, hB1, hB2, hB5, Own.nil _ _ _ _, TVs.nil _ _, fun k h => h.elim, fun k h => h.elim, rfl⟩
         · clear hU hr hks hv hl hls hB1 hB2
           rintro q E w' ⟨i, A5, c5, ys, G, T, hi, rfl, hU, hws, hr, hks, hv, hl, hls, hB1, hB2, hb8, ho, hys, hG, hT, rfl⟩
           have hs0 := hU.size
           refine WC.seq ?_
           refine WC.seq ?_
           refine WC.region ?_
           refine WL.val rfl rfl rfl rfl (r_move rfl (ev_t rfl)) ?_
           first | refine WL.val rfl rfl rfl rfl (r_field0 rfl (ev_t rfl) fld_28_2) ?_ | refine WL.val rfl rfl rfl rfl (r_fieldAt rfl (ev_t rfl) fld_28_2) ?_
           refine WL.val rfl rfl rfl rfl (r_load rfl (ev_t rfl) flat_26 (Blk.cell hB1 rfl)) ?_
           refine WL.val rfl rfl rfl rfl (r_lenSlice (ts := #[]) rfl (ev_t rfl) elem_26) ?_
           refine WL.val rfl rfl rfl rfl (r_lss rfl (ev_t rfl) (ev_t rfl)) ?_
           refine WL.nil ?_
           refine WX.keep [(1, _), (2, _), (3, _), (6, _), (8, _), (9, _), (41, _)] ⟨rfl, rfl, rfl, rfl, rfl, rfl, rfl, trivial⟩ ?_
           refine WX.next ?_
           refine WC.cond rfl (ev_t rfl) (fun hc8 => ?_) (fun hc8 => ?_)
           · try (exfalso; first | (simp at hc8; done) | (simp only [decide_eq_true_eq, decide_eq_false_iff_not, Bool.not_eq_true', Bool.not_eq_false', Bool.not_eq_true, Bool.not_eq_false] at hc8; omega) | omega)
             all_goals
              try simp only [decide_eq_true_eq, decide_eq_false_iff_not, Bool.not_eq_true', Bool.not_eq_false', Bool.not_eq_true, Bool.not_eq_false, Option.isNone_none, Option.isNone_some, Option.isSome_none, Option.isSome_some, ne_eq, Decidable.not_not] at hc8
              have hi' : i < t.kids.length := by omega
              obtain ⟨b0, off, rfl, _⟩ := hr.open (by omega)
              have hlx : i < xk.length := by have := hks.1; omega
              have hxi : xk[i]? = some xk[i] := List.getElem?_eq_getElem hlx
              have hki : t.kids[i]? = some t.kids[i] := List.getElem?_eq_getElem hi'
              have htk := hks.2 i _ _ hxi hki
              have htake := take_map_snoc (f := ext (putS vs ls)) hi'
              have hkl : sz t.kids[i] < sz t := by
                cases t with
                | v x => simp [Ty.kids] at hi'
                | c f ks => exact sz_kid (n := f) (List.getElem_mem hi')
              generalize xk[i] = ck at *
              generalize t.kids[i] = kk at *
              obtain ⟨ca, cb, cc⟩ := ck
              refine WC.skip ?_
              refine WX.next ?_
              refine WC.seq ?_
              refine WC.block ?_
              refine WC.draws' (fun u0_ u1_ => Upd No u0_ u1_) (fun j => [0, 0, 0, 1, 0, 0, 1, 0, 0, 1, 1, 2, 0, 2].getD j 0) (.calm 0 (.calm 2 (.calm 4 (.calm 7 (.calm 8 (.held 1 (.one 3 (.calm 5 (.one 6 (.one 9 (.one 10 (.one 11 (.calm 12 (.one 13 (.done))))))))))))))) mixed (by kernel_rfl) (by repeat (first | with_reducible exact Deaf.body | with_reducible apply Deaf.then | with_reducible apply Deaf.block)) ?_
              intro w7 hu7
              have hz7 := congrArg Array.size hu7.2.2.2
              replace hu7 := Upd.of_draw hu7
              have hs7 := hu7.size
              replace hU := hU.trans hu7 (by exact (fun _ _ h => h))
              replace hr := hr.upd hu7 (fun k hk hl hS => by exact (show False from hS).elim)
              replace hks := hks.upd hu7 (fun k hk hl hS => by exact (show False from hS).elim)
              replace hv := hv.upd hu7 (fun k hk hl hS => by exact (show False from hS).elim)
              replace hl := hl.upd hu7 (fun k hk hl hS => by exact (show False from hS).elim)
              replace hls := hls.upd hu7 (fun k hk hl hS => by exact (show False from hS).elim)
              replace hB1 := hB1.upd hu7 (by exact (fun h => h))
              replace hB2 := hB2.upd hu7 (by exact (fun h => h))
              replace hb8 := hb8.upd hu7 (by exact (fun h => h))
              replace ho := ho.upd hu7 (fun k hk hl hS => by exact (show False from hS).elim)
              replace hys := hys.upd hu7 (fun k hk hl hS => by have := hT k hk; exact (show False from hS).elim)
              replace htk := htk.upd hu7 (fun k hk hl hS => by exact (show False from hS).elim)
              have hS10 := Upd.refl No w7
              first | refine WN.calm _ rfl rfl rfl rfl rfl (fun _ => r_field0 rfl (ev_t rfl) fld_28_2) ?_ | refine WN.calm _ rfl rfl rfl rfl rfl (fun _ => r_fieldAt rfl (ev_t rfl) fld_28_2) ?_
              first | refine WN.calm _ rfl rfl rfl rfl rfl (fun _ => r_field0 rfl (ev_t rfl) fld_28_2) ?_ | refine WN.calm _ rfl rfl rfl rfl rfl (fun _ => r_fieldAt rfl (ev_t rfl) fld_28_2) ?_
              refine WN.calm _ rfl rfl rfl rfl rfl (fun _ => r_move rfl (ev_t rfl)) ?_
              refine WN.calm _ rfl rfl rfl rfl rfl (fun _ => r_move rfl (ev_t rfl)) ?_
              refine WN.calm _ rfl rfl rfl rfl rfl (fun _ => r_move rfl (ev_t rfl)) ?_
              refine WN.held _ rfl rfl rfl rfl rfl hS10 (fun w' hS => r_load rfl (ev_t rfl) flat_26 (Blk.cell (hb8.upd hS (fun h => h)) rfl)) ?_
              refine WN.step _ rfl (SO.val rfl rfl rfl rfl (r_load rfl (ev_t rfl) flat_26 (Blk.cell hB1 rfl)) ?_)
              refine ⟨hS10, ?_⟩
              refine WN.calm _ rfl rfl rfl rfl rfl (fun _ => r_indexAddr rfl (ev_t rfl) (ev_t rfl) elem_26 size_28 (by omega) (by omega)) ?_
              refine WN.step _ rfl (SO.val rfl rfl rfl rfl (r_loadAgg (vs := [_, _, _]) rfl (ev_t rfl) agg_28 size_28 (kid_cells hr hxi rfl)) ?_)
              refine ⟨hS10, ?_⟩
              refine WN.step _ rfl (SO.call (ih _ _ _ _ _ _ kk (by omega) htk hv hl hls) rfl body_17 ⟨(ev_t rfl), (ev_t rfl), (ev_t rfl), trivial⟩ rfl rfl rfl rfl ?_)
              rintro v w8 ⟨a8, b8, c8, rfl, ht8, hu8⟩
              obtain ⟨m8, A8, k8, xk8, rfl, rfl, rfl, _⟩ := ht8.open
              have hs8 := hu8.size
              have hs8 := hu8.size
              replace hS10 := Upd.transA hS10 hu8
              replace hU := hU.trans hu8 (by exact (fun _ _ h => h))
              replace hr := hr.upd hu8 (fun k hk hl hS => by exact (show False from hS).elim)
              replace hks := hks.upd hu8 (fun k hk hl hS => by exact (show False from hS).elim)
              replace hv := hv.upd hu8 (fun k hk hl hS => by exact (show False from hS).elim)
              replace hl := hl.upd hu8 (fun k hk hl hS => by exact (show False from hS).elim)
              replace hls := hls.upd hu8 (fun k hk hl hS => by exact (show False from hS).elim)
              replace hB1 := hB1.upd hu8 (by exact (fun h => h))
              replace hB2 := hB2.upd hu8 (by exact (fun h => h))
              replace hb8 := hb8.upd hu8 (by exact (fun h => h))
              replace ho := ho.upd hu8 (fun k hk hl hS => by exact (show False from hS).elim)
              replace hys := hys.upd hu8 (fun k hk hl hS => by have := hT k hk; exact (show False from hS).elim)
              replace htk := htk.upd hu8 (fun k hk hl hS => by exact (show False from hS).elim)
              have hys2 := (hys.mono (F' := fun k => T k ∨ (F k ∧ k < w.heap.size) ∨ New w7 w8 k) (fun k h => .inl h)).snoc (ht8.mono (F' := fun k => T k ∨ (F k ∧ k < w.heap.size) ∨ New w7 w8 k) (fun k h => .inr h))
              rw [← htake] at hys2
              refine ⟨hS10, ?_⟩
              refine WN.step _ rfl (SO.alloc rfl rfl rfl rfl (r_buildSlice (cs := #[_, _, _]) (vs := [(0, _)]) rfl ⟨⟨rfl, (ev_t rfl)⟩, trivial⟩ row_26 rfl rfl) ?_)
              intro w9 hu9 hB9 hz9
              have hs9 := hu9.size
              replace hS10 := Upd.transA hS10 hu9
              replace hU := hU.trans hu9 (by exact (fun _ _ h => h))
              replace hr := hr.upd hu9 (fun k hk hl hS => by exact (show False from hS).elim)
              replace hks := hks.upd hu9 (fun k hk hl hS => by exact (show False from hS).elim)
              replace hv := hv.upd hu9 (fun k hk hl hS => by exact (show False from hS).elim)
              replace hl := hl.upd hu9 (fun k hk hl hS => by exact (show False from hS).elim)
              replace hls := hls.upd hu9 (fun k hk hl hS => by exact (show False from hS).elim)
              replace hB1 := hB1.upd hu9 (by exact (fun h => h))
              replace hB2 := hB2.upd hu9 (by exact (fun h => h))
              replace hb8 := hb8.upd hu9 (by exact (fun h => h))
              replace ho := ho.upd hu9 (fun k hk hl hS => by exact (show False from hS).elim)
              replace hys2 := hys2.upd hu9 (fun k hk hl hS => by exact (show False from hS).elim)
              refine ⟨hS10, ?_⟩
              refine WN.step _ rfl (SO.append ho (show Rd _ _ _ 1 3 [Value.string ⟨(ext (putS vs ls) kk).nm.toArray⟩, .int .i64 m8, .slice A8 (ext (putS vs ls) kk).kids.length k8] from rd_one hB9) row_26 one_c3 (le_maxLen (by omega)) (by omega) rfl (ev_t rfl) (ev_t rfl) rfl rfl rfl rfl ?_)
              intro v10 w10 ho hu10
              have hs10 := hu10.size
              try replace hS10 := Upd.transA hS10 hu10
              replace hU := hU.trans hu10 (by (intro k hl hk; have := hG k hk; omega))
              replace hr := hr.upd hu10 (fun k hk hl hS => by (have := hG k hS; omega))
              replace hks := hks.upd hu10 (fun k hk hl hS => by (have := hG k hS; omega))
              replace hv := hv.upd hu10 (fun k hk hl hS => by (have := hG k hS; omega))
              replace hl := hl.upd hu10 (fun k hk hl hS => by (have := hG k hS; omega))
              replace hls := hls.upd hu10 (fun k hk hl hS => by (have := hG k hS; omega))
              replace hB1 := hB1.upd hu10 (by (intro hS; have := hG _ hS; omega))
              replace hB2 := hB2.upd hu10 (by (intro hS; have := hG _ hS; omega))
              replace hb8 := hb8.upd hu10 (by (intro hS; have := hG _ hS; omega))
              replace hys2 := hys2.upd hu10 (fun k hk hl hS => by (rcases hk with hk | hk | hk <;> first | exact (hT k hk).2.2 hS | (have := hT k hk; simp only [At] at hS; omega) | (simp only [New] at hk; have := hG k hS; omega) | (have := hG k hS; omega) | (simp only [New, At] at *; omega)))
              refine ⟨trivial, ?_⟩
              obtain ⟨A10, c10, rfl, hc10⟩ := Own.form ho
              rw [← flat_snoc] at ho
              first | refine WN.calm _ rfl rfl rfl rfl rfl (fun _ => r_field0 rfl (ev_t rfl) fld_28_2) ?_ | refine WN.calm _ rfl rfl rfl rfl rfl (fun _ => r_fieldAt rfl (ev_t rfl) fld_28_2) ?_
              refine WN.step _ rfl (SO.store rfl (ev_t rfl) (ev_t rfl) size_26 hb8 rfl rfl rfl rfl rfl ?_)
              intro w11 hu11 hb8 hz11
              have hs11 := hu11.size
              try replace hS10 := Upd.transA hS10 hu11
              replace hU := hU.trans hu11 (by (intro k hl hk; (try simp only [At, New, Grow, From, No] at hk ⊢); omega))
              replace hr := hr.upd hu11 (fun k hk hl hS => by (simp only [At] at hS; omega))
              replace hks := hks.upd hu11 (fun k hk hl hS => by (simp only [At] at hS; omega))
              replace hv := hv.upd hu11 (fun k hk hl hS => by (simp only [At] at hS; omega))
              replace hl := hl.upd hu11 (fun k hk hl hS => by (simp only [At] at hS; omega))
              replace hls := hls.upd hu11 (fun k hk hl hS => by (simp only [At] at hS; omega))
              replace hB1 := hB1.upd hu11 (by (simp only [At]; omega))
              replace hB2 := hB2.upd hu11 (by (simp only [At]; omega))
              replace ho := ho.upd hu11 (fun k hk hl hS => by (simp only [At] at hS; first | (have := hG k hk; omega) | (rcases hk with hk | hk <;> first | (have := hG k hk; omega) | omega)))
              replace hys2 := hys2.upd hu11 (fun k hk hl hS => by (rcases hk with hk | hk | hk <;> first | exact (hT k hk).2.2 hS | (have := hT k hk; simp only [At] at hS; omega) | (simp only [New] at hk; have := hG k hS; omega) | (have := hG k hS; omega) | (simp only [New, At] at *; omega)))
              refine ⟨trivial, ?_⟩
              refine WN.done ?_
              refine WX.keep [(1, _), (2, _), (3, _), (6, _), (8, _), (9, _)] ⟨rfl, rfl, rfl, rfl, rfl, rfl, trivial⟩ ?_
              refine WX.blockNormal ?_
              refine WX.next ?_
              refine WC.region ?_
              refine WL.val rfl rfl rfl rfl (r_move rfl (ev_t rfl)) ?_
              first | refine WL.val rfl rfl rfl rfl (r_addN rfl (ev_t rfl) ev_c (by simp only [inK]; omega)) ?_ | refine WL.val rfl rfl rfl rfl (r_add rfl (ev_t rfl) ev_c) ?_
              refine WL.val rfl rfl rfl rfl (r_assign rfl (ev_t rfl)) ?_
              refine WL.nil ?_
              refine WX.keep [(1, _), (2, _), (3, _), (6, _), (8, _), (9, _)] ⟨rfl, rfl, rfl, rfl, rfl, rfl, trivial⟩ ?_
              refine WX.meet [(1, _), (2, _), (3, _), (6, _), (8, _), (9, _)] ⟨rfl, rfl, rfl, rfl, rfl, rfl, trivial⟩ ?_
              refine ⟨t.kids.length - (i + 1), by omega, i + 1, _, _, _, _, _, by omega, rfl, hU, by omega, hr, hks, hv, hl, hls, hB1, hB2, hb8, ho, hys2, fun k hk => ?_, fun k hk => ?_, by simp⟩
              · rcases hk with hk | hk
                · have := hG k hk; omega
                · omega
              · rcases hk with hk | hk | hk
                · have h9 := hT k hk
                  refine ⟨h9.1, by omega, fun h => ?_⟩
                  rcases h with h | h
                  · exact h9.2.2 h
                  · omega
                · refine ⟨.inl hk, by omega, fun h => ?_⟩
                  rcases h with h | h
                  · have := hG k h; omega
                  · omega
                · simp only [New] at hk
                  refine ⟨.inr (by omega), by omega, fun h => ?_⟩
                  rcases h with h | h
                  · have := hG k h; omega
                  · omega
           · try (exfalso; first | (simp at hc8; done) | (simp only [decide_eq_true_eq, decide_eq_false_iff_not, Bool.not_eq_true', Bool.not_eq_false', Bool.not_eq_true, Bool.not_eq_false] at hc8; omega) | omega)
             all_goals
              try simp only [decide_eq_true_eq, decide_eq_false_iff_not, Bool.not_eq_true', Bool.not_eq_false', Bool.not_eq_true, Bool.not_eq_false, Option.isNone_none, Option.isNone_some, Option.isSome_none, Option.isSome_some, ne_eq, Decidable.not_not] at hc8
              refine WC.exit ?_
              refine WX.thenExit ?_
              refine WX.thenExit ?_
              refine WX.blockHere ?_
              refine WX.next ?_
              refine WC.seq ?_
              refine WC.region ?_
              refine WL.val rfl rfl rfl rfl (r_loadAgg (vs := [_, _, _]) rfl (ev_t rfl) agg_28 size_28 (Blk.cellsL hb8)) ?_
              refine WL.cons (SO.storeAll (us := [_, _, _]) rfl (ev_t rfl) (ev_t rfl) size_28 hB2 rfl rfl rfl rfl rfl ?_)
              intro w12 hu12 hB2 hz12
              have hs12 := hu12.size
              replace hU := hU.trans hu12 (by (intro k hl hk; (try simp only [At, New, Grow, From, No] at hk ⊢); omega))
              replace hr := hr.upd hu12 (fun k hk hl hS => by (simp only [At] at hS; omega))
              replace hks := hks.upd hu12 (fun k hk hl hS => by (simp only [At] at hS; omega))
              replace hv := hv.upd hu12 (fun k hk hl hS => by (simp only [At] at hS; omega))
              replace hl := hl.upd hu12 (fun k hk hl hS => by (simp only [At] at hS; omega))
              replace hls := hls.upd hu12 (fun k hk hl hS => by (simp only [At] at hS; omega))
              replace hB1 := hB1.upd hu12 (by (simp only [At]; omega))
              replace hb8 := hb8.upd hu12 (by (simp only [At]; omega))
              replace ho := ho.upd hu12 (fun k hk hl hS => by (simp only [At] at hS; first | (have := hG k hk; omega) | (rcases hk with hk | hk <;> first | (have := hG k hk; omega) | omega)))
              replace hys := hys.upd hu12 (fun k hk hl hS => by have := hT k hk; (simp only [At] at hS; omega))
              refine WL.nil ?_
              refine WX.keep [(6, _)] ⟨rfl, trivial⟩ ?_
              refine WX.next ?_
              refine WC.ret ?_
              refine WX.retC (vs := [_, _, _]) rfl rfl agg_28 size_28 (Blk.cellsL hB2) ?_
              obtain rfl : i = t.kids.length := by omega
              rw [List.take_of_length_le (Nat.le_refl _), ← e2] at hys
              have e4 : (ext (putS vs ls) t).kids.length = t.kids.length := by rw [e2, List.length_map]
              refine ⟨_, _, _, rfl, ?_, hU⟩
              rw [← e1]
              refine TV.kids (xs := ys) (fun x e => hm x (e3 x e)) ?_ (by omega) (hys.mono fun k hk => ?_)
              · rw [e4]
                exact (ho.rd (by omega)).mono fun k hk => by have := hG k hk; simp only [New]; exact .inr (by omega)
              · have h9 := hT k hk
                rcases h9.1 with h | h
                · exact .inl h.1
                · exact .inr ⟨by omega, by have := h9.2.1; omega⟩
end Go.Proofs.Ytncakfcafkfmfaa
