/-
  types: Unify.
-/
import Derived.Test.YtncakfcafkfmfaaTyf
namespace Go.Proofs.Ytncakfcafkfmfaa
open Go
set_option linter.unusedSimpArgs false
set_option linter.unusedVariables false

theorem done_val (D : Dn) (p : Int × Int) : (lookA (doneE D) p).getD (.bool false) = .bool (decide (p ∈ D)) := by
  rw [look_doneE]
  by_cases h : p ∈ D <;> simp [h]
theorem unF_none {n : Nat} {σ : Sg} {D : Dn} {a b : Ty} {R : UnS} (hp : pairOf a b = none) (h : unF (n + 1) σ D a b = some R) : ∃ a' b', hdF σ n a = some a' ∧ hdF σ n b = some b' ∧ unH n (unF n) σ D a' b' = some R := by
  simp only [unF, hp] at h
  split at h
  · rename_i a' b' h1 h2
    exact ⟨a', b', h1, h2, h⟩
  · cases h
theorem unF_some {n : Nat} {σ : Sg} {D : Dn} {a b : Ty} {R : UnS} {p : Int × Int} (hp : pairOf a b = some p) (h : unF (n + 1) σ D a b = some R) :
    (p ∈ D → R = (true, σ, D)) ∧ (p ∉ D → ∃ a' b', hdF σ n a = some a' ∧ hdF σ n b = some b' ∧ unH n (unF n) σ (D ++ [p]) a' b' = some R) := by
  simp only [unF, hp] at h
  refine ⟨fun hD => ?_, fun hD => ?_⟩
  · rw [if_pos hD] at h
    injection h with h
    exact h.symm
  · rw [if_neg hD] at h
    split at h
    · rename_i a' b' h1 h2
      exact ⟨a', b', h1, h2, h⟩
    · cases h
theorem unH_v {n : Nat} {f : Sg → Dn → Ty → Ty → Option UnS} {σ : Sg} {D : Dn} {x : Int} {b : Ty} (hb : b ≠ .v x) : unH n f σ D (.v x) b = bdF n σ D x b := by
  cases b with
  | v y =>
    have : ¬ x = y := fun e => hb (by rw [e])
    simp only [unH, this, if_false]
  | c g ls => rfl
theorem bdF_inv {n : Nat} {σ : Sg} {D : Dn} {x : Int} {t : Ty} {R : UnS} (h : bdF n σ D x t = some R) : ∃ s, frF σ n t ([], []) = some s ∧ s.1.length ≤ 1000000000 ∧ (x ∈ s.1 → R = (false, σ, D)) ∧ (x ∉ s.1 → R = (true, σ ++ [(x, t)], D)) := by
  simp only [bdF] at h
  split at h
  · cases h
  · rename_i s hs
    split at h
    · cases h
    · rename_i hl
      refine ⟨s, hs, by omega, fun hx => ?_, fun hx => ?_⟩
      · rw [if_pos hx] at h; injection h with h; exact h.symm
      · rw [if_neg hx] at h; injection h with h; exact h.symm
theorem unL_cons {f : Sg → Dn → Ty → Ty → Option UnS} {ks ls : List Ty} {i : Nat} {k l : Ty} {σ : Sg} {D : Dn} {R : UnS} (hk : ks[i]? = some k) (hl : ls[i]? = some l) (h : unL f (ks.drop i) (ls.drop i) σ D = some R) :
    ∃ r1 σ1 D1, f σ D k l = some (r1, σ1, D1) ∧ (r1 = false → R = (false, σ1, D1)) ∧ (r1 = true → unL f (ks.drop (i + 1)) (ls.drop (i + 1)) σ1 D1 = some R) := by
  have hi : i < ks.length := (List.getElem?_eq_some_iff.1 hk).1
  have hi' : i < ls.length := (List.getElem?_eq_some_iff.1 hl).1
  rw [List.drop_eq_getElem_cons hi, List.drop_eq_getElem_cons hi'] at h
  rw [List.getElem?_eq_getElem hi] at hk
  rw [List.getElem?_eq_getElem hi'] at hl
  injection hk with hk
  injection hl with hl
  rw [hk, hl] at h
  simp only [unL] at h
  split at h
  · cases h
  · rename_i s1 d1 he
    injection h with h
    exact ⟨false, s1, d1, he, fun _ => h.symm, fun e => Bool.noConfusion e⟩
  · rename_i s1 d1 he
    exact ⟨true, s1, d1, he, fun e => Bool.noConfusion e, fun _ => h⟩
theorem nm_c {t : Ty} (h : t.nm ≠ []) : ∃ f ks, t = .c f ks := by
  cases t with
  | v x => exact absurd rfl h
  | c f ks => exact ⟨f, ks, rfl⟩
theorem pairOf_c {f : Nm} {ks : List Ty} {b : Ty} : pairOf (.c f ks) b = none := rfl
theorem pairOf_vc {x : Int} {f : Nm} {ks : List Ty} : pairOf (.v x) (.c f ks) = none := rfl
theorem ne_c {f : Nm} {ks : List Ty} {y : Int} : Ty.c f ks ≠ .v y := fun e => by cases e
theorem nmv_ne {f g : Nm} (h : f.1 ≠ g.1) : f ≠ g := fun e => h (by rw [e])
theorem nmv_eq {f g : Nm} (h : f.1 = g.1) : f = g := Subtype.ext h

set_option maxHeartbeats 4000000 in
theorem unify_ok {F : Nat → Prop} {p m1 m2 : Nat} {nn : Int} (hF : ∀ k, F k → ¬ Mut p m1 m2 k) : ∀ (n : Nat) (w : World) (σ : Sg) (D : Dn) (xs : List C3) (a b : Ty) (a1 a2 a3 b1 b2 b3 : Value) (r : Bool) (σ' : Sg) (D' : Dn), unF n σ D a b = some (r, σ', D') →
    (∀ k, F k → k < w.heap.size) → IsS w F p m1 m2 σ D nn xs → TV w F (a1, a2, a3) a → TV w F (b1, b2, b3) b →
    Ret Try.prog 12 #[.pointer (some ⟨p, 0, none⟩), .agg #[a1, a2, a3], .agg #[b1, b2, b3]] w fun v w' => v = .bool r ∧ (∃ xs', IsS w' F p m1 m2 σ' D' nn xs') ∧ Upd (Mut p m1 m2) w w' := by
  intro n
  induction n with
  | zero => intro w σ D xs a b a1 a2 a3 b1 b2 b3 r σ' D' h; simp [unF] at h
  | succ n ih =>
    intro w σ D xs a b a1 a2 a3 b1 b2 b3 r σ' D' hf hFb hI hta htb
    obtain ⟨hlp, hl1, hl2⟩ := hI.lt
    have hn1 := hI.ne1
    have hn2 := hI.ne2
    have hn3 := hI.ne
    obtain ⟨ma, Aa, ka, xka, rfl, rfl, rfl, hma, hra, hla, hba, hka⟩ := hta.open
    obtain ⟨mb, Ab, kb, xkb, rfl, rfl, rfl, hmb, hrb, hlb, hbb, hkb⟩ := htb.open
    refine enterRet (vs := [_, _, _]) (N := 115) Try.func12 rfl rfl rfl ?_
    have hU := Upd.refl (Mut p m1 m2) w
    refine WC.keep [(0, _), (1, _), (2, _)] ⟨rfl, rfl, rfl, trivial⟩ ?_
    refine WC.seq ?_
    refine WC.region ?_
    refine WL.cons (SO.alloc rfl rfl rfl rfl (r_boxAgg rfl (ev_t rfl)) ?_)
    intro w1 hu1 hB1 hz1
    have hs1 := hu1.size
    replace hU := hU.trans hu1 (by exact (fun _ _ h => h.elim))
    replace hI := hI.upd hu1 (fun k hk hl hS => by exact (show False from hS).elim)
    replace hta := hta.upd hu1 (fun k hk hl hS => by exact (show False from hS).elim)
    replace htb := htb.upd hu1 (fun k hk hl hS => by exact (show False from hS).elim)
    refine WL.cons (SO.alloc rfl rfl rfl rfl (r_boxAgg rfl (ev_t rfl)) ?_)
    intro w2 hu2 hB2 hz2
    have hs2 := hu2.size
    replace hU := hU.trans hu2 (by exact (fun _ _ h => h.elim))
    replace hI := hI.upd hu2 (fun k hk hl hS => by exact (show False from hS).elim)
    replace hta := hta.upd hu2 (fun k hk hl hS => by exact (show False from hS).elim)
    replace htb := htb.upd hu2 (fun k hk hl hS => by exact (show False from hS).elim)
    replace hB1 := hB1.upd hu2 (fun hS => by exact (show False from hS))
    refine WL.val rfl rfl rfl rfl (r_assign rfl ev_c) ?_
    refine WL.nil ?_
    refine WX.keep [(0, _), (4, _), (5, _)] ⟨rfl, rfl, rfl, trivial⟩ ?_
    refine WX.next ?_
    -- cut 1: live [0, 4, 5]
    refine WC.cut (fun E wA => ∃ (D1 : Dn) (a' b' : Ty), Upd (Mut p m1 m2) w wA ∧ w.heap.size + 2 ≤ wA.heap.size ∧ Blk wA w.heap.size #[.string ⟨a.nm.toArray⟩, .int .i64 ma, .slice Aa a.kids.length ka] typ ∧ Blk wA w1.heap.size #[.string ⟨b.nm.toArray⟩, .int .i64 mb, .slice Ab b.kids.length kb] typ ∧ IsS wA F p m1 m2 σ D1 nn xs ∧ TV wA F (.string ⟨a.nm.toArray⟩, .int .i64 ma, .slice Aa a.kids.length ka) a ∧ TV wA F (.string ⟨b.nm.toArray⟩, .int .i64 mb, .slice Ab b.kids.length kb) b ∧   hdF σ n a = some a' ∧ hdF σ n b = some b' ∧ unH n (unF n) σ D1 a' b' = some (r, σ', D') ∧   E = [(0, .pointer (some ⟨p, 0, none⟩)), (4, .pointer (some ⟨w.heap.size, 0, none⟩)), (5, .pointer (some ⟨w1.heap.size, 0, none⟩))]) ?_ ?_
    · refine WC.seq ?_
      refine WC.region ?_
      first | refine WL.val rfl rfl rfl rfl (r_field0 rfl (ev_t rfl) fld_28_1) ?_ | refine WL.val rfl rfl rfl rfl (r_fieldAt rfl (ev_t rfl) fld_28_1) ?_
      refine WL.val rfl rfl rfl rfl (r_load rfl (ev_t rfl) flat_3 (Blk.cell hB1 rfl)) ?_
      first | refine WL.val rfl rfl rfl rfl (r_field0 rfl (ev_t rfl) fld_28_1) ?_ | refine WL.val rfl rfl rfl rfl (r_fieldAt rfl (ev_t rfl) fld_28_1) ?_
      refine WL.val rfl rfl rfl rfl (r_load rfl (ev_t rfl) flat_3 (Blk.cell hB2 rfl)) ?_
      refine WL.val rfl rfl rfl rfl (r_buildA (cs := #[_, _]) (vs := [(0, _), (1, _)]) rfl ⟨⟨rfl, (ev_t rfl)⟩, ⟨rfl, (ev_t rfl)⟩, trivial⟩ arrz_60 zero_60 rfl) ?_
      refine WL.cons (SO.alloc rfl rfl rfl rfl (r_alloc rfl zero_60) ?_)
      intro w3 hu3 hB3 hz3
      have hs3 := hu3.size
      replace hU := hU.trans hu3 (by exact (fun _ _ h => h.elim))
      replace hI := hI.upd hu3 (fun k hk hl hS => by exact (show False from hS).elim)
      replace hta := hta.upd hu3 (fun k hk hl hS => by exact (show False from hS).elim)
      replace htb := htb.upd hu3 (fun k hk hl hS => by exact (show False from hS).elim)
      replace hB1 := hB1.upd hu3 (fun hS => by exact (show False from hS))
      replace hB2 := hB2.upd hu3 (fun hS => by exact (show False from hS))
      refine WL.cons (SO.store2 rfl (ev_t rfl) (ev_t rfl) size_60 hB3 rfl rfl rfl rfl rfl rfl ?_)
      intro w4 hu4 hB3 hz4
      have hs4 := hu4.size
      replace hU := hU.trans hu4 (by (intro k hl hk; (try simp only [At, New, Grow, From, No] at hk ⊢); omega))
      replace hI := hI.upd hu4 (fun k hk hl hS => by (simp only [At] at hS; subst hS; rcases hk with hk | hk; simp only [Mut] at hk; omega; have := hFb _ hk; omega))
      replace hta := hta.upd hu4 (fun k hk hl hS => by (simp only [At] at hS; have := hFb k hk; omega))
      replace htb := htb.upd hu4 (fun k hk hl hS => by (simp only [At] at hS; have := hFb k hk; omega))
      replace hB1 := hB1.upd hu4 (fun hS => by (simp only [At] at hS; omega))
      replace hB2 := hB2.upd hu4 (fun hS => by (simp only [At] at hS; omega))
      refine WL.nil ?_
      refine WX.keep [(0, _), (4, _), (5, _), (7, _)] ⟨rfl, rfl, rfl, rfl, trivial⟩ ?_
      refine WX.next ?_
      refine WC.seq ?_
      refine WC.region ?_
      first | refine WL.val rfl rfl rfl rfl (r_field0 rfl (ev_t rfl) fld_28_0) ?_ | refine WL.val rfl rfl rfl rfl (r_fieldAt rfl (ev_t rfl) fld_28_0) ?_
      refine WL.val rfl rfl rfl rfl (r_load rfl (ev_t rfl) flat_9 (Blk.cell hB1 rfl)) ?_
      refine WL.val rfl rfl rfl rfl (r_eqlStrL rfl (ev_t rfl) ev_c) ?_
      refine WL.val rfl rfl rfl rfl (r_move rfl (ev_t rfl)) ?_
      refine WL.cases 17 rfl (fun hb2_3 => ?_) (fun hb2_3 => ?_)
      · try (exfalso; first | (simp at hb2_3; done) | (simp only [decide_eq_true_eq, decide_eq_false_iff_not, Bool.not_eq_true', Bool.not_eq_false', Bool.not_eq_true, Bool.not_eq_false] at hb2_3; omega) | omega)
        all_goals
         try simp only [decide_eq_true_eq, decide_eq_false_iff_not, Bool.not_eq_true', Bool.not_eq_false', Bool.not_eq_true, Bool.not_eq_false, Option.isNone_none, Option.isNone_some, Option.isSome_none, Option.isSome_some, ne_eq, Decidable.not_not] at hb2_3
         obtain ⟨x, rfl⟩ := Ty.nm_nil.1 hb2_3
         obtain rfl := (hma x rfl).symm
         first | refine WL.val rfl rfl rfl rfl (r_field0 rfl (ev_t rfl) fld_28_0) ?_ | refine WL.val rfl rfl rfl rfl (r_fieldAt rfl (ev_t rfl) fld_28_0) ?_
         refine WL.val rfl rfl rfl rfl (r_load rfl (ev_t rfl) flat_9 (Blk.cell hB2 rfl)) ?_
         refine WL.val rfl rfl rfl rfl (r_eqlStrL rfl (ev_t rfl) ev_c) ?_
         refine WL.val rfl rfl rfl rfl (r_pickT rfl (ev_t rfl) (ev_t rfl)) ?_
         refine WL.nil ?_
         refine WX.keep [(0, _), (4, _), (5, _), (7, _), (21, _)] ⟨rfl, rfl, rfl, rfl, rfl, trivial⟩ ?_
         refine WX.next ?_
         refine WC.cond rfl (ev_t rfl) (fun hc2 => ?_) (fun hc2 => ?_)
         · try (exfalso; first | (simp at hc2; done) | (simp only [decide_eq_true_eq, decide_eq_false_iff_not, Bool.not_eq_true', Bool.not_eq_false', Bool.not_eq_true, Bool.not_eq_false] at hc2; omega) | omega)
           all_goals
            try simp only [decide_eq_true_eq, decide_eq_false_iff_not, Bool.not_eq_true', Bool.not_eq_false', Bool.not_eq_true, Bool.not_eq_false, Option.isNone_none, Option.isNone_some, Option.isSome_none, Option.isSome_some, ne_eq, Decidable.not_not] at hc2
            obtain ⟨y, rfl⟩ := Ty.nm_nil.1 hc2
            obtain rfl := (hmb y rfl).symm
            have hsm := unF_some (p := (x, y)) rfl hf
            refine WC.seq ?_
            refine WC.seq ?_
            refine WC.draws' (fun u0_ u1_ => Upd No u0_ u1_) (fun j => [0, 0, 0, 0, 1, 2].getD j 0) (.calm 0 (.calm 1 (.calm 2 (.held 3 (.one 4 (.one 5 (.done))))))) mixed (by kernel_rfl) (by repeat (first | with_reducible exact Deaf.body | with_reducible apply Deaf.then)) ?_
            intro w5 hu5
            have hz5 := congrArg Array.size hu5.2.2.2
            replace hu5 := Upd.of_draw hu5
            have hs5 := hu5.size
            replace hU := hU.trans hu5 (by exact (fun _ _ h => h.elim))
            replace hI := hI.upd hu5 (fun k hk hl hS => by exact (show False from hS).elim)
            replace hta := hta.upd hu5 (fun k hk hl hS => by exact (show False from hS).elim)
            replace htb := htb.upd hu5 (fun k hk hl hS => by exact (show False from hS).elim)
            replace hB1 := hB1.upd hu5 (fun hS => by exact (show False from hS))
            replace hB2 := hB2.upd hu5 (fun hS => by exact (show False from hS))
            replace hB3 := hB3.upd hu5 (fun hS => by exact (show False from hS))
            have hS3 := Upd.refl No w5
            refine WN.calm _ rfl rfl rfl rfl rfl (fun _ => r_move rfl (ev_t rfl)) ?_
            refine WN.calm _ rfl rfl rfl rfl rfl (fun _ => r_nilCheck rfl (ev_t rfl)) ?_
            first | refine WN.calm _ rfl rfl rfl rfl rfl (fun _ => r_field0 rfl (ev_t rfl) fld_59_2) ?_ | refine WN.calm _ rfl rfl rfl rfl rfl (fun _ => r_fieldAt rfl (ev_t rfl) fld_59_2) ?_
            refine WN.held _ rfl rfl rfl rfl rfl hS3 (fun w' hS => r_load rfl (ev_t rfl) flat_57 (Blk.cell (hI.hd.upd hS (fun h => h)) rfl)) ?_
            refine WN.step _ rfl (SO.val rfl rfl rfl rfl (r_loadAgg (vs := [_, _]) rfl (ev_t rfl) agg_60 size_60 (Blk.cells2 hB3)) ?_)
            refine ⟨hS3, ?_⟩
            refine WN.step _ rfl (SO.val rfl rfl rfl rfl (r_lookupW keyP hI.dn (done_val _ (x, y)) rfl (ev_t rfl) (ev_t rfl) map_57 zero_4) ?_)
            refine ⟨trivial, ?_⟩
            refine WN.done ?_
            refine WX.keep [(0, _), (4, _), (5, _), (7, _), (27, _)] ⟨rfl, rfl, rfl, rfl, rfl, trivial⟩ ?_
            refine WX.next ?_
            refine WC.cond rfl (ev_t rfl) (fun hc3 => ?_) (fun hc3 => ?_)
            · try (exfalso; first | (simp at hc3; done) | (simp only [decide_eq_true_eq, decide_eq_false_iff_not, Bool.not_eq_true', Bool.not_eq_false', Bool.not_eq_true, Bool.not_eq_false] at hc3; omega) | omega)
              all_goals
               try simp only [decide_eq_true_eq, decide_eq_false_iff_not, Bool.not_eq_true', Bool.not_eq_false', Bool.not_eq_true, Bool.not_eq_false, Option.isNone_none, Option.isNone_some, Option.isSome_none, Option.isSome_some, ne_eq, Decidable.not_not] at hc3
               obtain hR := hsm.1 (by simpa using hc3)
               injection hR with hR1 hR2
               injection hR2 with hR2 hR3
               subst hR1 hR2 hR3
               refine WC.seq ?_
               refine WC.region ?_
               refine WL.val rfl rfl rfl rfl (r_assign rfl ev_c) ?_
               refine WL.nil ?_
               refine WX.keep [(6, _)] ⟨rfl, trivial⟩ ?_
               refine WX.next ?_
               refine WC.ret ?_
               refine WX.thenRet ?_
               refine WX.thenRet ?_
               refine WX.retE1 rfl rfl ?_
               exact ⟨rfl, ⟨xs, hI⟩, hU⟩
            · try (exfalso; first | (simp at hc3; done) | (simp only [decide_eq_true_eq, decide_eq_false_iff_not, Bool.not_eq_true', Bool.not_eq_false', Bool.not_eq_true, Bool.not_eq_false] at hc3; omega) | omega)
              all_goals
               try simp only [decide_eq_true_eq, decide_eq_false_iff_not, Bool.not_eq_true', Bool.not_eq_false', Bool.not_eq_true, Bool.not_eq_false, Option.isNone_none, Option.isNone_some, Option.isSome_none, Option.isSome_some, ne_eq, Decidable.not_not] at hc3
               have hD0 : (x, y) ∉ D := by simpa using hc3
               obtain ⟨a', b', ha', hb', huh⟩ := hsm.2 hD0
               refine WC.skip ?_
               refine WX.next ?_
               refine WC.draws' (fun u0_ u1_ => Upd No u0_ u1_) (fun j => [0, 0, 0, 0, 1, 2].getD j 0) (.calm 0 (.calm 1 (.calm 2 (.held 3 (.one 4 (.one 5 (.done))))))) mixed (by kernel_rfl) (by repeat (first | with_reducible exact Deaf.body | with_reducible apply Deaf.then)) ?_
               intro w6 hu6
               have hz6 := congrArg Array.size hu6.2.2.2
               replace hu6 := Upd.of_draw hu6
               have hs6 := hu6.size
               replace hU := hU.trans hu6 (by exact (fun _ _ h => h.elim))
               replace hI := hI.upd hu6 (fun k hk hl hS => by exact (show False from hS).elim)
               replace hta := hta.upd hu6 (fun k hk hl hS => by exact (show False from hS).elim)
               replace htb := htb.upd hu6 (fun k hk hl hS => by exact (show False from hS).elim)
               replace hB1 := hB1.upd hu6 (fun hS => by exact (show False from hS))
               replace hB2 := hB2.upd hu6 (fun hS => by exact (show False from hS))
               replace hB3 := hB3.upd hu6 (fun hS => by exact (show False from hS))
               have hS5 := Upd.refl No w6
               refine WN.calm _ rfl rfl rfl rfl rfl (fun _ => r_move rfl (ev_t rfl)) ?_
               refine WN.calm _ rfl rfl rfl rfl rfl (fun _ => r_nilCheck rfl (ev_t rfl)) ?_
               first | refine WN.calm _ rfl rfl rfl rfl rfl (fun _ => r_field0 rfl (ev_t rfl) fld_59_2) ?_ | refine WN.calm _ rfl rfl rfl rfl rfl (fun _ => r_fieldAt rfl (ev_t rfl) fld_59_2) ?_
               refine WN.held _ rfl rfl rfl rfl rfl hS5 (fun w' hS => r_load rfl (ev_t rfl) flat_57 (Blk.cell (hI.hd.upd hS (fun h => h)) rfl)) ?_
               refine WN.step _ rfl (SO.val rfl rfl rfl rfl (r_loadAgg (vs := [_, _]) rfl (ev_t rfl) agg_60 size_60 (Blk.cells2 hB3)) ?_)
               refine ⟨hS5, ?_⟩
               obtain ⟨hhd, hof, hdn, hne, htv⟩ := hI
               refine WN.step _ rfl (SO.mapNew keyP (a := (x, y)) hdn ((look_doneE _ _).trans (if_neg hD0)) rfl (ev_t rfl) (ev_t rfl) ev_c map_57 rfl rfl rfl ?_)
               intro w7 hu7 hdn hz7
               have hs7 := hu7.size
               try replace hS5 := Upd.transA hS5 hu7
               replace hU := hU.trans hu7 (by (intro k hl hk; first | exact hk | (simp only [At] at hk; simp only [Mut]; omega)))
               replace hta := hta.upd hu7 (fun k hk hl hS => by (simp only [At] at hS; subst hS; exact hF _ hk (by (first | exact .inl rfl | exact .inr (.inl rfl) | exact .inr (.inr rfl)))))
               replace htb := htb.upd hu7 (fun k hk hl hS => by (simp only [At] at hS; subst hS; exact hF _ hk (by (first | exact .inl rfl | exact .inr (.inl rfl) | exact .inr (.inr rfl)))))
               replace hB1 := hB1.upd hu7 (fun hS => by (simp only [At] at hS; omega))
               replace hB2 := hB2.upd hu7 (fun hS => by (simp only [At] at hS; omega))
               replace hB3 := hB3.upd hu7 (fun hS => by (simp only [At] at hS; omega))
               replace hhd := hhd.upd hu7 (fun hS => by (simp only [At] at hS; omega))
               replace hof := hof.upd hu7 (fun hS => by (simp only [At] at hS; omega))
               replace htv := htv.upd hu7 (fun k hk hl hS => by (simp only [At] at hS; subst hS; exact hF _ hk (by (first | exact .inl rfl | exact .inr (.inl rfl) | exact .inr (.inr rfl)))))
               refine ⟨trivial, ?_⟩
               rw [← doneE_snoc] at hdn
               have hI : IsS w7 F p m1 m2 σ (D ++ [(x, y)]) nn xs := ⟨hhd, hof, hdn, hne, htv⟩
               refine WN.done ?_
               refine WX.keep [(0, _), (4, _), (5, _)] ⟨rfl, rfl, rfl, trivial⟩ ?_
               refine WX.meet [(0, _), (4, _), (5, _)] ⟨rfl, rfl, rfl, trivial⟩ ?_
               exact ⟨_, a', b', hU, by omega, hB1, hB2, hI, hta, htb, ha', hb', huh, rfl⟩
         · try (exfalso; first | (simp at hc2; done) | (simp only [decide_eq_true_eq, decide_eq_false_iff_not, Bool.not_eq_true', Bool.not_eq_false', Bool.not_eq_true, Bool.not_eq_false] at hc2; omega) | omega)
           all_goals
            try simp only [decide_eq_true_eq, decide_eq_false_iff_not, Bool.not_eq_true', Bool.not_eq_false', Bool.not_eq_true, Bool.not_eq_false, Option.isNone_none, Option.isNone_some, Option.isSome_none, Option.isSome_some, ne_eq, Decidable.not_not] at hc2
            obtain ⟨f, ks, rfl⟩ := nm_c hc2
            obtain ⟨a', b', ha', hb', huh⟩ := unF_none pairOf_vc hf
            refine WC.skip ?_
            refine WX.meet [(0, _), (4, _), (5, _)] ⟨rfl, rfl, rfl, trivial⟩ ?_
            exact ⟨_, a', b', hU, by omega, hB1, hB2, hI, hta, htb, ha', hb', huh, rfl⟩
      · try (exfalso; first | (simp at hb2_3; done) | (simp only [decide_eq_true_eq, decide_eq_false_iff_not, Bool.not_eq_true', Bool.not_eq_false', Bool.not_eq_true, Bool.not_eq_false] at hb2_3; omega) | omega)
        all_goals
         try simp only [decide_eq_true_eq, decide_eq_false_iff_not, Bool.not_eq_true', Bool.not_eq_false', Bool.not_eq_true, Bool.not_eq_false, Option.isNone_none, Option.isNone_some, Option.isSome_none, Option.isSome_some, ne_eq, Decidable.not_not] at hb2_3
         obtain ⟨f, ks, rfl⟩ := nm_c hb2_3
         obtain ⟨a', b', ha', hb', huh⟩ := unF_none pairOf_c hf
         refine WL.skip rfl rfl rfl ?_
         refine WL.skip rfl rfl rfl ?_
         refine WL.skip rfl rfl rfl ?_
         refine WL.val rfl rfl rfl rfl (r_pickF rfl (ev_t rfl) ev_c) ?_
         refine WL.nil ?_
         refine WX.keep [(0, _), (4, _), (5, _), (7, _), (21, _)] ⟨rfl, rfl, rfl, rfl, rfl, trivial⟩ ?_
         refine WX.next ?_
         refine WC.cond_false rfl (ev_t rfl) ?_
         refine WC.skip ?_
         refine WX.meet [(0, _), (4, _), (5, _)] ⟨rfl, rfl, rfl, trivial⟩ ?_
         exact ⟨_, a', b', hU, by omega, hB1, hB2, hI, hta, htb, ha', hb', huh, rfl⟩
    · clear hU hI hta htb hB1 hB2
      rintro E wA ⟨D1, a', b', hU, hsz, hb4, hb5, hI, hta, htb, ha', hb', huh, rfl⟩
      refine WC.seq ?_
      refine WC.draws' (fun u0_ u1_ => Upd No u0_ u1_) (fun j => [0, 0, 1, 0, 0, 2, 2, 2].getD j 0) (.calm 0 (.calm 3 (.held 1 (.held 4 (.one 2 (.one 5 (.one 6 (.one 7 (.done))))))))) mixed (by kernel_rfl) (by repeat (first | with_reducible exact Deaf.body | with_reducible apply Deaf.then)) ?_
      intro w8 hu8
      have hz8 := congrArg Array.size hu8.2.2.2
      replace hu8 := Upd.of_draw hu8
      have hs8 := hu8.size
      replace hU := hU.trans hu8 (by exact (fun _ _ h => h.elim))
      replace hI := hI.upd hu8 (fun k hk hl hS => by exact (show False from hS).elim)
      replace hta := hta.upd hu8 (fun k hk hl hS => by exact (show False from hS).elim)
      replace htb := htb.upd hu8 (fun k hk hl hS => by exact (show False from hS).elim)
      replace hb4 := hb4.upd hu8 (fun hS => by exact (show False from hS))
      replace hb5 := hb5.upd hu8 (fun hS => by exact (show False from hS))
      have hS6 := Upd.refl No w8
      refine WN.calm _ rfl rfl rfl rfl rfl (fun _ => r_move rfl (ev_t rfl)) ?_
      refine WN.calm _ rfl rfl rfl rfl rfl (fun _ => r_move rfl (ev_t rfl)) ?_
      refine WN.held _ rfl rfl rfl rfl rfl hS6 (fun w' hS => r_loadAgg (vs := [_, _, _]) rfl (ev_t rfl) agg_28 size_28 (Blk.cellsL (hb4.upd hS (fun h => h)))) ?_
      refine WN.held _ rfl rfl rfl rfl rfl hS6 (fun w' hS => r_loadAgg (vs := [_, _, _]) rfl (ev_t rfl) agg_28 size_28 (Blk.cellsL (hb5.upd hS (fun h => h)))) ?_
      refine WN.step _ rfl (SO.call (head_ok hI hta ha') rfl body_31 ⟨(ev_t rfl), (ev_t rfl), trivial⟩ rfl rfl rfl rfl ?_)
      rintro v w9 ⟨d1, d2, d3, rfl, hta2, hu9⟩
      obtain ⟨mc, Ac, kc, xkc, rfl, rfl, rfl, hmc, hrc, hlc, hbc, hkc⟩ := hta2.open
      have hs9 := hu9.size
      replace hS6 := Upd.transA hS6 hu9
      replace hU := hU.trans hu9 (by exact (fun _ _ h => h.elim))
      replace hI := hI.upd hu9 (fun k hk hl hS => by exact (show False from hS).elim)
      replace hta := hta.upd hu9 (fun k hk hl hS => by exact (show False from hS).elim)
      replace htb := htb.upd hu9 (fun k hk hl hS => by exact (show False from hS).elim)
      replace hb4 := hb4.upd hu9 (fun hS => by exact (show False from hS))
      replace hb5 := hb5.upd hu9 (fun hS => by exact (show False from hS))
      replace hta2 := hta2.upd hu9 (fun k hk hl hS => by exact (show False from hS).elim)
      refine ⟨hS6, ?_⟩
      refine WN.step _ rfl (SO.call (head_ok hI htb hb') rfl body_31 ⟨(ev_t rfl), (ev_t rfl), trivial⟩ rfl rfl rfl rfl ?_)
      rintro v w10 ⟨d1, d2, d3, rfl, htb2, hu10⟩
      obtain ⟨md, Ad, kd, xkd, rfl, rfl, rfl, hmd, hrd, hld, hbd, hkd⟩ := htb2.open
      have hs10 := hu10.size
      try replace hS6 := Upd.transA hS6 hu10
      replace hU := hU.trans hu10 (by exact (fun _ _ h => h.elim))
      replace hI := hI.upd hu10 (fun k hk hl hS => by exact (show False from hS).elim)
      replace hb4 := hb4.upd hu10 (fun hS => by exact (show False from hS))
      replace hb5 := hb5.upd hu10 (fun hS => by exact (show False from hS))
      replace hta2 := hta2.upd hu10 (fun k hk hl hS => by exact (show False from hS).elim)
      replace htb2 := htb2.upd hu10 (fun k hk hl hS => by exact (show False from hS).elim)
      refine ⟨trivial, ?_⟩
      refine WN.step _ rfl (SO.storeAll (us := [_, _, _]) rfl (ev_t rfl) (ev_t rfl) size_28 hb4 rfl rfl rfl rfl rfl ?_)
      intro w11 hu11 hb4 hz11
      have hs11 := hu11.size
      try replace hS6 := Upd.transA hS6 hu11
      replace hU := hU.trans hu11 (by (intro k hl hk; (try simp only [At, New, Grow, From, No] at hk ⊢); omega))
      replace hI := hI.upd hu11 (fun k hk hl hS => by (simp only [At] at hS; subst hS; rcases hk with hk | hk; simp only [Mut] at hk; omega; have := hFb _ hk; omega))
      replace hb5 := hb5.upd hu11 (fun hS => by (simp only [At] at hS; omega))
      replace hta2 := hta2.upd hu11 (fun k hk hl hS => by (simp only [At] at hS; have := hFb k hk; omega))
      replace htb2 := htb2.upd hu11 (fun k hk hl hS => by (simp only [At] at hS; have := hFb k hk; omega))
      refine ⟨trivial, ?_⟩
      refine WN.step _ rfl (SO.storeAll (us := [_, _, _]) rfl (ev_t rfl) (ev_t rfl) size_28 hb5 rfl rfl rfl rfl rfl ?_)
      intro w12 hu12 hb5 hz12
      have hs12 := hu12.size
      try replace hS6 := Upd.transA hS6 hu12
      replace hU := hU.trans hu12 (by (intro k hl hk; (try simp only [At, New, Grow, From, No] at hk ⊢); omega))
      replace hI := hI.upd hu12 (fun k hk hl hS => by (simp only [At] at hS; subst hS; rcases hk with hk | hk; simp only [Mut] at hk; omega; have := hFb _ hk; omega))
      replace hb4 := hb4.upd hu12 (fun hS => by (simp only [At] at hS; omega))
      replace hta2 := hta2.upd hu12 (fun k hk hl hS => by (simp only [At] at hS; have := hFb k hk; omega))
      replace htb2 := htb2.upd hu12 (fun k hk hl hS => by (simp only [At] at hS; have := hFb k hk; omega))
      refine ⟨trivial, ?_⟩
      refine WN.done ?_
      refine WX.keep [(0, _), (4, _), (5, _)] ⟨rfl, rfl, rfl, trivial⟩ ?_
      refine WX.next ?_
      refine WC.seq ?_
      refine WC.block ?_
      -- cut r7: live [0, 4, 5, 39]
      refine WC.cut (fun E wB => ∃ bb : Bool, w12 = wB ∧ (bb = true ↔ ∃ x, a' = .v x ∧ b' = .v x) ∧ E = [(0, .pointer (some ⟨p, 0, none⟩)), (4, .pointer (some ⟨w.heap.size, 0, none⟩)), (5, .pointer (some ⟨w1.heap.size, 0, none⟩)), (39, .bool bb)]) ?_ ?_
      · refine WC.region ?_
        first | refine WL.val rfl rfl rfl rfl (r_field0 rfl (ev_t rfl) fld_28_0) ?_ | refine WL.val rfl rfl rfl rfl (r_fieldAt rfl (ev_t rfl) fld_28_0) ?_
        refine WL.val rfl rfl rfl rfl (r_load rfl (ev_t rfl) flat_9 (Blk.cell hb4 rfl)) ?_
        refine WL.val rfl rfl rfl rfl (r_eqlStrL rfl (ev_t rfl) ev_c) ?_
        refine WL.val rfl rfl rfl rfl (r_move rfl (ev_t rfl)) ?_
        refine WL.cases 43 rfl (fun hb7_3 => ?_) (fun hb7_3 => ?_)
        · try (exfalso; first | (simp at hb7_3; done) | (simp only [decide_eq_true_eq, decide_eq_false_iff_not, Bool.not_eq_true', Bool.not_eq_false', Bool.not_eq_true, Bool.not_eq_false] at hb7_3; omega) | omega)
          all_goals
           try simp only [decide_eq_true_eq, decide_eq_false_iff_not, Bool.not_eq_true', Bool.not_eq_false', Bool.not_eq_true, Bool.not_eq_false, Option.isNone_none, Option.isNone_some, Option.isSome_none, Option.isSome_some, ne_eq, Decidable.not_not] at hb7_3
           obtain ⟨x, rfl⟩ := Ty.nm_nil.1 hb7_3
           obtain rfl := (hmc x rfl).symm
           first | refine WL.val rfl rfl rfl rfl (r_field0 rfl (ev_t rfl) fld_28_0) ?_ | refine WL.val rfl rfl rfl rfl (r_fieldAt rfl (ev_t rfl) fld_28_0) ?_
           refine WL.val rfl rfl rfl rfl (r_load rfl (ev_t rfl) flat_9 (Blk.cell hb5 rfl)) ?_
           refine WL.val rfl rfl rfl rfl (r_eqlStrL rfl (ev_t rfl) ev_c) ?_
           refine WL.val rfl rfl rfl rfl (r_pickT rfl (ev_t rfl) (ev_t rfl)) ?_
           refine WL.val rfl rfl rfl rfl (r_move rfl (ev_t rfl)) ?_
           refine WL.cases 48 rfl (fun hb7_8 => ?_) (fun hb7_8 => ?_)
           · try (exfalso; first | (simp at hb7_8; done) | (simp only [decide_eq_true_eq, decide_eq_false_iff_not, Bool.not_eq_true', Bool.not_eq_false', Bool.not_eq_true, Bool.not_eq_false] at hb7_8; omega) | omega)
             all_goals
              try simp only [decide_eq_true_eq, decide_eq_false_iff_not, Bool.not_eq_true', Bool.not_eq_false', Bool.not_eq_true, Bool.not_eq_false, Option.isNone_none, Option.isNone_some, Option.isSome_none, Option.isSome_some, ne_eq, Decidable.not_not] at hb7_8
              obtain ⟨y, rfl⟩ := Ty.nm_nil.1 hb7_8
              obtain rfl := (hmd y rfl).symm
              first | refine WL.val rfl rfl rfl rfl (r_field0 rfl (ev_t rfl) fld_28_1) ?_ | refine WL.val rfl rfl rfl rfl (r_fieldAt rfl (ev_t rfl) fld_28_1) ?_
              refine WL.val rfl rfl rfl rfl (r_load rfl (ev_t rfl) flat_3 (Blk.cell hb4 rfl)) ?_
              first | refine WL.val rfl rfl rfl rfl (r_field0 rfl (ev_t rfl) fld_28_1) ?_ | refine WL.val rfl rfl rfl rfl (r_fieldAt rfl (ev_t rfl) fld_28_1) ?_
              refine WL.val rfl rfl rfl rfl (r_load rfl (ev_t rfl) flat_3 (Blk.cell hb5 rfl)) ?_
              refine WL.val rfl rfl rfl rfl (r_eql rfl (ev_t rfl) (ev_t rfl)) ?_
              refine WL.val rfl rfl rfl rfl (r_pickT rfl (ev_t rfl) (ev_t rfl)) ?_
              refine WL.val rfl rfl rfl rfl (r_assign rfl (ev_t rfl)) ?_
              refine WL.nil ?_
              refine WX.keep [(0, _), (4, _), (5, _), (39, _)] ⟨rfl, rfl, rfl, rfl, trivial⟩ ?_
              refine WX.meet [(0, _), (4, _), (5, _), (39, _)] ⟨rfl, rfl, rfl, rfl, trivial⟩ ?_
              refine ⟨_, rfl, ?_, rfl⟩
              first
                | (simp only [decide_eq_true_eq]; exact ⟨fun h => ⟨_, rfl, by rw [h]⟩, fun ⟨z, h1, h2⟩ => by injection h1 with h1; injection h2 with h2; omega⟩)
                | exact ⟨fun h => Bool.noConfusion h, fun ⟨z, h1, h2⟩ => by subst h2; exact absurd rfl hb7_8⟩
                | exact ⟨fun h => Bool.noConfusion h, fun ⟨z, h1, h2⟩ => by subst h1; exact absurd rfl hb7_3⟩
           · try (exfalso; first | (simp at hb7_8; done) | (simp only [decide_eq_true_eq, decide_eq_false_iff_not, Bool.not_eq_true', Bool.not_eq_false', Bool.not_eq_true, Bool.not_eq_false] at hb7_8; omega) | omega)
             all_goals
              try simp only [decide_eq_true_eq, decide_eq_false_iff_not, Bool.not_eq_true', Bool.not_eq_false', Bool.not_eq_true, Bool.not_eq_false, Option.isNone_none, Option.isNone_some, Option.isSome_none, Option.isSome_some, ne_eq, Decidable.not_not] at hb7_8
              refine WL.skip rfl rfl rfl ?_
              refine WL.skip rfl rfl rfl ?_
              refine WL.skip rfl rfl rfl ?_
              refine WL.skip rfl rfl rfl ?_
              refine WL.skip rfl rfl rfl ?_
              refine WL.val rfl rfl rfl rfl (r_pickF rfl (ev_t rfl) ev_c) ?_
              refine WL.val rfl rfl rfl rfl (r_assign rfl (ev_t rfl)) ?_
              refine WL.nil ?_
              refine WX.keep [(0, _), (4, _), (5, _), (39, _)] ⟨rfl, rfl, rfl, rfl, trivial⟩ ?_
              refine WX.meet [(0, _), (4, _), (5, _), (39, _)] ⟨rfl, rfl, rfl, rfl, trivial⟩ ?_
              refine ⟨_, rfl, ?_, rfl⟩
              first
                | (simp only [decide_eq_true_eq]; exact ⟨fun h => ⟨_, rfl, by rw [h]⟩, fun ⟨z, h1, h2⟩ => by injection h1 with h1; injection h2 with h2; omega⟩)
                | exact ⟨fun h => Bool.noConfusion h, fun ⟨z, h1, h2⟩ => by subst h2; exact absurd rfl hb7_8⟩
                | exact ⟨fun h => Bool.noConfusion h, fun ⟨z, h1, h2⟩ => by subst h1; exact absurd rfl hb7_3⟩
        · try (exfalso; first | (simp at hb7_3; done) | (simp only [decide_eq_true_eq, decide_eq_false_iff_not, Bool.not_eq_true', Bool.not_eq_false', Bool.not_eq_true, Bool.not_eq_false] at hb7_3; omega) | omega)
          all_goals
           try simp only [decide_eq_true_eq, decide_eq_false_iff_not, Bool.not_eq_true', Bool.not_eq_false', Bool.not_eq_true, Bool.not_eq_false, Option.isNone_none, Option.isNone_some, Option.isSome_none, Option.isSome_some, ne_eq, Decidable.not_not] at hb7_3
           refine WL.skip rfl rfl rfl ?_
           refine WL.skip rfl rfl rfl ?_
           refine WL.skip rfl rfl rfl ?_
           refine WL.val rfl rfl rfl rfl (r_pickF rfl (ev_t rfl) ev_c) ?_
           refine WL.val rfl rfl rfl rfl (r_move rfl (ev_t rfl)) ?_
           refine WL.skip rfl rfl rfl ?_
           refine WL.skip rfl rfl rfl ?_
           refine WL.skip rfl rfl rfl ?_
           refine WL.skip rfl rfl rfl ?_
           refine WL.skip rfl rfl rfl ?_
           refine WL.val rfl rfl rfl rfl (r_pickF rfl (ev_t rfl) ev_c) ?_
           refine WL.val rfl rfl rfl rfl (r_assign rfl (ev_t rfl)) ?_
           refine WL.nil ?_
           refine WX.keep [(0, _), (4, _), (5, _), (39, _)] ⟨rfl, rfl, rfl, rfl, trivial⟩ ?_
           refine WX.meet [(0, _), (4, _), (5, _), (39, _)] ⟨rfl, rfl, rfl, rfl, trivial⟩ ?_
           refine ⟨_, rfl, ?_, rfl⟩
           first
             | (simp only [decide_eq_true_eq]; exact ⟨fun h => ⟨_, rfl, by rw [h]⟩, fun ⟨z, h1, h2⟩ => by injection h1 with h1; injection h2 with h2; omega⟩)
             | exact ⟨fun h => Bool.noConfusion h, fun ⟨z, h1, h2⟩ => by subst h2; exact absurd rfl hb7_8⟩
             | exact ⟨fun h => Bool.noConfusion h, fun ⟨z, h1, h2⟩ => by subst h1; exact absurd rfl hb7_3⟩
      · rintro E wB ⟨bb, rfl, hbb, rfl⟩
        refine WC.cond rfl (ev_t rfl) (fun hc7 => ?_) (fun hc7 => ?_)
        · try (exfalso; first | (simp at hc7; done) | (simp only [decide_eq_true_eq, decide_eq_false_iff_not, Bool.not_eq_true', Bool.not_eq_false', Bool.not_eq_true, Bool.not_eq_false] at hc7; omega) | omega)
          all_goals
           try simp only [decide_eq_true_eq, decide_eq_false_iff_not, Bool.not_eq_true', Bool.not_eq_false', Bool.not_eq_true, Bool.not_eq_false, Option.isNone_none, Option.isNone_some, Option.isSome_none, Option.isSome_some, ne_eq, Decidable.not_not] at hc7
           obtain ⟨x, rfl, rfl⟩ := hbb.1 hc7
           simp only [unH, if_true] at huh
           injection huh with hR
           injection hR with hR1 hR2
           injection hR2 with hR2 hR3
           subst hR1 hR2 hR3
           refine WC.seq ?_
           refine WC.region ?_
           refine WL.val rfl rfl rfl rfl (r_assign rfl ev_c) ?_
           refine WL.nil ?_
           refine WX.keep [(6, _)] ⟨rfl, trivial⟩ ?_
           refine WX.next ?_
           refine WC.ret ?_
           refine WX.blockRet ?_
           refine WX.thenRet ?_
           refine WX.retE1 rfl rfl ?_
           exact ⟨rfl, ⟨xs, hI⟩, hU⟩
        · try (exfalso; first | (simp at hc7; done) | (simp only [decide_eq_true_eq, decide_eq_false_iff_not, Bool.not_eq_true', Bool.not_eq_false', Bool.not_eq_true, Bool.not_eq_false] at hc7; omega) | omega)
          all_goals
           try simp only [decide_eq_true_eq, decide_eq_false_iff_not, Bool.not_eq_true', Bool.not_eq_false', Bool.not_eq_true, Bool.not_eq_false, Option.isNone_none, Option.isNone_some, Option.isSome_none, Option.isSome_some, ne_eq, Decidable.not_not] at hc7
           have hne7 : ¬ ∃ x, a' = .v x ∧ b' = .v x := fun h => by rw [hbb.2 h] at hc7; cases hc7
           refine WC.seq ?_
           refine WC.region ?_
           first | refine WL.val rfl rfl rfl rfl (r_field0 rfl (ev_t rfl) fld_28_0) ?_ | refine WL.val rfl rfl rfl rfl (r_fieldAt rfl (ev_t rfl) fld_28_0) ?_
           refine WL.val rfl rfl rfl rfl (r_load rfl (ev_t rfl) flat_9 (Blk.cell hb4 rfl)) ?_
           refine WL.val rfl rfl rfl rfl (r_eqlStrL rfl (ev_t rfl) ev_c) ?_
           refine WL.val rfl rfl rfl rfl (r_assign rfl (ev_t rfl)) ?_
           refine WL.nil ?_
           refine WX.keep [(0, _), (4, _), (5, _), (55, _)] ⟨rfl, rfl, rfl, rfl, trivial⟩ ?_
           refine WX.next ?_
           refine WC.cond rfl (ev_t rfl) (fun hc9 => ?_) (fun hc9 => ?_)
           · try (exfalso; first | (simp at hc9; done) | (simp only [decide_eq_true_eq, decide_eq_false_iff_not, Bool.not_eq_true', Bool.not_eq_false', Bool.not_eq_true, Bool.not_eq_false] at hc9; omega) | omega)
             all_goals
              try simp only [decide_eq_true_eq, decide_eq_false_iff_not, Bool.not_eq_true', Bool.not_eq_false', Bool.not_eq_true, Bool.not_eq_false, Option.isNone_none, Option.isNone_some, Option.isSome_none, Option.isSome_some, ne_eq, Decidable.not_not] at hc9
              obtain ⟨x, rfl⟩ := Ty.nm_nil.1 hc9
              obtain rfl := (hmc x rfl).symm
              rw [unH_v (fun e => hne7 ⟨x, rfl, e⟩)] at huh
              obtain ⟨s, hfr, hsl, hin, hout⟩ := bdF_inv huh
              refine WC.seq ?_
              refine WC.seq ?_
              refine WC.draws' (fun u0_ u1_ => Upd No u0_ u1_) (fun j => [0, 0, 1, 0, 0, 2].getD j 0) (.calm 0 (.calm 3 (.held 1 (.held 4 (.one 2 (.one 5 (.done))))))) mixed (by kernel_rfl) (by repeat (first | with_reducible exact Deaf.body | with_reducible apply Deaf.then | with_reducible apply Deaf.block)) ?_
              intro w13 hu13
              have hz13 := congrArg Array.size hu13.2.2.2
              replace hu13 := Upd.of_draw hu13
              have hs13 := hu13.size
              replace hU := hU.trans hu13 (by exact (fun _ _ h => h.elim))
              replace hI := hI.upd hu13 (fun k hk hl hS => by exact (show False from hS).elim)
              replace hb4 := hb4.upd hu13 (fun hS => by exact (show False from hS))
              replace hb5 := hb5.upd hu13 (fun hS => by exact (show False from hS))
              replace hta2 := hta2.upd hu13 (fun k hk hl hS => by exact (show False from hS).elim)
              replace htb2 := htb2.upd hu13 (fun k hk hl hS => by exact (show False from hS).elim)
              have hS10 := Upd.refl No w13
              refine WN.calm _ rfl rfl rfl rfl rfl (fun _ => r_move rfl (ev_t rfl)) ?_
              first | refine WN.calm _ rfl rfl rfl rfl rfl (fun _ => r_field0 rfl (ev_t rfl) fld_28_1) ?_ | refine WN.calm _ rfl rfl rfl rfl rfl (fun _ => r_fieldAt rfl (ev_t rfl) fld_28_1) ?_
              refine WN.held _ rfl rfl rfl rfl rfl hS10 (fun w' hS => r_loadAgg (vs := [_, _, _]) rfl (ev_t rfl) agg_28 size_28 (Blk.cellsL (hb5.upd hS (fun h => h)))) ?_
              refine WN.held _ rfl rfl rfl rfl rfl hS10 (fun w' hS => r_load rfl (ev_t rfl) flat_3 (Blk.cell (hb4.upd hS (fun h => h)) rfl)) ?_
              refine WN.step _ rfl (SO.call (free_ok hfr hsl hI htb2) rfl body_33 ⟨(ev_t rfl), (ev_t rfl), trivial⟩ rfl rfl rfl rfl ?_)
              rintro v w14 ⟨Af, kf, rfl, hof, hu14⟩
              have hs14 := hu14.size
              replace hS10 := Upd.transA hS10 hu14
              replace hU := hU.trans hu14 (by exact (fun _ _ h => h.elim))
              replace hI := hI.upd hu14 (fun k hk hl hS => by exact (show False from hS).elim)
              replace hb4 := hb4.upd hu14 (fun hS => by exact (show False from hS))
              replace hb5 := hb5.upd hu14 (fun hS => by exact (show False from hS))
              replace hta2 := hta2.upd hu14 (fun k hk hl hS => by exact (show False from hS).elim)
              replace htb2 := htb2.upd hu14 (fun k hk hl hS => by exact (show False from hS).elim)
              refine ⟨hS10, ?_⟩
              refine WN.step _ rfl (SO.call (contains_ok (hof.rd (by omega))) rfl body_32 ⟨(ev_t rfl), (ev_t rfl), trivial⟩ rfl rfl rfl rfl ?_)
              rintro v w15 ⟨rfl, he⟩
              obtain rfl := he.symm
              refine ⟨trivial, ?_⟩
              refine WN.done ?_
              refine WX.keep [(0, _), (4, _), (5, _), (64, _)] ⟨rfl, rfl, rfl, rfl, trivial⟩ ?_
              refine WX.next ?_
              refine WC.cond rfl (ev_t rfl) (fun hc10 => ?_) (fun hc10 => ?_)
              · try (exfalso; first | (simp at hc10; done) | (simp only [decide_eq_true_eq, decide_eq_false_iff_not, Bool.not_eq_true', Bool.not_eq_false', Bool.not_eq_true, Bool.not_eq_false] at hc10; omega) | omega)
                all_goals
                 try simp only [decide_eq_true_eq, decide_eq_false_iff_not, Bool.not_eq_true', Bool.not_eq_false', Bool.not_eq_true, Bool.not_eq_false, Option.isNone_none, Option.isNone_some, Option.isSome_none, Option.isSome_some, ne_eq, Decidable.not_not] at hc10
                 obtain hR := hin (by simpa using hc10)
                 injection hR with hR1 hR2
                 injection hR2 with hR2 hR3
                 subst hR1 hR2 hR3
                 refine WC.seq ?_
                 refine WC.region ?_
                 refine WL.val rfl rfl rfl rfl (r_assign rfl ev_c) ?_
                 refine WL.nil ?_
                 refine WX.keep [(6, _)] ⟨rfl, trivial⟩ ?_
                 refine WX.next ?_
                 refine WC.ret ?_
                 refine WX.thenRet ?_
                 refine WX.blockRet ?_
                 refine WX.thenRet ?_
                 refine WX.retE1 rfl rfl ?_
                 exact ⟨rfl, ⟨xs, hI⟩, hU⟩
              · try (exfalso; first | (simp at hc10; done) | (simp only [decide_eq_true_eq, decide_eq_false_iff_not, Bool.not_eq_true', Bool.not_eq_false', Bool.not_eq_true, Bool.not_eq_false] at hc10; omega) | omega)
                all_goals
                 try simp only [decide_eq_true_eq, decide_eq_false_iff_not, Bool.not_eq_true', Bool.not_eq_false', Bool.not_eq_true, Bool.not_eq_false, Option.isNone_none, Option.isNone_some, Option.isSome_none, Option.isSome_some, ne_eq, Decidable.not_not] at hc10
                 obtain hR := hout (by simpa using hc10)
                 injection hR with hR1 hR2
                 injection hR2 with hR2 hR3
                 subst hR1 hR2 hR3
                 clear hof
                 have hlx : look σ x = none := (hdF_isHd ha').end_ x rfl
                 refine WC.skip ?_
                 refine WX.next ?_
                 refine WC.seq ?_
                 refine WC.draws' (fun u0_ u1_ => Upd No u0_ u1_) (fun j => [0, 0, 0, 0, 0, 0, 1, 2].getD j 0) (.calm 0 (.calm 1 (.calm 2 (.calm 4 (.held 3 (.held 5 (.one 6 (.one 7 (.done))))))))) mixed (by kernel_rfl) (by repeat (first | with_reducible exact Deaf.body | with_reducible apply Deaf.then | with_reducible apply Deaf.block)) ?_
                 intro w16 hu16
                 have hz16 := congrArg Array.size hu16.2.2.2
                 replace hu16 := Upd.of_draw hu16
                 have hs16 := hu16.size
                 replace hU := hU.trans hu16 (by exact (fun _ _ h => h.elim))
                 replace hI := hI.upd hu16 (fun k hk hl hS => by exact (show False from hS).elim)
                 replace hb4 := hb4.upd hu16 (fun hS => by exact (show False from hS))
                 replace hb5 := hb5.upd hu16 (fun hS => by exact (show False from hS))
                 replace hta2 := hta2.upd hu16 (fun k hk hl hS => by exact (show False from hS).elim)
                 replace htb2 := htb2.upd hu16 (fun k hk hl hS => by exact (show False from hS).elim)
                 have hS12 := Upd.refl No w16
                 refine WN.calm _ rfl rfl rfl rfl rfl (fun _ => r_move rfl (ev_t rfl)) ?_
                 refine WN.calm _ rfl rfl rfl rfl rfl (fun _ => r_nilCheck rfl (ev_t rfl)) ?_
                 first | refine WN.calm _ rfl rfl rfl rfl rfl (fun _ => r_field0 rfl (ev_t rfl) fld_59_0) ?_ | refine WN.calm _ rfl rfl rfl rfl rfl (fun _ => r_fieldAt rfl (ev_t rfl) fld_59_0) ?_
                 first | refine WN.calm _ rfl rfl rfl rfl rfl (fun _ => r_field0 rfl (ev_t rfl) fld_28_1) ?_ | refine WN.calm _ rfl rfl rfl rfl rfl (fun _ => r_fieldAt rfl (ev_t rfl) fld_28_1) ?_
                 refine WN.held _ rfl rfl rfl rfl rfl hS12 (fun w' hS => r_load rfl (ev_t rfl) flat_56 (Blk.cell (hI.hd.upd hS (fun h => h)) rfl)) ?_
                 refine WN.held _ rfl rfl rfl rfl rfl hS12 (fun w' hS => r_load rfl (ev_t rfl) flat_3 (Blk.cell (hb4.upd hS (fun h => h)) rfl)) ?_
                 refine WN.step _ rfl (SO.val rfl rfl rfl rfl (r_loadAgg (vs := [_, _, _]) rfl (ev_t rfl) agg_28 size_28 (Blk.cellsL hb5)) ?_)
                 refine ⟨hS12, ?_⟩
                 have hlk := (hI.look x).1 hlx
                 have hxl : xs.length = σ.length := by have := hI.tv.1; simpa using this
                 obtain ⟨hhd, hof, hdn, hne, htv⟩ := hI
                 refine WN.step _ rfl (SO.mapNew keyI hof hlk rfl (ev_t rfl) (ev_t rfl) (ev_t rfl) map_56 rfl rfl rfl ?_)
                 intro w17 hu17 hof hz17
                 have hs17 := hu17.size
                 try replace hS12 := Upd.transA hS12 hu17
                 replace hU := hU.trans hu17 (by (intro k hl hk; first | exact hk | (simp only [At] at hk; simp only [Mut]; omega)))
                 replace hb4 := hb4.upd hu17 (fun hS => by (simp only [At] at hS; omega))
                 replace hb5 := hb5.upd hu17 (fun hS => by (simp only [At] at hS; omega))
                 replace hta2 := hta2.upd hu17 (fun k hk hl hS => by (simp only [At] at hS; subst hS; exact hF _ hk (by (first | exact .inl rfl | exact .inr (.inl rfl) | exact .inr (.inr rfl)))))
                 replace htb2 := htb2.upd hu17 (fun k hk hl hS => by (simp only [At] at hS; subst hS; exact hF _ hk (by (first | exact .inl rfl | exact .inr (.inl rfl) | exact .inr (.inr rfl)))))
                 replace hhd := hhd.upd hu17 (fun hS => by (simp only [At] at hS; omega))
                 replace hdn := hdn.upd hu17 (fun hS => by (simp only [At] at hS; omega))
                 replace htv := htv.upd hu17 (fun k hk hl hS => by (simp only [At] at hS; subst hS; exact hF _ hk (by (first | exact .inl rfl | exact .inr (.inl rfl) | exact .inr (.inr rfl)))))
                 refine ⟨trivial, ?_⟩
                 have hI : IsS w17 F p m1 m2 (σ ++ [(x, b')]) _ nn (xs ++ [(.string ⟨b'.nm.toArray⟩, .int .i64 md, .slice Ad b'.kids.length kd)]) := ⟨hhd, by rw [ofE_snoc hxl]; exact hof, hdn, hne, by rw [List.map_append]; exact htv.snoc htb2⟩
                 refine WN.done ?_
                 refine WX.keep [] trivial ?_
                 refine WX.next ?_
                 refine WC.seq ?_
                 refine WC.region ?_
                 refine WL.val rfl rfl rfl rfl (r_assign rfl ev_c) ?_
                 refine WL.nil ?_
                 refine WX.keep [(6, _)] ⟨rfl, trivial⟩ ?_
                 refine WX.next ?_
                 refine WC.ret ?_
                 refine WX.blockRet ?_
                 refine WX.thenRet ?_
                 refine WX.retE1 rfl rfl ?_
                 exact ⟨rfl, ⟨_, hI⟩, hU⟩
           · try (exfalso; first | (simp at hc9; done) | (simp only [decide_eq_true_eq, decide_eq_false_iff_not, Bool.not_eq_true', Bool.not_eq_false', Bool.not_eq_true, Bool.not_eq_false] at hc9; omega) | omega)
             all_goals
              try simp only [decide_eq_true_eq, decide_eq_false_iff_not, Bool.not_eq_true', Bool.not_eq_false', Bool.not_eq_true, Bool.not_eq_false, Option.isNone_none, Option.isNone_some, Option.isSome_none, Option.isSome_some, ne_eq, Decidable.not_not] at hc9
              obtain ⟨f, ks, rfl⟩ := nm_c hc9
              refine WC.seq ?_
              refine WC.region ?_
              first | refine WL.val rfl rfl rfl rfl (r_field0 rfl (ev_t rfl) fld_28_0) ?_ | refine WL.val rfl rfl rfl rfl (r_fieldAt rfl (ev_t rfl) fld_28_0) ?_
              refine WL.val rfl rfl rfl rfl (r_load rfl (ev_t rfl) flat_9 (Blk.cell hb5 rfl)) ?_
              refine WL.val rfl rfl rfl rfl (r_eqlStrL rfl (ev_t rfl) ev_c) ?_
              refine WL.val rfl rfl rfl rfl (r_assign rfl (ev_t rfl)) ?_
              refine WL.nil ?_
              refine WX.keep [(0, _), (4, _), (5, _), (72, _)] ⟨rfl, rfl, rfl, rfl, trivial⟩ ?_
              refine WX.next ?_
              refine WC.cond rfl (ev_t rfl) (fun hc14 => ?_) (fun hc14 => ?_)
              · try (exfalso; first | (simp at hc14; done) | (simp only [decide_eq_true_eq, decide_eq_false_iff_not, Bool.not_eq_true', Bool.not_eq_false', Bool.not_eq_true, Bool.not_eq_false] at hc14; omega) | omega)
                all_goals
                 try simp only [decide_eq_true_eq, decide_eq_false_iff_not, Bool.not_eq_true', Bool.not_eq_false', Bool.not_eq_true, Bool.not_eq_false, Option.isNone_none, Option.isNone_some, Option.isSome_none, Option.isSome_some, ne_eq, Decidable.not_not] at hc14
                 obtain ⟨y, rfl⟩ := Ty.nm_nil.1 hc14
                 simp only [unH] at huh
                 refine WC.seq ?_
                 refine WC.region ?_
                 refine WL.val rfl rfl rfl rfl (r_move rfl (ev_t rfl)) ?_
                 refine WL.val rfl rfl rfl rfl (r_loadAgg (vs := [_, _, _]) rfl (ev_t rfl) agg_28 size_28 (Blk.cellsL hb5)) ?_
                 refine WL.val rfl rfl rfl rfl (r_loadAgg (vs := [_, _, _]) rfl (ev_t rfl) agg_28 size_28 (Blk.cellsL hb4)) ?_
                 refine WL.cons (SO.call (ih _ _ _ xs _ _ _ _ _ _ _ _ r σ' D' huh (fun k hk => by have := hFb k hk; omega) hI htb2 hta2) rfl body_12 ⟨(ev_t rfl), (ev_t rfl), (ev_t rfl), trivial⟩ rfl rfl rfl rfl ?_)
                 rintro v w18 ⟨rfl, hI2, hu18⟩
                 have hs18 := hu18.size
                 replace hU := hU.trans hu18 (by exact (fun _ _ h => h))
                 refine WL.val rfl rfl rfl rfl (r_assign rfl (ev_t rfl)) ?_
                 refine WL.nil ?_
                 refine WX.keep [(6, _)] ⟨rfl, trivial⟩ ?_
                 refine WX.next ?_
                 refine WC.ret ?_
                 refine WX.blockRet ?_
                 refine WX.thenRet ?_
                 refine WX.retE1 rfl rfl ?_
                 exact ⟨rfl, hI2, hU⟩
              · try (exfalso; first | (simp at hc14; done) | (simp only [decide_eq_true_eq, decide_eq_false_iff_not, Bool.not_eq_true', Bool.not_eq_false', Bool.not_eq_true, Bool.not_eq_false] at hc14; omega) | omega)
                all_goals
                 try simp only [decide_eq_true_eq, decide_eq_false_iff_not, Bool.not_eq_true', Bool.not_eq_false', Bool.not_eq_true, Bool.not_eq_false, Option.isNone_none, Option.isNone_some, Option.isSome_none, Option.isSome_some, ne_eq, Decidable.not_not] at hc14
                 obtain ⟨g, ls, rfl⟩ := nm_c hc14
                 simp only [unH] at huh
                 refine WC.seq ?_
                 refine WC.region ?_
                 first | refine WL.val rfl rfl rfl rfl (r_field0 rfl (ev_t rfl) fld_28_0) ?_ | refine WL.val rfl rfl rfl rfl (r_fieldAt rfl (ev_t rfl) fld_28_0) ?_
                 refine WL.val rfl rfl rfl rfl (r_load rfl (ev_t rfl) flat_9 (Blk.cell hb4 rfl)) ?_
                 first | refine WL.val rfl rfl rfl rfl (r_field0 rfl (ev_t rfl) fld_28_0) ?_ | refine WL.val rfl rfl rfl rfl (r_fieldAt rfl (ev_t rfl) fld_28_0) ?_
                 refine WL.val rfl rfl rfl rfl (r_load rfl (ev_t rfl) flat_9 (Blk.cell hb5 rfl)) ?_
                 refine WL.val rfl rfl rfl rfl (r_neqStrL rfl (ev_t rfl) (ev_t rfl)) ?_
                 refine WL.val rfl rfl rfl rfl (r_move rfl (ev_t rfl)) ?_
                 refine WL.cases 86 rfl (fun hb16_5 => ?_) (fun hb16_5 => ?_)
                 · try (exfalso; first | (simp at hb16_5; done) | (simp only [decide_eq_true_eq, decide_eq_false_iff_not, Bool.not_eq_true', Bool.not_eq_false', Bool.not_eq_true, Bool.not_eq_false] at hb16_5; omega) | omega)
                   all_goals
                    try simp only [decide_eq_true_eq, decide_eq_false_iff_not, Bool.not_eq_true', Bool.not_eq_false', Bool.not_eq_true, Bool.not_eq_false, Option.isNone_none, Option.isNone_some, Option.isSome_none, Option.isSome_some, ne_eq, Decidable.not_not] at hb16_5
                    rw [if_pos (.inl (nmv_ne hb16_5))] at huh
                    injection huh with hR
                    injection hR with hR1 hR2
                    injection hR2 with hR2 hR3
                    subst hR1 hR2 hR3
                    refine WL.skip rfl rfl rfl ?_
                    refine WL.skip rfl rfl rfl ?_
                    refine WL.skip rfl rfl rfl ?_
                    refine WL.skip rfl rfl rfl ?_
                    refine WL.skip rfl rfl rfl ?_
                    refine WL.skip rfl rfl rfl ?_
                    refine WL.skip rfl rfl rfl ?_
                    refine WL.val rfl rfl rfl rfl (r_pickT rfl (ev_t rfl) ev_c) ?_
                    refine WL.val rfl rfl rfl rfl (r_assign rfl (ev_t rfl)) ?_
                    refine WL.nil ?_
                    refine WX.keep [(0, _), (4, _), (5, _), (80, _)] ⟨rfl, rfl, rfl, rfl, trivial⟩ ?_
                    refine WX.next ?_
                    refine WC.cond_true rfl (ev_t rfl) ?_
                    refine WC.seq ?_
                    refine WC.region ?_
                    refine WL.val rfl rfl rfl rfl (r_assign rfl ev_c) ?_
                    refine WL.nil ?_
                    refine WX.keep [(6, _)] ⟨rfl, trivial⟩ ?_
                    refine WX.next ?_
                    refine WC.ret ?_
                    refine WX.blockRet ?_
                    refine WX.thenRet ?_
                    refine WX.retE1 rfl rfl ?_
                    exact ⟨rfl, ⟨xs, hI⟩, hU⟩
                 · try (exfalso; first | (simp at hb16_5; done) | (simp only [decide_eq_true_eq, decide_eq_false_iff_not, Bool.not_eq_true', Bool.not_eq_false', Bool.not_eq_true, Bool.not_eq_false] at hb16_5; omega) | omega)
                   all_goals
                    try simp only [decide_eq_true_eq, decide_eq_false_iff_not, Bool.not_eq_true', Bool.not_eq_false', Bool.not_eq_true, Bool.not_eq_false, Option.isNone_none, Option.isNone_some, Option.isSome_none, Option.isSome_some, ne_eq, Decidable.not_not] at hb16_5
                    obtain rfl := nmv_eq hb16_5
                    first | refine WL.val rfl rfl rfl rfl (r_field0 rfl (ev_t rfl) fld_28_2) ?_ | refine WL.val rfl rfl rfl rfl (r_fieldAt rfl (ev_t rfl) fld_28_2) ?_
                    refine WL.val rfl rfl rfl rfl (r_load rfl (ev_t rfl) flat_26 (Blk.cell hb4 rfl)) ?_
                    refine WL.val rfl rfl rfl rfl (r_lenSlice (ts := #[]) rfl (ev_t rfl) elem_26) ?_
                    first | refine WL.val rfl rfl rfl rfl (r_field0 rfl (ev_t rfl) fld_28_2) ?_ | refine WL.val rfl rfl rfl rfl (r_fieldAt rfl (ev_t rfl) fld_28_2) ?_
                    refine WL.val rfl rfl rfl rfl (r_load rfl (ev_t rfl) flat_26 (Blk.cell hb5 rfl)) ?_
                    refine WL.val rfl rfl rfl rfl (r_lenSlice (ts := #[]) rfl (ev_t rfl) elem_26) ?_
                    refine WL.val rfl rfl rfl rfl (r_neq rfl (ev_t rfl) (ev_t rfl)) ?_
                    refine WL.val rfl rfl rfl rfl (r_pickF rfl (ev_t rfl) (ev_t rfl)) ?_
                    refine WL.val rfl rfl rfl rfl (r_assign rfl (ev_t rfl)) ?_
                    refine WL.nil ?_
                    refine WX.keep [(0, _), (4, _), (5, _), (80, _)] ⟨rfl, rfl, rfl, rfl, trivial⟩ ?_
                    refine WX.next ?_
                    refine WC.cond rfl (ev_t rfl) (fun hc16 => ?_) (fun hc16 => ?_)
                    · try (exfalso; first | (simp at hc16; done) | (simp only [decide_eq_true_eq, decide_eq_false_iff_not, Bool.not_eq_true', Bool.not_eq_false', Bool.not_eq_true, Bool.not_eq_false] at hc16; omega) | omega)
                      all_goals
                       try simp only [decide_eq_true_eq, decide_eq_false_iff_not, Bool.not_eq_true', Bool.not_eq_false', Bool.not_eq_true, Bool.not_eq_false, Option.isNone_none, Option.isNone_some, Option.isSome_none, Option.isSome_some, ne_eq, Decidable.not_not] at hc16
                       rw [if_pos (.inr (by simp only [Ty.kids] at hc16; omega))] at huh
                       injection huh with hR
                       injection hR with hR1 hR2
                       injection hR2 with hR2 hR3
                       subst hR1 hR2 hR3
                       refine WC.seq ?_
                       refine WC.region ?_
                       refine WL.val rfl rfl rfl rfl (r_assign rfl ev_c) ?_
                       refine WL.nil ?_
                       refine WX.keep [(6, _)] ⟨rfl, trivial⟩ ?_
                       refine WX.next ?_
                       refine WC.ret ?_
                       refine WX.blockRet ?_
                       refine WX.thenRet ?_
                       refine WX.retE1 rfl rfl ?_
                       exact ⟨rfl, ⟨xs, hI⟩, hU⟩
                    · try (exfalso; first | (simp at hc16; done) | (simp only [decide_eq_true_eq, decide_eq_false_iff_not, Bool.not_eq_true', Bool.not_eq_false', Bool.not_eq_true, Bool.not_eq_false] at hc16; omega) | omega)
                      all_goals
                       try simp only [decide_eq_true_eq, decide_eq_false_iff_not, Bool.not_eq_true', Bool.not_eq_false', Bool.not_eq_true, Bool.not_eq_false, Option.isNone_none, Option.isNone_some, Option.isSome_none, Option.isSome_some, ne_eq, Decidable.not_not] at hc16
                       have hll : ks.length = ls.length := by simp only [Ty.kids] at hc16; omega
                       rw [if_neg (fun h => by rcases h with h | h; exact h rfl; exact h hll)] at huh
                       refine WC.skip ?_
                       refine WX.blockNormal ?_
                       refine WX.next ?_
                       refine WC.seq ?_
                       refine WC.seq ?_
                       obtain ⟨m5, A5, k5, xk5, e1, e2, e3, _, hr5, hl5, _, hk5⟩ := hta2.open
                       injection e3 with e31 e32 e33
                       subst e31 e33
                       obtain ⟨m6, A6, k6, xk6, f1, f2, f3, _, hr6, hl6, _, hk6⟩ := htb2.open
                       injection f3 with f31 f32 f33
                       subst f31 f33
                       have hks5 : TVs w12 F xk5 ks := ⟨hl5, hk5⟩
                       have hks6 : TVs w12 F xk6 ls := ⟨hl6, hk6⟩
                       clear hta2 htb2 hrc hrd hkc hkd hk5 hk6
                       simp only [Ty.kids, Ty.nm] at hr5 hr6 hb4 hb5 hbc hbd
                       refine WC.region ?_
                       first | refine WL.val rfl rfl rfl rfl (r_field0 rfl (ev_t rfl) fld_28_2) ?_ | refine WL.val rfl rfl rfl rfl (r_fieldAt rfl (ev_t rfl) fld_28_2) ?_
                       refine WL.val rfl rfl rfl rfl (r_load rfl (ev_t rfl) flat_26 (Blk.cell hb4 rfl)) ?_
                       refine WL.val rfl rfl rfl rfl (r_lenSlice (ts := #[]) rfl (ev_t rfl) elem_26) ?_
                       refine WL.val rfl rfl rfl rfl (r_move rfl ev_c) ?_
                       refine WL.nil ?_
                       refine WX.keep [(0, _), (4, _), (5, _), (97, _), (98, _)] ⟨rfl, rfl, rfl, rfl, rfl, trivial⟩ ?_
                       refine WX.next ?_
                       refine WC.block ?_
                       -- loop 1: live [0, 4, 5, 97, 98]
                       refine WC.keep [(0, _), (4, _), (5, _), (97, _), (98, _)] ⟨rfl, rfl, rfl, rfl, rfl, trivial⟩ ?_
                       refine WC.loop (fun q E wC => ∃ (i : Nat) (σ1 : Sg) (D2 : Dn) (xs1 : List C3), i ≤ ks.length ∧ q = ks.length - i ∧ Upd (Mut p m1 m2) w wC ∧ w.heap.size + 2 ≤ wC.heap.size ∧ Blk wC w.heap.size #[.string ⟨f.1.toArray⟩, .int .i64 mc, .slice Ac ks.length kc] typ ∧ Blk wC w1.heap.size #[.string ⟨f.1.toArray⟩, .int .i64 md, .slice Ad ls.length kd] typ ∧ IsS wC F p m1 m2 σ1 D2 nn xs1 ∧   Rd wC F (.slice Ac ks.length kc) ks.length 3 (xk5.flatMap c3) ∧ Rd wC F (.slice Ad ls.length kd) ls.length 3 (xk6.flatMap c3) ∧ TVs wC F xk5 ks ∧ TVs wC F xk6 ls ∧ unL (unF n) (ks.drop i) (ls.drop i) σ1 D2 = some (r, σ', D') ∧   E = [(0, .pointer (some ⟨p, 0, none⟩)), (4, .pointer (some ⟨w.heap.size, 0, none⟩)), (5, .pointer (some ⟨w1.heap.size, 0, none⟩)), (97, .int .i64 (ks.length : Int)), (98, .int .i64 (i : Int))]) (ks.length) ?_ ?_
                       · exact ⟨0, _, _, xs, by omega, by omega, hU, by omega, hb4, hb5, hI, hr5, hr6, hks5, hks6, huh, rfl⟩
                       · clear hU hb4 hb5 hI hr5 hr6 hks5 hks6 huh
                         rintro q E wC ⟨i, σ1, D2, xs1, hi, rfl, hU, hsz, hb4, hb5, hI, hr5, hr6, hks5, hks6, huh, rfl⟩
                         refine WC.seq ?_
                         refine WC.region ?_
                         refine WL.val rfl rfl rfl rfl (r_lss rfl (ev_t rfl) (ev_t rfl)) ?_
                         refine WL.nil ?_
                         refine WX.keep [(0, _), (4, _), (5, _), (97, _), (98, _), (99, _)] ⟨rfl, rfl, rfl, rfl, rfl, rfl, trivial⟩ ?_
                         refine WX.next ?_
                         refine WC.seq ?_
                         refine WC.cond rfl (ev_t rfl) (fun hc19 => ?_) (fun hc19 => ?_)
                         · try (exfalso; first | (simp at hc19; done) | (simp only [decide_eq_true_eq, decide_eq_false_iff_not, Bool.not_eq_true', Bool.not_eq_false', Bool.not_eq_true, Bool.not_eq_false] at hc19; omega) | omega)
                           all_goals
                            try simp only [decide_eq_true_eq, decide_eq_false_iff_not, Bool.not_eq_true', Bool.not_eq_false', Bool.not_eq_true, Bool.not_eq_false, Option.isNone_none, Option.isNone_some, Option.isSome_none, Option.isSome_some, ne_eq, Decidable.not_not] at hc19
                            have hi5 : i < ks.length := by omega
                            have hi6 : i < ls.length := by omega
                            obtain ⟨g5, off5, rfl, _⟩ := hr5.open (by omega)
                            obtain ⟨g6, off6, rfl, _⟩ := hr6.open (by omega)
                            have hlx5 : i < xk5.length := by have := hks5.1; omega
                            have hlx6 : i < xk6.length := by have := hks6.1; omega
                            have hx5 : xk5[i]? = some xk5[i] := List.getElem?_eq_getElem (by have := hks5.1; omega)
                            have hx6 : xk6[i]? = some xk6[i] := List.getElem?_eq_getElem (by have := hks6.1; omega)
                            have hk5 : ks[i]? = some ks[i] := List.getElem?_eq_getElem hi5
                            have hk6 : ls[i]? = some ls[i] := List.getElem?_eq_getElem hi6
                            have hta5 := hks5.2 i _ _ hx5 hk5
                            have htb6 := hks6.2 i _ _ hx6 hk6
                            obtain ⟨r1, σ2, D3, hu1, hu2, hu3⟩ := unL_cons hk5 hk6 huh
                            generalize xk5[i] = c5 at *
                            generalize xk6[i] = c6 at *
                            generalize ks[i] = k5' at *
                            generalize ls[i] = k6' at *
                            obtain ⟨ca, cb, cc⟩ := c5
                            obtain ⟨cd, ce, cf⟩ := c6
                            refine WC.skip ?_
                            refine WX.next ?_
                            refine WC.seq ?_
                            refine WC.block ?_
                            refine WC.seq ?_
                            refine WC.region ?_
                            refine WL.val rfl rfl rfl rfl (r_move rfl (ev_t rfl)) ?_
                            refine WL.val rfl rfl rfl rfl (r_assign rfl (ev_t rfl)) ?_
                            refine WL.nil ?_
                            refine WX.keep [(0, _), (4, _), (5, _), (8, _), (97, _), (98, _)] ⟨rfl, rfl, rfl, rfl, rfl, rfl, trivial⟩ ?_
                            refine WX.next ?_
                            refine WC.seq ?_
                            refine WC.draws' (fun u0_ u1_ => Upd No u0_ u1_) (fun j => [0, 0, 0, 0, 0, 0, 0, 1, 0, 0, 1, 2, 0].getD j 0) (.calm 0 (.calm 1 (.calm 3 (.calm 6 (.calm 8 (.held 2 (.calm 4 (.held 5 (.one 7 (.calm 9 (.one 10 (.one 11 (.calm 12 (.done)))))))))))))) mixed (by kernel_rfl) (by repeat (first | with_reducible exact Deaf.body | with_reducible apply Deaf.then | with_reducible apply Deaf.block)) ?_
                            intro w19 hu19
                            have hz19 := congrArg Array.size hu19.2.2.2
                            replace hu19 := Upd.of_draw hu19
                            have hs19 := hu19.size
                            replace hU := hU.trans hu19 (by exact (fun _ _ h => h.elim))
                            replace hb4 := hb4.upd hu19 (fun hS => by exact (show False from hS))
                            replace hb5 := hb5.upd hu19 (fun hS => by exact (show False from hS))
                            replace hI := hI.upd hu19 (fun k hk hl hS => by exact (show False from hS).elim)
                            replace hr5 := hr5.upd hu19 (fun k hk hl hS => by exact (show False from hS).elim)
                            replace hr6 := hr6.upd hu19 (fun k hk hl hS => by exact (show False from hS).elim)
                            replace hks5 := hks5.upd hu19 (fun k hk hl hS => by exact (show False from hS).elim)
                            replace hks6 := hks6.upd hu19 (fun k hk hl hS => by exact (show False from hS).elim)
                            replace hta5 := hta5.upd hu19 (fun k hk hl hS => by exact (show False from hS).elim)
                            replace htb6 := htb6.upd hu19 (fun k hk hl hS => by exact (show False from hS).elim)
                            have hS21 := Upd.refl No w19
                            refine WN.calm _ rfl rfl rfl rfl rfl (fun _ => r_move rfl (ev_t rfl)) ?_
                            first | refine WN.calm _ rfl rfl rfl rfl rfl (fun _ => r_field0 rfl (ev_t rfl) fld_28_2) ?_ | refine WN.calm _ rfl rfl rfl rfl rfl (fun _ => r_fieldAt rfl (ev_t rfl) fld_28_2) ?_
                            refine WN.calm _ rfl rfl rfl rfl rfl (fun _ => r_move rfl (ev_t rfl)) ?_
                            first | refine WN.calm _ rfl rfl rfl rfl rfl (fun _ => r_field0 rfl (ev_t rfl) fld_28_2) ?_ | refine WN.calm _ rfl rfl rfl rfl rfl (fun _ => r_fieldAt rfl (ev_t rfl) fld_28_2) ?_
                            refine WN.calm _ rfl rfl rfl rfl rfl (fun _ => r_move rfl (ev_t rfl)) ?_
                            refine WN.held _ rfl rfl rfl rfl rfl hS21 (fun w' hS => r_load rfl (ev_t rfl) flat_26 (Blk.cell (hb4.upd hS (fun h => h)) rfl)) ?_
                            refine WN.calm _ rfl rfl rfl rfl rfl (fun _ => r_indexAddr rfl (ev_t rfl) (ev_t rfl) elem_26 size_28 (by omega) (by omega)) ?_
                            refine WN.held _ rfl rfl rfl rfl rfl hS21 (fun w' hS => r_loadAgg (vs := [_, _, _]) rfl (ev_t rfl) agg_28 size_28 (kid_cells (hr5.upd hS (fun _ _ _ h => h)) hx5 rfl)) ?_
                            refine WN.step _ rfl (SO.val rfl rfl rfl rfl (r_load rfl (ev_t rfl) flat_26 (Blk.cell hb5 rfl)) ?_)
                            refine ⟨hS21, ?_⟩
                            refine WN.calm _ rfl rfl rfl rfl rfl (fun _ => r_indexAddr rfl (ev_t rfl) (ev_t rfl) elem_26 size_28 (by omega) (by omega)) ?_
                            refine WN.step _ rfl (SO.val rfl rfl rfl rfl (r_loadAgg (vs := [_, _, _]) rfl (ev_t rfl) agg_28 size_28 (kid_cells hr6 hx6 rfl)) ?_)
                            refine ⟨hS21, ?_⟩
                            refine WN.step _ rfl (SO.call (ih _ _ _ _ _ _ _ _ _ _ _ _ _ _ _ hu1 (fun k hk => by have := hFb k hk; omega) hI hta5 htb6) rfl body_12 ⟨(ev_t rfl), (ev_t rfl), (ev_t rfl), trivial⟩ rfl rfl rfl rfl ?_)
                            rintro v w20 ⟨rfl, ⟨xs2, hI2⟩, hu20⟩
                            clear hI
                            have hs20 := hu20.size
                            try replace hS21 := Upd.transA hS21 hu20
                            replace hU := hU.trans hu20 (by exact (fun _ _ h => h))
                            replace hb4 := hb4.upd hu20 (fun hS => by (simp only [Mut] at hS; omega))
                            replace hb5 := hb5.upd hu20 (fun hS => by (simp only [Mut] at hS; omega))
                            replace hr5 := hr5.upd hu20 (fun k hk hl hS => by exact hF k hk hS)
                            replace hr6 := hr6.upd hu20 (fun k hk hl hS => by exact hF k hk hS)
                            replace hks5 := hks5.upd hu20 (fun k hk hl hS => by exact hF k hk hS)
                            replace hks6 := hks6.upd hu20 (fun k hk hl hS => by exact hF k hk hS)
                            refine ⟨trivial, ?_⟩
                            refine WN.calm _ rfl rfl rfl rfl rfl (fun _ => r_not rfl (ev_t rfl)) ?_
                            refine WN.done ?_
                            refine WX.keep [(0, _), (4, _), (5, _), (97, _), (98, _), (113, _)] ⟨rfl, rfl, rfl, rfl, rfl, rfl, trivial⟩ ?_
                            refine WX.next ?_
                            refine WC.cond rfl (ev_t rfl) (fun hc21 => ?_) (fun hc21 => ?_)
                            · try (exfalso; first | (simp at hc21; done) | (simp only [decide_eq_true_eq, decide_eq_false_iff_not, Bool.not_eq_true', Bool.not_eq_false', Bool.not_eq_true, Bool.not_eq_false] at hc21; omega) | omega)
                              all_goals
                               try simp only [decide_eq_true_eq, decide_eq_false_iff_not, Bool.not_eq_true', Bool.not_eq_false', Bool.not_eq_true, Bool.not_eq_false, Option.isNone_none, Option.isNone_some, Option.isSome_none, Option.isSome_some, ne_eq, Decidable.not_not] at hc21
                               obtain hR := hu2 (by simpa using hc21)
                               injection hR with hR1 hR2
                               injection hR2 with hR2 hR3
                               subst hR1 hR2 hR3
                               refine WC.seq ?_
                               refine WC.region ?_
                               refine WL.val rfl rfl rfl rfl (r_assign rfl ev_c) ?_
                               refine WL.nil ?_
                               refine WX.keep [(6, _)] ⟨rfl, trivial⟩ ?_
                               refine WX.next ?_
                               refine WC.ret ?_
                               refine WX.blockRet ?_
                               refine WX.thenRet ?_
                               refine WX.thenRet ?_
                               refine WX.blockRet ?_
                               refine WX.thenRet ?_
                               refine WX.retE1 rfl rfl ?_
                               exact ⟨rfl, ⟨xs2, hI2⟩, hU⟩
                            · try (exfalso; first | (simp at hc21; done) | (simp only [decide_eq_true_eq, decide_eq_false_iff_not, Bool.not_eq_true', Bool.not_eq_false', Bool.not_eq_true, Bool.not_eq_false] at hc21; omega) | omega)
                              all_goals
                               try simp only [decide_eq_true_eq, decide_eq_false_iff_not, Bool.not_eq_true', Bool.not_eq_false', Bool.not_eq_true, Bool.not_eq_false, Option.isNone_none, Option.isNone_some, Option.isSome_none, Option.isSome_some, ne_eq, Decidable.not_not] at hc21
                               refine WC.skip ?_
                               refine WX.blockNormal ?_
                               refine WX.next ?_
                               refine WC.region ?_
                               first | refine WL.val rfl rfl rfl rfl (r_addN rfl (ev_t rfl) ev_c (by simp only [inK]; omega)) ?_ | refine WL.val rfl rfl rfl rfl (r_add rfl (ev_t rfl) ev_c) ?_
                               refine WL.val rfl rfl rfl rfl (r_move rfl (ev_t rfl)) ?_
                               refine WL.nil ?_
                               refine WX.keep [(0, _), (4, _), (5, _), (97, _), (98, _)] ⟨rfl, rfl, rfl, rfl, rfl, trivial⟩ ?_
                               refine WX.meet [(0, _), (4, _), (5, _), (97, _), (98, _)] ⟨rfl, rfl, rfl, rfl, rfl, trivial⟩ ?_
                               exact ⟨ks.length - (i + 1), by omega, i + 1, σ2, D3, xs2, by omega, rfl, hU, by omega, hb4, hb5, hI2, hr5, hr6, hks5, hks6, hu3 (by simpa using hc21), by simp⟩
                         · try (exfalso; first | (simp at hc19; done) | (simp only [decide_eq_true_eq, decide_eq_false_iff_not, Bool.not_eq_true', Bool.not_eq_false', Bool.not_eq_true, Bool.not_eq_false] at hc19; omega) | omega)
                           all_goals
                            try simp only [decide_eq_true_eq, decide_eq_false_iff_not, Bool.not_eq_true', Bool.not_eq_false', Bool.not_eq_true, Bool.not_eq_false, Option.isNone_none, Option.isNone_some, Option.isSome_none, Option.isSome_some, ne_eq, Decidable.not_not] at hc19
                            obtain rfl : i = ks.length := by omega
                            rw [List.drop_length] at huh
                            simp only [unL] at huh
                            injection huh with hR
                            injection hR with hR1 hR2
                            injection hR2 with hR2 hR3
                            subst hR1 hR2 hR3
                            refine WC.exit ?_
                            refine WX.thenExit ?_
                            refine WX.thenExit ?_
                            refine WX.blockHere ?_
                            refine WX.next ?_
                            refine WC.seq ?_
                            refine WC.region ?_
                            refine WL.val rfl rfl rfl rfl (r_assign rfl ev_c) ?_
                            refine WL.nil ?_
                            refine WX.keep [(6, _)] ⟨rfl, trivial⟩ ?_
                            refine WX.next ?_
                            refine WC.ret ?_
                            refine WX.retE1 rfl rfl ?_
                            exact ⟨rfl, ⟨xs1, hI⟩, hU⟩
end Go.Proofs.Ytncakfcafkfmfaa
