/-
  types: the reference's Same; the program's Same.
-/
import Derived.Test.YtncakfcafkfmfaaTyj
namespace Go.Proofs.Ytncakfcafkfmfaa
open Go
set_option linter.unusedSimpArgs false
set_option linter.unusedVariables false

theorem ty_ext {a b : Ty} (hn : a.nm = b.nm) (hv : ∀ x y, a = .v x → b = .v y → x = y) (hk : a.kids = b.kids) : a = b := by
  cases a with
  | v x =>
    cases b with
    | v y => rw [hv x y rfl rfl]
    | c g ls => exact absurd hn.symm g.2
  | c f ks =>
    cases b with
    | v y => exact absurd hn f.2
    | c g ls =>
      simp only [Ty.kids] at hk
      subst hk
      rw [nmv_eq hn]
theorem list_eq_of {a b : List Ty} (hl : a.length = b.length) (h : ∀ j, j < a.length → a[j]? = b[j]?) : a = b := by
  apply List.ext_getElem?
  intro j
  rcases Nat.lt_or_ge j a.length with hj | hj
  · exact h j hj
  · rw [List.getElem?_eq_none hj, List.getElem?_eq_none (by omega)]

set_option maxHeartbeats 4000000 in
theorem rsame_ok : ∀ (N : Nat) (F : Nat → Prop) (w : World) (a1 a2 a3 b1 b2 b3 : Value) (a b : Ty), sz a ≤ N → TV w F (a1, a2, a3) a → TV w F (b1, b2, b3) b →
    Ret Try.prog 16 #[.agg #[a1, a2, a3], .agg #[b1, b2, b3]] w fun v w' => ∃ bb, v = .bool bb ∧ (bb = true ↔ a = b) ∧ Upd No w w' := by
  intro N
  induction N with
  | zero =>
    intro F w a1 a2 a3 b1 b2 b3 a b hN
    have := sz_pos a
    omega
  | succ N ih =>
    intro F w a1 a2 a3 b1 b2 b3 a b hN hta htb
    replace hta := hta.bound
    replace htb := htb.bound
    obtain ⟨ma, Aa, ka, xka, rfl, rfl, rfl, hma, hra, hla, hba, hka⟩ := hta.open
    obtain ⟨mb, Ab, kb, xkb, rfl, rfl, rfl, hmb, hrb, hlb, hbb, hkb⟩ := htb.open
    have hksa : TVs w (fun k => F k ∧ k < w.heap.size) xka a.kids := ⟨hla, hka⟩
    have hksb : TVs w (fun k => F k ∧ k < w.heap.size) xkb b.kids := ⟨hlb, hkb⟩
    refine enterRet (vs := [_, _]) (N := 51) Try.func16 rfl rfl rfl ?_
    have hU := Upd.refl No w
    refine WC.keep [(0, _), (1, _)] ⟨rfl, rfl, trivial⟩ ?_
    refine WC.seq ?_
    refine WC.region ?_
    refine WL.cons (SO.alloc rfl rfl rfl rfl (r_boxAgg rfl (ev_t rfl)) ?_)
    intro w1 hu1 hB1 hz1
    have hs1 := hu1.size
    replace hU := hU.transA hu1
    replace hra := hra.updA hu1
    replace hrb := hrb.updA hu1
    replace hksa := hksa.updA hu1
    replace hksb := hksb.updA hu1
    refine WL.cons (SO.alloc rfl rfl rfl rfl (r_boxAgg rfl (ev_t rfl)) ?_)
    intro w2 hu2 hB2 hz2
    have hs2 := hu2.size
    replace hU := hU.transA hu2
    replace hra := hra.updA hu2
    replace hrb := hrb.updA hu2
    replace hksa := hksa.updA hu2
    replace hksb := hksb.updA hu2
    replace hB1 := hB1.updA hu2
    refine WL.val rfl rfl rfl rfl (r_assign rfl ev_c) ?_
    refine WL.nil ?_
    refine WX.keep [(2, _), (3, _)] ⟨rfl, rfl, trivial⟩ ?_
    refine WX.next ?_
    -- cut 1: live [2, 3]
    refine WC.cut (fun E wA => w2 = wA ∧ a.nm = b.nm ∧ (∀ x y, a = .v x → b = .v y → x = y) ∧ a.kids.length = b.kids.length ∧ E = [(2, .pointer (some ⟨w.heap.size, 0, none⟩)), (3, .pointer (some ⟨w1.heap.size, 0, none⟩))]) ?_ ?_
    · refine WC.seq ?_
      refine WC.region ?_
      first | refine WL.val rfl rfl rfl rfl (r_field0 rfl (ev_t rfl) fld_28_0) ?_ | refine WL.val rfl rfl rfl rfl (r_fieldAt rfl (ev_t rfl) fld_28_0) ?_
      refine WL.val rfl rfl rfl rfl (r_load rfl (ev_t rfl) flat_9 (Blk.cell hB1 rfl)) ?_
      first | refine WL.val rfl rfl rfl rfl (r_field0 rfl (ev_t rfl) fld_28_0) ?_ | refine WL.val rfl rfl rfl rfl (r_fieldAt rfl (ev_t rfl) fld_28_0) ?_
      refine WL.val rfl rfl rfl rfl (r_load rfl (ev_t rfl) flat_9 (Blk.cell hB2 rfl)) ?_
      refine WL.val rfl rfl rfl rfl (r_neqStrL rfl (ev_t rfl) (ev_t rfl)) ?_
      refine WL.val rfl rfl rfl rfl (r_move rfl (ev_t rfl)) ?_
      refine WL.cases 11 rfl (fun hb1_5 => ?_) (fun hb1_5 => ?_)
      · try (exfalso; first | (simp at hb1_5; done) | (simp only [decide_eq_true_eq, decide_eq_false_iff_not, Bool.not_eq_true', Bool.not_eq_false', Bool.not_eq_true, Bool.not_eq_false] at hb1_5; omega) | omega)
        all_goals
         try simp only [decide_eq_true_eq, decide_eq_false_iff_not, Bool.not_eq_true', Bool.not_eq_false', Bool.not_eq_true, Bool.not_eq_false, Option.isNone_none, Option.isNone_some, Option.isSome_none, Option.isSome_some, ne_eq, Decidable.not_not] at hb1_5
         refine WL.skip rfl rfl rfl ?_
         refine WL.skip rfl rfl rfl ?_
         refine WL.skip rfl rfl rfl ?_
         refine WL.skip rfl rfl rfl ?_
         refine WL.skip rfl rfl rfl ?_
         refine WL.skip rfl rfl rfl ?_
         refine WL.skip rfl rfl rfl ?_
         refine WL.skip rfl rfl rfl ?_
         refine WL.skip rfl rfl rfl ?_
         refine WL.skip rfl rfl rfl ?_
         refine WL.val rfl rfl rfl rfl (r_pickT rfl (ev_t rfl) ev_c) ?_
         refine WL.val rfl rfl rfl rfl (r_move rfl (ev_t rfl)) ?_
         refine WL.skip rfl rfl rfl ?_
         refine WL.skip rfl rfl rfl ?_
         refine WL.skip rfl rfl rfl ?_
         refine WL.skip rfl rfl rfl ?_
         refine WL.skip rfl rfl rfl ?_
         refine WL.skip rfl rfl rfl ?_
         refine WL.skip rfl rfl rfl ?_
         refine WL.val rfl rfl rfl rfl (r_pickT rfl (ev_t rfl) ev_c) ?_
         refine WL.nil ?_
         refine WX.keep [(2, _), (3, _), (31, _)] ⟨rfl, rfl, rfl, trivial⟩ ?_
         refine WX.next ?_
         refine WC.cond_true rfl (ev_t rfl) ?_
         refine WC.seq ?_
         refine WC.region ?_
         refine WL.val rfl rfl rfl rfl (r_assign rfl ev_c) ?_
         refine WL.nil ?_
         refine WX.keep [(4, _)] ⟨rfl, trivial⟩ ?_
         refine WX.next ?_
         refine WC.ret ?_
         refine WX.thenRet ?_
         refine WX.retE1 rfl rfl ?_
         refine ⟨false, rfl, ⟨fun h => Bool.noConfusion h, fun h => ?_⟩, hU⟩
         exfalso
         subst h
         first
           | exact hb1_5 rfl
           | exact hc1 rfl
           | exact absurd hc1 (by simp)
           | (obtain ⟨x, hx⟩ := Ty.nm_nil.1 hb1_9; have e1 := hma x hx; have e2 := hmb x hx; omega)
           | omega
      · try (exfalso; first | (simp at hb1_5; done) | (simp only [decide_eq_true_eq, decide_eq_false_iff_not, Bool.not_eq_true', Bool.not_eq_false', Bool.not_eq_true, Bool.not_eq_false] at hb1_5; omega) | omega)
        all_goals
         try simp only [decide_eq_true_eq, decide_eq_false_iff_not, Bool.not_eq_true', Bool.not_eq_false', Bool.not_eq_true, Bool.not_eq_false, Option.isNone_none, Option.isNone_some, Option.isSome_none, Option.isSome_some, ne_eq, Decidable.not_not] at hb1_5
         first | refine WL.val rfl rfl rfl rfl (r_field0 rfl (ev_t rfl) fld_28_0) ?_ | refine WL.val rfl rfl rfl rfl (r_fieldAt rfl (ev_t rfl) fld_28_0) ?_
         refine WL.val rfl rfl rfl rfl (r_load rfl (ev_t rfl) flat_9 (Blk.cell hB1 rfl)) ?_
         refine WL.val rfl rfl rfl rfl (r_eqlStrL rfl (ev_t rfl) ev_c) ?_
         refine WL.val rfl rfl rfl rfl (r_move rfl (ev_t rfl)) ?_
         refine WL.cases 15 rfl (fun hb1_9 => ?_) (fun hb1_9 => ?_)
         · try (exfalso; first | (simp at hb1_9; done) | (simp only [decide_eq_true_eq, decide_eq_false_iff_not, Bool.not_eq_true', Bool.not_eq_false', Bool.not_eq_true, Bool.not_eq_false] at hb1_9; omega) | omega)
           all_goals
            try simp only [decide_eq_true_eq, decide_eq_false_iff_not, Bool.not_eq_true', Bool.not_eq_false', Bool.not_eq_true, Bool.not_eq_false, Option.isNone_none, Option.isNone_some, Option.isSome_none, Option.isSome_some, ne_eq, Decidable.not_not] at hb1_9
            first | refine WL.val rfl rfl rfl rfl (r_field0 rfl (ev_t rfl) fld_28_1) ?_ | refine WL.val rfl rfl rfl rfl (r_fieldAt rfl (ev_t rfl) fld_28_1) ?_
            refine WL.val rfl rfl rfl rfl (r_load rfl (ev_t rfl) flat_3 (Blk.cell hB1 rfl)) ?_
            first | refine WL.val rfl rfl rfl rfl (r_field0 rfl (ev_t rfl) fld_28_1) ?_ | refine WL.val rfl rfl rfl rfl (r_fieldAt rfl (ev_t rfl) fld_28_1) ?_
            refine WL.val rfl rfl rfl rfl (r_load rfl (ev_t rfl) flat_3 (Blk.cell hB2 rfl)) ?_
            refine WL.val rfl rfl rfl rfl (r_neq rfl (ev_t rfl) (ev_t rfl)) ?_
            refine WL.val rfl rfl rfl rfl (r_pickT rfl (ev_t rfl) (ev_t rfl)) ?_
            refine WL.val rfl rfl rfl rfl (r_pickF rfl (ev_t rfl) (ev_t rfl)) ?_
            refine WL.val rfl rfl rfl rfl (r_move rfl (ev_t rfl)) ?_
            refine WL.cases 23 rfl (fun hb1_17 => ?_) (fun hb1_17 => ?_)
            · try (exfalso; first | (simp at hb1_17; done) | (simp only [decide_eq_true_eq, decide_eq_false_iff_not, Bool.not_eq_true', Bool.not_eq_false', Bool.not_eq_true, Bool.not_eq_false] at hb1_17; omega) | omega)
              all_goals
               try simp only [decide_eq_true_eq, decide_eq_false_iff_not, Bool.not_eq_true', Bool.not_eq_false', Bool.not_eq_true, Bool.not_eq_false, Option.isNone_none, Option.isNone_some, Option.isSome_none, Option.isSome_some, ne_eq, Decidable.not_not] at hb1_17
               refine WL.skip rfl rfl rfl ?_
               refine WL.skip rfl rfl rfl ?_
               refine WL.skip rfl rfl rfl ?_
               refine WL.skip rfl rfl rfl ?_
               refine WL.skip rfl rfl rfl ?_
               refine WL.skip rfl rfl rfl ?_
               refine WL.skip rfl rfl rfl ?_
               refine WL.val rfl rfl rfl rfl (r_pickT rfl (ev_t rfl) ev_c) ?_
               refine WL.nil ?_
               refine WX.keep [(2, _), (3, _), (31, _)] ⟨rfl, rfl, rfl, trivial⟩ ?_
               refine WX.next ?_
               refine WC.cond_true rfl (ev_t rfl) ?_
               refine WC.seq ?_
               refine WC.region ?_
               refine WL.val rfl rfl rfl rfl (r_assign rfl ev_c) ?_
               refine WL.nil ?_
               refine WX.keep [(4, _)] ⟨rfl, trivial⟩ ?_
               refine WX.next ?_
               refine WC.ret ?_
               refine WX.thenRet ?_
               refine WX.retE1 rfl rfl ?_
               refine ⟨false, rfl, ⟨fun h => Bool.noConfusion h, fun h => ?_⟩, hU⟩
               exfalso
               subst h
               first
                 | exact hb1_5 rfl
                 | exact hc1 rfl
                 | exact absurd hc1 (by simp)
                 | (obtain ⟨x, hx⟩ := Ty.nm_nil.1 hb1_9; have e1 := hma x hx; have e2 := hmb x hx; omega)
                 | omega
            · try (exfalso; first | (simp at hb1_17; done) | (simp only [decide_eq_true_eq, decide_eq_false_iff_not, Bool.not_eq_true', Bool.not_eq_false', Bool.not_eq_true, Bool.not_eq_false] at hb1_17; omega) | omega)
              all_goals
               try simp only [decide_eq_true_eq, decide_eq_false_iff_not, Bool.not_eq_true', Bool.not_eq_false', Bool.not_eq_true, Bool.not_eq_false, Option.isNone_none, Option.isNone_some, Option.isSome_none, Option.isSome_some, ne_eq, Decidable.not_not] at hb1_17
               first | refine WL.val rfl rfl rfl rfl (r_field0 rfl (ev_t rfl) fld_28_2) ?_ | refine WL.val rfl rfl rfl rfl (r_fieldAt rfl (ev_t rfl) fld_28_2) ?_
               refine WL.val rfl rfl rfl rfl (r_load rfl (ev_t rfl) flat_26 (Blk.cell hB1 rfl)) ?_
               refine WL.val rfl rfl rfl rfl (r_lenSlice (ts := #[]) rfl (ev_t rfl) elem_26) ?_
               first | refine WL.val rfl rfl rfl rfl (r_field0 rfl (ev_t rfl) fld_28_2) ?_ | refine WL.val rfl rfl rfl rfl (r_fieldAt rfl (ev_t rfl) fld_28_2) ?_
               refine WL.val rfl rfl rfl rfl (r_load rfl (ev_t rfl) flat_26 (Blk.cell hB2 rfl)) ?_
               refine WL.val rfl rfl rfl rfl (r_lenSlice (ts := #[]) rfl (ev_t rfl) elem_26) ?_
               refine WL.val rfl rfl rfl rfl (r_neq rfl (ev_t rfl) (ev_t rfl)) ?_
               refine WL.val rfl rfl rfl rfl (r_pickF rfl (ev_t rfl) (ev_t rfl)) ?_
               refine WL.nil ?_
               refine WX.keep [(2, _), (3, _), (31, _)] ⟨rfl, rfl, rfl, trivial⟩ ?_
               refine WX.next ?_
               refine WC.cond rfl (ev_t rfl) (fun hc1 => ?_) (fun hc1 => ?_)
               · try (exfalso; first | (simp at hc1; done) | (simp only [decide_eq_true_eq, decide_eq_false_iff_not, Bool.not_eq_true', Bool.not_eq_false', Bool.not_eq_true, Bool.not_eq_false] at hc1; omega) | omega)
                 all_goals
                  try simp only [decide_eq_true_eq, decide_eq_false_iff_not, Bool.not_eq_true', Bool.not_eq_false', Bool.not_eq_true, Bool.not_eq_false, Option.isNone_none, Option.isNone_some, Option.isSome_none, Option.isSome_some, ne_eq, Decidable.not_not] at hc1
                  refine WC.seq ?_
                  refine WC.region ?_
                  refine WL.val rfl rfl rfl rfl (r_assign rfl ev_c) ?_
                  refine WL.nil ?_
                  refine WX.keep [(4, _)] ⟨rfl, trivial⟩ ?_
                  refine WX.next ?_
                  refine WC.ret ?_
                  refine WX.thenRet ?_
                  refine WX.retE1 rfl rfl ?_
                  refine ⟨false, rfl, ⟨fun h => Bool.noConfusion h, fun h => ?_⟩, hU⟩
                  exfalso
                  subst h
                  first
                    | exact hb1_5 rfl
                    | exact hc1 rfl
                    | exact absurd hc1 (by simp)
                    | (obtain ⟨x, hx⟩ := Ty.nm_nil.1 hb1_9; have e1 := hma x hx; have e2 := hmb x hx; omega)
                    | omega
               · try (exfalso; first | (simp at hc1; done) | (simp only [decide_eq_true_eq, decide_eq_false_iff_not, Bool.not_eq_true', Bool.not_eq_false', Bool.not_eq_true, Bool.not_eq_false] at hc1; omega) | omega)
                 all_goals
                  try simp only [decide_eq_true_eq, decide_eq_false_iff_not, Bool.not_eq_true', Bool.not_eq_false', Bool.not_eq_true, Bool.not_eq_false, Option.isNone_none, Option.isNone_some, Option.isSome_none, Option.isSome_some, ne_eq, Decidable.not_not] at hc1
                  refine WC.skip ?_
                  refine WX.meet [(2, _), (3, _)] ⟨rfl, rfl, trivial⟩ ?_
                  refine ⟨rfl, hb1_5, fun x y h1 h2 => ?_, by omega, rfl⟩
                  have e1 := hma x h1
                  have e2 := hmb y h2
                  first
                    | (subst h1; exact absurd rfl hb1_9)
                    | omega
         · try (exfalso; first | (simp at hb1_9; done) | (simp only [decide_eq_true_eq, decide_eq_false_iff_not, Bool.not_eq_true', Bool.not_eq_false', Bool.not_eq_true, Bool.not_eq_false] at hb1_9; omega) | omega)
           all_goals
            try simp only [decide_eq_true_eq, decide_eq_false_iff_not, Bool.not_eq_true', Bool.not_eq_false', Bool.not_eq_true, Bool.not_eq_false, Option.isNone_none, Option.isNone_some, Option.isSome_none, Option.isSome_some, ne_eq, Decidable.not_not] at hb1_9
            refine WL.skip rfl rfl rfl ?_
            refine WL.skip rfl rfl rfl ?_
            refine WL.skip rfl rfl rfl ?_
            refine WL.skip rfl rfl rfl ?_
            refine WL.skip rfl rfl rfl ?_
            refine WL.val rfl rfl rfl rfl (r_pickF rfl (ev_t rfl) ev_c) ?_
            refine WL.val rfl rfl rfl rfl (r_pickF rfl (ev_t rfl) (ev_t rfl)) ?_
            refine WL.val rfl rfl rfl rfl (r_move rfl (ev_t rfl)) ?_
            first | refine WL.val rfl rfl rfl rfl (r_field0 rfl (ev_t rfl) fld_28_2) ?_ | refine WL.val rfl rfl rfl rfl (r_fieldAt rfl (ev_t rfl) fld_28_2) ?_
            refine WL.val rfl rfl rfl rfl (r_load rfl (ev_t rfl) flat_26 (Blk.cell hB1 rfl)) ?_
            refine WL.val rfl rfl rfl rfl (r_lenSlice (ts := #[]) rfl (ev_t rfl) elem_26) ?_
            first | refine WL.val rfl rfl rfl rfl (r_field0 rfl (ev_t rfl) fld_28_2) ?_ | refine WL.val rfl rfl rfl rfl (r_fieldAt rfl (ev_t rfl) fld_28_2) ?_
            refine WL.val rfl rfl rfl rfl (r_load rfl (ev_t rfl) flat_26 (Blk.cell hB2 rfl)) ?_
            refine WL.val rfl rfl rfl rfl (r_lenSlice (ts := #[]) rfl (ev_t rfl) elem_26) ?_
            refine WL.val rfl rfl rfl rfl (r_neq rfl (ev_t rfl) (ev_t rfl)) ?_
            refine WL.val rfl rfl rfl rfl (r_pickF rfl (ev_t rfl) (ev_t rfl)) ?_
            refine WL.nil ?_
            refine WX.keep [(2, _), (3, _), (31, _)] ⟨rfl, rfl, rfl, trivial⟩ ?_
            refine WX.next ?_
            refine WC.cond rfl (ev_t rfl) (fun hc1 => ?_) (fun hc1 => ?_)
            · try (exfalso; first | (simp at hc1; done) | (simp only [decide_eq_true_eq, decide_eq_false_iff_not, Bool.not_eq_true', Bool.not_eq_false', Bool.not_eq_true, Bool.not_eq_false] at hc1; omega) | omega)
              all_goals
               try simp only [decide_eq_true_eq, decide_eq_false_iff_not, Bool.not_eq_true', Bool.not_eq_false', Bool.not_eq_true, Bool.not_eq_false, Option.isNone_none, Option.isNone_some, Option.isSome_none, Option.isSome_some, ne_eq, Decidable.not_not] at hc1
               refine WC.seq ?_
               refine WC.region ?_
               refine WL.val rfl rfl rfl rfl (r_assign rfl ev_c) ?_
               refine WL.nil ?_
               refine WX.keep [(4, _)] ⟨rfl, trivial⟩ ?_
               refine WX.next ?_
               refine WC.ret ?_
               refine WX.thenRet ?_
               refine WX.retE1 rfl rfl ?_
               refine ⟨false, rfl, ⟨fun h => Bool.noConfusion h, fun h => ?_⟩, hU⟩
               exfalso
               subst h
               first
                 | exact hb1_5 rfl
                 | exact hc1 rfl
                 | exact absurd hc1 (by simp)
                 | (obtain ⟨x, hx⟩ := Ty.nm_nil.1 hb1_9; have e1 := hma x hx; have e2 := hmb x hx; omega)
                 | omega
            · try (exfalso; first | (simp at hc1; done) | (simp only [decide_eq_true_eq, decide_eq_false_iff_not, Bool.not_eq_true', Bool.not_eq_false', Bool.not_eq_true, Bool.not_eq_false] at hc1; omega) | omega)
              all_goals
               try simp only [decide_eq_true_eq, decide_eq_false_iff_not, Bool.not_eq_true', Bool.not_eq_false', Bool.not_eq_true, Bool.not_eq_false, Option.isNone_none, Option.isNone_some, Option.isSome_none, Option.isSome_some, ne_eq, Decidable.not_not] at hc1
               refine WC.skip ?_
               refine WX.meet [(2, _), (3, _)] ⟨rfl, rfl, trivial⟩ ?_
               refine ⟨rfl, hb1_5, fun x y h1 h2 => ?_, by omega, rfl⟩
               have e1 := hma x h1
               have e2 := hmb y h2
               first
                 | (subst h1; exact absurd rfl hb1_9)
                 | omega
    · rintro E wA ⟨rfl, hnm, hvv, hlen, rfl⟩
      refine WC.seq ?_
      refine WC.seq ?_
      refine WC.region ?_
      refine WL.val rfl rfl rfl rfl (r_assign rfl ev_c) ?_
      refine WL.nil ?_
      refine WX.keep [(2, _), (3, _), (5, _)] ⟨rfl, rfl, rfl, trivial⟩ ?_
      refine WX.next ?_
      refine WC.block ?_
      -- loop 1: live [2, 3, 5]
      refine WC.keep [(2, _), (3, _), (5, _)] ⟨rfl, rfl, rfl, trivial⟩ ?_
      refine WC.loop (fun q E w' => ∃ (i : Nat), i ≤ a.kids.length ∧ q = a.kids.length - i ∧ Upd No w w' ∧ Blk w' w.heap.size #[.string ⟨a.nm.toArray⟩, .int .i64 ma, .slice Aa a.kids.length ka] typ ∧ Blk w' w1.heap.size #[.string ⟨b.nm.toArray⟩, .int .i64 mb, .slice Ab b.kids.length kb] typ ∧   Rd w' (fun k => F k ∧ k < w.heap.size) (.slice Aa a.kids.length ka) a.kids.length 3 (xka.flatMap c3) ∧ TVs w' (fun k => F k ∧ k < w.heap.size) xka a.kids ∧ Rd w' (fun k => F k ∧ k < w.heap.size) (.slice Ab b.kids.length kb) b.kids.length 3 (xkb.flatMap c3) ∧ TVs w' (fun k => F k ∧ k < w.heap.size) xkb b.kids ∧ (∀ j, j < i → a.kids[j]? = b.kids[j]?) ∧   E = [(2, .pointer (some ⟨w.heap.size, 0, none⟩)), (3, .pointer (some ⟨w1.heap.size, 0, none⟩)), (5, .int .i64 (i : Int))]) (a.kids.length) ?_ ?_
      · exact ⟨0, by omega, by omega, hU, hB1, hB2, hra, hksa, hrb, hksb, fun j h => by omega, rfl⟩
      · clear hU hB1 hB2 hra hksa hrb hksb
        rintro q E w' ⟨i, hi, rfl, hU, hB1, hB2, hra, hksa, hrb, hksb, hsm, rfl⟩
        refine WC.seq ?_
        refine WC.seq ?_
        refine WC.region ?_
        refine WL.val rfl rfl rfl rfl (r_move rfl (ev_t rfl)) ?_
        first | refine WL.val rfl rfl rfl rfl (r_field0 rfl (ev_t rfl) fld_28_2) ?_ | refine WL.val rfl rfl rfl rfl (r_fieldAt rfl (ev_t rfl) fld_28_2) ?_
        refine WL.val rfl rfl rfl rfl (r_load rfl (ev_t rfl) flat_26 (Blk.cell hB1 rfl)) ?_
        refine WL.val rfl rfl rfl rfl (r_lenSlice (ts := #[]) rfl (ev_t rfl) elem_26) ?_
        refine WL.val rfl rfl rfl rfl (r_lss rfl (ev_t rfl) (ev_t rfl)) ?_
        refine WL.nil ?_
        refine WX.keep [(2, _), (3, _), (5, _), (36, _)] ⟨rfl, rfl, rfl, rfl, trivial⟩ ?_
        refine WX.next ?_
        refine WC.cond rfl (ev_t rfl) (fun hc4 => ?_) (fun hc4 => ?_)
        · try (exfalso; first | (simp at hc4; done) | (simp only [decide_eq_true_eq, decide_eq_false_iff_not, Bool.not_eq_true', Bool.not_eq_false', Bool.not_eq_true, Bool.not_eq_false] at hc4; omega) | omega)
          all_goals
           try simp only [decide_eq_true_eq, decide_eq_false_iff_not, Bool.not_eq_true', Bool.not_eq_false', Bool.not_eq_true, Bool.not_eq_false, Option.isNone_none, Option.isNone_some, Option.isSome_none, Option.isSome_some, ne_eq, Decidable.not_not] at hc4
           have hia : i < a.kids.length := by omega
           have hib : i < b.kids.length := by omega
           obtain ⟨g5, off5, rfl, _⟩ := hra.open (by omega)
           obtain ⟨g6, off6, rfl, _⟩ := hrb.open (by omega)
           have hl5 : i < xka.length := by have := hksa.1; omega
           have hl6 : i < xkb.length := by have := hksb.1; omega
           have hx5 : xka[i]? = some xka[i] := List.getElem?_eq_getElem hl5
           have hx6 : xkb[i]? = some xkb[i] := List.getElem?_eq_getElem hl6
           have hk5 : a.kids[i]? = some a.kids[i] := List.getElem?_eq_getElem hia
           have hk6 : b.kids[i]? = some b.kids[i] := List.getElem?_eq_getElem hib
           have hta5 := hksa.2 i _ _ hx5 hk5
           have htb6 := hksb.2 i _ _ hx6 hk6
           have hkl : sz a.kids[i] < sz a := by
             cases a with
             | v x => simp [Ty.kids] at hia
             | c f ks => exact sz_kid (n := f) (List.getElem_mem hia)
           generalize xka[i] = c5 at *
           generalize xkb[i] = c6 at *
           generalize a.kids[i] = k5' at *
           generalize b.kids[i] = k6' at *
           obtain ⟨ca, cb, cc⟩ := c5
           obtain ⟨cd, ce, cf⟩ := c6
           refine WC.skip ?_
           refine WX.next ?_
           refine WC.seq ?_
           refine WC.block ?_
           refine WC.seq ?_
           refine WC.draws' (fun u0_ u1_ => Upd No u0_ u1_) (fun j => [0, 0, 0, 0, 0, 0, 1, 0, 0, 1, 2, 0].getD j 0) (.calm 0 (.calm 2 (.calm 5 (.calm 7 (.held 1 (.calm 3 (.held 4 (.one 6 (.calm 8 (.one 9 (.one 10 (.calm 11 (.done))))))))))))) mixed (by kernel_rfl) (by repeat (first | with_reducible exact Deaf.body | with_reducible apply Deaf.then | with_reducible apply Deaf.block)) ?_
           intro w3 hu3
           have hz3 := congrArg Array.size hu3.2.2.2
           replace hu3 := Upd.of_draw hu3
           have hs3 := hu3.size
           replace hU := hU.transA hu3
           replace hB1 := hB1.updA hu3
           replace hB2 := hB2.updA hu3
           replace hra := hra.updA hu3
           replace hksa := hksa.updA hu3
           replace hrb := hrb.updA hu3
           replace hksb := hksb.updA hu3
           replace hta5 := hta5.updA hu3
           replace htb6 := htb6.updA hu3
           have hS6 := Upd.refl No w3
           first | refine WN.calm _ rfl rfl rfl rfl rfl (fun _ => r_field0 rfl (ev_t rfl) fld_28_2) ?_ | refine WN.calm _ rfl rfl rfl rfl rfl (fun _ => r_fieldAt rfl (ev_t rfl) fld_28_2) ?_
           refine WN.calm _ rfl rfl rfl rfl rfl (fun _ => r_move rfl (ev_t rfl)) ?_
           first | refine WN.calm _ rfl rfl rfl rfl rfl (fun _ => r_field0 rfl (ev_t rfl) fld_28_2) ?_ | refine WN.calm _ rfl rfl rfl rfl rfl (fun _ => r_fieldAt rfl (ev_t rfl) fld_28_2) ?_
           refine WN.calm _ rfl rfl rfl rfl rfl (fun _ => r_move rfl (ev_t rfl)) ?_
           refine WN.held _ rfl rfl rfl rfl rfl hS6 (fun w' hS => r_load rfl (ev_t rfl) flat_26 (Blk.cell (hB1.upd hS (fun h => h)) rfl)) ?_
           refine WN.calm _ rfl rfl rfl rfl rfl (fun _ => r_indexAddr rfl (ev_t rfl) (ev_t rfl) elem_26 size_28 (by omega) (by omega)) ?_
           refine WN.held _ rfl rfl rfl rfl rfl hS6 (fun w' hS => r_loadAgg (vs := [_, _, _]) rfl (ev_t rfl) agg_28 size_28 (kid_cells (hra.upd hS (fun _ _ _ h => h)) hx5 rfl)) ?_
           refine WN.step _ rfl (SO.val rfl rfl rfl rfl (r_load rfl (ev_t rfl) flat_26 (Blk.cell hB2 rfl)) ?_)
           refine ⟨hS6, ?_⟩
           refine WN.calm _ rfl rfl rfl rfl rfl (fun _ => r_indexAddr rfl (ev_t rfl) (ev_t rfl) elem_26 size_28 (by omega) (by omega)) ?_
           refine WN.step _ rfl (SO.val rfl rfl rfl rfl (r_loadAgg (vs := [_, _, _]) rfl (ev_t rfl) agg_28 size_28 (kid_cells hrb hx6 rfl)) ?_)
           refine ⟨hS6, ?_⟩
           refine WN.step _ rfl (SO.call (ih _ _ _ _ _ _ _ _ k5' k6' (by omega) hta5 htb6) rfl body_16 ⟨(ev_t rfl), (ev_t rfl), trivial⟩ rfl rfl rfl rfl ?_)
           rintro v w4 ⟨bb, rfl, hbb, hu4⟩
           have hs4 := hu4.size
           try replace hS6 := Upd.transA hS6 hu4
           replace hU := hU.transA hu4
           replace hB1 := hB1.updA hu4
           replace hB2 := hB2.updA hu4
           replace hra := hra.updA hu4
           replace hksa := hksa.updA hu4
           replace hrb := hrb.updA hu4
           replace hksb := hksb.updA hu4
           refine ⟨trivial, ?_⟩
           refine WN.calm _ rfl rfl rfl rfl rfl (fun _ => r_not rfl (ev_t rfl)) ?_
           refine WN.done ?_
           refine WX.keep [(2, _), (3, _), (5, _), (50, _)] ⟨rfl, rfl, rfl, rfl, trivial⟩ ?_
           refine WX.next ?_
           refine WC.cond rfl (ev_t rfl) (fun hc6 => ?_) (fun hc6 => ?_)
           · try (exfalso; first | (simp at hc6; done) | (simp only [decide_eq_true_eq, decide_eq_false_iff_not, Bool.not_eq_true', Bool.not_eq_false', Bool.not_eq_true, Bool.not_eq_false] at hc6; omega) | omega)
             all_goals
              try simp only [decide_eq_true_eq, decide_eq_false_iff_not, Bool.not_eq_true', Bool.not_eq_false', Bool.not_eq_true, Bool.not_eq_false, Option.isNone_none, Option.isNone_some, Option.isSome_none, Option.isSome_some, ne_eq, Decidable.not_not] at hc6
              refine WC.seq ?_
              refine WC.region ?_
              refine WL.val rfl rfl rfl rfl (r_assign rfl ev_c) ?_
              refine WL.nil ?_
              refine WX.keep [(4, _)] ⟨rfl, trivial⟩ ?_
              refine WX.next ?_
              refine WC.ret ?_
              refine WX.blockRet ?_
              refine WX.thenRet ?_
              refine WX.thenRet ?_
              refine WX.blockRet ?_
              refine WX.thenRet ?_
              refine WX.retE1 rfl rfl ?_
              refine ⟨false, rfl, ⟨fun h => Bool.noConfusion h, fun h => ?_⟩, hU⟩
              exfalso
              rw [h, hk6] at hk5
              injection hk5 with e
              have := hbb.2 e.symm
              rw [this] at hc6
              cases hc6
           · try (exfalso; first | (simp at hc6; done) | (simp only [decide_eq_true_eq, decide_eq_false_iff_not, Bool.not_eq_true', Bool.not_eq_false', Bool.not_eq_true, Bool.not_eq_false] at hc6; omega) | omega)
             all_goals
              try simp only [decide_eq_true_eq, decide_eq_false_iff_not, Bool.not_eq_true', Bool.not_eq_false', Bool.not_eq_true, Bool.not_eq_false, Option.isNone_none, Option.isNone_some, Option.isSome_none, Option.isSome_some, ne_eq, Decidable.not_not] at hc6
              refine WC.skip ?_
              refine WX.blockNormal ?_
              refine WX.next ?_
              refine WC.region ?_
              refine WL.val rfl rfl rfl rfl (r_move rfl (ev_t rfl)) ?_
              first | refine WL.val rfl rfl rfl rfl (r_addN rfl (ev_t rfl) ev_c (by simp only [inK]; omega)) ?_ | refine WL.val rfl rfl rfl rfl (r_add rfl (ev_t rfl) ev_c) ?_
              refine WL.val rfl rfl rfl rfl (r_assign rfl (ev_t rfl)) ?_
              refine WL.nil ?_
              refine WX.keep [(2, _), (3, _), (5, _)] ⟨rfl, rfl, rfl, trivial⟩ ?_
              refine WX.meet [(2, _), (3, _), (5, _)] ⟨rfl, rfl, rfl, trivial⟩ ?_
              refine ⟨a.kids.length - (i + 1), by omega, i + 1, by omega, rfl, hU, hB1, hB2, hra, hksa, hrb, hksb, fun j hj => ?_, by simp⟩
              rcases Nat.lt_or_ge j i with h | h
              · exact hsm j h
              · obtain rfl : j = i := by omega
                have e : k5' = k6' := hbb.1 (by simpa using hc6)
                rw [hk5, hk6, e]
        · try (exfalso; first | (simp at hc4; done) | (simp only [decide_eq_true_eq, decide_eq_false_iff_not, Bool.not_eq_true', Bool.not_eq_false', Bool.not_eq_true, Bool.not_eq_false] at hc4; omega) | omega)
          all_goals
           try simp only [decide_eq_true_eq, decide_eq_false_iff_not, Bool.not_eq_true', Bool.not_eq_false', Bool.not_eq_true, Bool.not_eq_false, Option.isNone_none, Option.isNone_some, Option.isSome_none, Option.isSome_some, ne_eq, Decidable.not_not] at hc4
           refine WC.exit ?_
           refine WX.thenExit ?_
           refine WX.thenExit ?_
           refine WX.blockHere ?_
           refine WX.next ?_
           refine WC.seq ?_
           refine WC.region ?_
           refine WL.val rfl rfl rfl rfl (r_assign rfl ev_c) ?_
           refine WL.nil ?_
           refine WX.keep [(4, _)] ⟨rfl, trivial⟩ ?_
           refine WX.next ?_
           refine WC.ret ?_
           refine WX.retE1 rfl rfl ?_
           refine ⟨true, rfl, ⟨fun _ => ?_, fun _ => rfl⟩, hU⟩
           exact ty_ext hnm hvv (list_eq_of hlen fun j hj => hsm j (by omega))

set_option maxHeartbeats 4000000 in
theorem equalF_ok {F : Nat → Prop} {w : World} {av bv : Value} {xa xb : List C3} {la lb : List Ty} (hra : Rd w F av la.length 3 (xa.flatMap c3)) (hrb : Rd w F bv lb.length 3 (xb.flatMap c3)) (hksa : TVs w F xa la) (hksb : TVs w F xb lb)
    (H : ∀ (a b : Ty) (w' : World) (F' : Nat → Prop) (a1 a2 a3 b1 b2 b3 : Value), a ∈ la → TV w' F' (a1, a2, a3) a → TV w' F' (b1, b2, b3) b → Ret Try.prog 25 #[.agg #[a1, a2, a3], .agg #[b1, b2, b3]] w' fun v w'' => ∃ bb, v = .bool bb ∧ (bb = true ↔ a = b) ∧ Upd No w' w'') :
    Ret Try.prog 37 #[av, bv, .func (.func 25) #[] #[]] w fun v w' => ∃ bb, v = .bool bb ∧ (bb = true ↔ la = lb) ∧ Upd No w w' := by
  replace hra := hra.bound
  replace hrb := hrb.bound
  replace hksa := hksa.bound
  replace hksb := hksb.bound
  obtain ⟨Aa, ka, rfl, _⟩ := hra.slice_form
  obtain ⟨Ab, kb, rfl, _⟩ := hrb.slice_form
  have hmm := hra.le
  refine enterRet (vs := [_, _, _]) (N := 32) Try.func37 rfl rfl rfl ?_
  have hU := Upd.refl No w
  refine WC.keep [(0, _), (1, _), (2, _)] ⟨rfl, rfl, rfl, trivial⟩ ?_
  refine WC.seq ?_
  refine WC.region ?_
  refine WL.val rfl rfl rfl rfl (r_assign rfl ev_c) ?_
  refine WL.nil ?_
  refine WX.keep [(0, _), (1, _), (2, _)] ⟨rfl, rfl, rfl, trivial⟩ ?_
  refine WX.next ?_
  refine WC.seq ?_
  refine WC.seq ?_
  refine WC.region ?_
  refine WL.val rfl rfl rfl rfl (r_move rfl (ev_t rfl)) ?_
  refine WL.val rfl rfl rfl rfl (r_lenSlice (ts := #[]) rfl (ev_t rfl) elem_26) ?_
  refine WL.val rfl rfl rfl rfl (r_move rfl (ev_t rfl)) ?_
  refine WL.val rfl rfl rfl rfl (r_lenSlice (ts := #[]) rfl (ev_t rfl) elem_26) ?_
  refine WL.val rfl rfl rfl rfl (r_neq rfl (ev_t rfl) (ev_t rfl)) ?_
  refine WL.nil ?_
  refine WX.keep [(0, _), (1, _), (2, _), (14, _)] ⟨rfl, rfl, rfl, rfl, trivial⟩ ?_
  refine WX.next ?_
  refine WC.cond rfl (ev_t rfl) (fun hc1 => ?_) (fun hc1 => ?_)
  · try (exfalso; first | (simp at hc1; done) | (simp only [decide_eq_true_eq, decide_eq_false_iff_not, Bool.not_eq_true', Bool.not_eq_false', Bool.not_eq_true, Bool.not_eq_false] at hc1; omega) | omega)
    all_goals
     try simp only [decide_eq_true_eq, decide_eq_false_iff_not, Bool.not_eq_true', Bool.not_eq_false', Bool.not_eq_true, Bool.not_eq_false, Option.isNone_none, Option.isNone_some, Option.isSome_none, Option.isSome_some, ne_eq, Decidable.not_not] at hc1
     refine WC.seq ?_
     refine WC.region ?_
     refine WL.val rfl rfl rfl rfl (r_assign rfl ev_c) ?_
     refine WL.nil ?_
     refine WX.keep [(6, _)] ⟨rfl, trivial⟩ ?_
     refine WX.next ?_
     refine WC.ret ?_
     refine WX.thenRet ?_
     refine WX.retE1 rfl rfl ?_
     refine ⟨false, rfl, ⟨fun h => Bool.noConfusion h, fun h => ?_⟩, hU⟩
     exact absurd (by rw [h]) hc1
  · try (exfalso; first | (simp at hc1; done) | (simp only [decide_eq_true_eq, decide_eq_false_iff_not, Bool.not_eq_true', Bool.not_eq_false', Bool.not_eq_true, Bool.not_eq_false] at hc1; omega) | omega)
    all_goals
     try simp only [decide_eq_true_eq, decide_eq_false_iff_not, Bool.not_eq_true', Bool.not_eq_false', Bool.not_eq_true, Bool.not_eq_false, Option.isNone_none, Option.isNone_some, Option.isSome_none, Option.isSome_some, ne_eq, Decidable.not_not] at hc1
     refine WC.skip ?_
     refine WX.next ?_
     refine WC.seq ?_
     refine WC.seq ?_
     refine WC.region ?_
     refine WL.val rfl rfl rfl rfl (r_move rfl (ev_t rfl)) ?_
     refine WL.val rfl rfl rfl rfl (r_lenSlice (ts := #[]) rfl (ev_t rfl) elem_26) ?_
     refine WL.val rfl rfl rfl rfl (r_move rfl ev_c) ?_
     refine WL.nil ?_
     refine WX.keep [(1, _), (2, _), (15, _), (16, _), (17, _)] ⟨rfl, rfl, rfl, rfl, rfl, trivial⟩ ?_
     refine WX.next ?_
     refine WC.block ?_
     -- loop 1: live [1, 2, 15, 16, 17]
     refine WC.keep [(1, _), (2, _), (15, _), (16, _), (17, _)] ⟨rfl, rfl, rfl, rfl, rfl, trivial⟩ ?_
     refine WC.loop (fun q E w' => ∃ (i : Nat), i ≤ la.length ∧ q = la.length - i ∧ Upd No w w' ∧   Rd w' (fun k => F k ∧ k < w.heap.size) (.slice Aa la.length ka) la.length 3 (xa.flatMap c3) ∧ TVs w' (fun k => F k ∧ k < w.heap.size) xa la ∧ Rd w' (fun k => F k ∧ k < w.heap.size) (.slice Ab lb.length kb) lb.length 3 (xb.flatMap c3) ∧ TVs w' (fun k => F k ∧ k < w.heap.size) xb lb ∧ (∀ j, j < i → la[j]? = lb[j]?) ∧   E = [(1, .slice Ab lb.length kb), (2, .func (.func 25) #[] #[]), (15, .slice Aa la.length ka), (16, .int .i64 (la.length : Int)), (17, .int .i64 (i : Int))]) (la.length) ?_ ?_
     · exact ⟨0, by omega, by omega, hU, hra, hksa, hrb, hksb, fun j h => by omega, rfl⟩
     · clear hU hra hksa hrb hksb
       rintro q E w' ⟨i, hi, rfl, hU, hra, hksa, hrb, hksb, hsm, rfl⟩
       have hs0 := hU.size
       refine WC.seq ?_
       refine WC.region ?_
       refine WL.val rfl rfl rfl rfl (r_lss rfl (ev_t rfl) (ev_t rfl)) ?_
       refine WL.nil ?_
       refine WX.keep [(1, _), (2, _), (15, _), (16, _), (17, _), (18, _)] ⟨rfl, rfl, rfl, rfl, rfl, rfl, trivial⟩ ?_
       refine WX.next ?_
       refine WC.seq ?_
       refine WC.cond rfl (ev_t rfl) (fun hc4 => ?_) (fun hc4 => ?_)
       · try (exfalso; first | (simp at hc4; done) | (simp only [decide_eq_true_eq, decide_eq_false_iff_not, Bool.not_eq_true', Bool.not_eq_false', Bool.not_eq_true, Bool.not_eq_false] at hc4; omega) | omega)
         all_goals
          try simp only [decide_eq_true_eq, decide_eq_false_iff_not, Bool.not_eq_true', Bool.not_eq_false', Bool.not_eq_true, Bool.not_eq_false, Option.isNone_none, Option.isNone_some, Option.isSome_none, Option.isSome_some, ne_eq, Decidable.not_not] at hc4
          have hia : i < la.length := by omega
          have hib : i < lb.length := by omega
          obtain ⟨g5, off5, rfl, _⟩ := hra.open (by omega)
          obtain ⟨g6, off6, rfl, _⟩ := hrb.open (by omega)
          have hl5 : i < xa.length := by have := hksa.1; omega
          have hl6 : i < xb.length := by have := hksb.1; omega
          have hx5 : xa[i]? = some xa[i] := List.getElem?_eq_getElem hl5
          have hx6 : xb[i]? = some xb[i] := List.getElem?_eq_getElem hl6
          have hk5 : la[i]? = some la[i] := List.getElem?_eq_getElem hia
          have hk6 : lb[i]? = some lb[i] := List.getElem?_eq_getElem hib
          have hta5 := hksa.2 i _ _ hx5 hk5
          have htb6 := hksb.2 i _ _ hx6 hk6
          have hmem : la[i] ∈ la := List.getElem_mem hia
          generalize xa[i] = c5 at *
          generalize xb[i] = c6 at *
          generalize la[i] = k5' at *
          generalize lb[i] = k6' at *
          obtain ⟨ca, cb, cc⟩ := c5
          obtain ⟨cd, ce, cf⟩ := c6
          obtain ⟨m3, A3, k3, xk3, rfl, rfl, rfl, _⟩ := hta5.open
          obtain ⟨m4, A4, k4, xk4, rfl, rfl, rfl, _⟩ := htb6.open
          refine WC.skip ?_
          refine WX.next ?_
          refine WC.seq ?_
          refine WC.block ?_
          refine WC.seq ?_
          refine WC.region ?_
          refine WL.val rfl rfl rfl rfl (r_move rfl (ev_t rfl)) ?_
          refine WL.val rfl rfl rfl rfl (r_indexAddr rfl (ev_t rfl) (ev_t rfl) elem_26 size_28 (by omega) (by omega)) ?_
          refine WL.val rfl rfl rfl rfl (r_loadAgg (vs := [_, _, _]) rfl (ev_t rfl) agg_28 size_28 (kid_cells hra hx5 rfl)) ?_
          refine WL.cons (SO.alloc rfl rfl rfl rfl (r_alloc rfl zero_28) ?_)
          intro w1 hu1 hB1 hz1
          have hs1 := hu1.size
          replace hU := hU.transA hu1
          replace hra := hra.updA hu1
          replace hksa := hksa.updA hu1
          replace hrb := hrb.updA hu1
          replace hksb := hksb.updA hu1
          replace hta5 := hta5.updA hu1
          replace htb6 := htb6.updA hu1
          refine WL.val rfl rfl rfl rfl (r_assign rfl (ev_t rfl)) ?_
          refine WL.cons (SO.storeAll (us := [_, _, _]) rfl (ev_t rfl) (ev_t rfl) size_28 hB1 rfl rfl rfl rfl rfl ?_)
          intro w2 hu2 hB1 hz2
          have hs2 := hu2.size
          replace hU := hU.transA hu2
          replace hra := hra.updA hu2
          replace hksa := hksa.updA hu2
          replace hrb := hrb.updA hu2
          replace hksb := hksb.updA hu2
          replace hta5 := hta5.updA hu2
          replace htb6 := htb6.updA hu2
          refine WL.nil ?_
          refine WX.keep [(1, _), (2, _), (7, _), (8, _), (15, _), (16, _), (17, _)] ⟨rfl, rfl, rfl, rfl, rfl, rfl, rfl, trivial⟩ ?_
          refine WX.next ?_
          refine WC.seq ?_
          refine WC.region ?_
          have hb8 := hB1
          refine WL.val rfl rfl rfl rfl (r_move rfl (ev_t rfl)) ?_
          refine WL.val rfl rfl rfl rfl (r_move rfl (ev_t rfl)) ?_
          refine WL.val rfl rfl rfl rfl (r_indexAddr rfl (ev_t rfl) (ev_t rfl) elem_26 size_28 (by omega) (by omega)) ?_
          refine WL.val rfl rfl rfl rfl (r_loadAgg (vs := [_, _, _]) rfl (ev_t rfl) agg_28 size_28 (kid_cells hrb hx6 rfl)) ?_
          refine WL.cons (SO.alloc rfl rfl rfl rfl (r_alloc rfl zero_28) ?_)
          intro w3 hu3 hB3 hz3
          have hs3 := hu3.size
          replace hU := hU.transA hu3
          replace hra := hra.updA hu3
          replace hksa := hksa.updA hu3
          replace hrb := hrb.updA hu3
          replace hksb := hksb.updA hu3
          replace hta5 := hta5.updA hu3
          replace htb6 := htb6.updA hu3
          replace hb8 := hb8.updA hu3
          refine WL.cons (SO.storeAll (us := [_, _, _]) rfl (ev_t rfl) (ev_t rfl) size_28 hB3 rfl rfl rfl rfl rfl ?_)
          intro w4 hu4 hB3 hz4
          have hs4 := hu4.size
          replace hU := hU.transA hu4
          replace hra := hra.updA hu4
          replace hksa := hksa.updA hu4
          replace hrb := hrb.updA hu4
          replace hksb := hksb.updA hu4
          replace hta5 := hta5.updA hu4
          replace htb6 := htb6.updA hu4
          replace hb8 := hb8.updA hu4
          refine WL.nil ?_
          refine WX.keep [(1, _), (2, _), (8, _), (9, _), (15, _), (16, _), (17, _)] ⟨rfl, rfl, rfl, rfl, rfl, rfl, rfl, trivial⟩ ?_
          refine WX.next ?_
          refine WC.seq ?_
          refine WC.region ?_
          refine WL.val rfl rfl rfl rfl (r_move rfl (ev_t rfl)) ?_
          refine WL.val rfl rfl rfl rfl (r_loadAgg (vs := [_, _, _]) rfl (ev_t rfl) agg_28 size_28 (Blk.cellsL hb8)) ?_
          refine WL.val rfl rfl rfl rfl (r_loadAgg (vs := [_, _, _]) rfl (ev_t rfl) agg_28 size_28 (Blk.cellsL hB3)) ?_
          refine WL.cons (SO.callV (vs := [_, _]) rfl (ev_t rfl) body_25 ⟨(ev_t rfl), (ev_t rfl), trivial⟩ rfl (H k5' k6' _ _ _ _ _ _ _ _ hmem hta5 htb6) rfl rfl rfl rfl ?_)
          rintro v w5 ⟨bb, rfl, hbb, hu5⟩
          have hs5 := hu5.size
          replace hU := hU.transA hu5
          replace hra := hra.updA hu5
          replace hksa := hksa.updA hu5
          replace hrb := hrb.updA hu5
          replace hksb := hksb.updA hu5
          refine WL.val rfl rfl rfl rfl (r_not rfl (ev_t rfl)) ?_
          refine WL.nil ?_
          refine WX.keep [(1, _), (2, _), (15, _), (16, _), (17, _), (30, _)] ⟨rfl, rfl, rfl, rfl, rfl, rfl, trivial⟩ ?_
          refine WX.next ?_
          refine WC.cond rfl (ev_t rfl) (fun hc7 => ?_) (fun hc7 => ?_)
          · try (exfalso; first | (simp at hc7; done) | (simp only [decide_eq_true_eq, decide_eq_false_iff_not, Bool.not_eq_true', Bool.not_eq_false', Bool.not_eq_true, Bool.not_eq_false] at hc7; omega) | omega)
            all_goals
             try simp only [decide_eq_true_eq, decide_eq_false_iff_not, Bool.not_eq_true', Bool.not_eq_false', Bool.not_eq_true, Bool.not_eq_false, Option.isNone_none, Option.isNone_some, Option.isSome_none, Option.isSome_some, ne_eq, Decidable.not_not] at hc7
             refine WC.seq ?_
             refine WC.region ?_
             refine WL.val rfl rfl rfl rfl (r_assign rfl ev_c) ?_
             refine WL.nil ?_
             refine WX.keep [(6, _)] ⟨rfl, trivial⟩ ?_
             refine WX.next ?_
             refine WC.ret ?_
             refine WX.blockRet ?_
             refine WX.thenRet ?_
             refine WX.thenRet ?_
             refine WX.blockRet ?_
             refine WX.thenRet ?_
             refine WX.retE1 rfl rfl ?_
             refine ⟨false, rfl, ⟨fun h => Bool.noConfusion h, fun h => ?_⟩, hU⟩
             exfalso
             rw [h, hk6] at hk5
             injection hk5 with e
             have := hbb.2 e.symm
             rw [this] at hc7
             cases hc7
          · try (exfalso; first | (simp at hc7; done) | (simp only [decide_eq_true_eq, decide_eq_false_iff_not, Bool.not_eq_true', Bool.not_eq_false', Bool.not_eq_true, Bool.not_eq_false] at hc7; omega) | omega)
            all_goals
             try simp only [decide_eq_true_eq, decide_eq_false_iff_not, Bool.not_eq_true', Bool.not_eq_false', Bool.not_eq_true, Bool.not_eq_false, Option.isNone_none, Option.isNone_some, Option.isSome_none, Option.isSome_some, ne_eq, Decidable.not_not] at hc7
             refine WC.skip ?_
             refine WX.blockNormal ?_
             refine WX.next ?_
             refine WC.region ?_
             first | refine WL.val rfl rfl rfl rfl (r_addN rfl (ev_t rfl) ev_c (by simp only [inK]; omega)) ?_ | refine WL.val rfl rfl rfl rfl (r_add rfl (ev_t rfl) ev_c) ?_
             refine WL.val rfl rfl rfl rfl (r_move rfl (ev_t rfl)) ?_
             refine WL.nil ?_
             refine WX.keep [(1, _), (2, _), (15, _), (16, _), (17, _)] ⟨rfl, rfl, rfl, rfl, rfl, trivial⟩ ?_
             refine WX.meet [(1, _), (2, _), (15, _), (16, _), (17, _)] ⟨rfl, rfl, rfl, rfl, rfl, trivial⟩ ?_
             refine ⟨la.length - (i + 1), by omega, i + 1, by omega, rfl, hU, hra, hksa, hrb, hksb, fun j hj => ?_, by simp⟩
             rcases Nat.lt_or_ge j i with h | h
             · exact hsm j h
             · obtain rfl : j = i := by omega
               have e : k5' = k6' := hbb.1 (by simpa using hc7)
               rw [hk5, hk6, e]
       · try (exfalso; first | (simp at hc4; done) | (simp only [decide_eq_true_eq, decide_eq_false_iff_not, Bool.not_eq_true', Bool.not_eq_false', Bool.not_eq_true, Bool.not_eq_false] at hc4; omega) | omega)
         all_goals
          try simp only [decide_eq_true_eq, decide_eq_false_iff_not, Bool.not_eq_true', Bool.not_eq_false', Bool.not_eq_true, Bool.not_eq_false, Option.isNone_none, Option.isNone_some, Option.isSome_none, Option.isSome_some, ne_eq, Decidable.not_not] at hc4
          refine WC.exit ?_
          refine WX.thenExit ?_
          refine WX.thenExit ?_
          refine WX.blockHere ?_
          refine WX.next ?_
          refine WC.seq ?_
          refine WC.region ?_
          refine WL.val rfl rfl rfl rfl (r_assign rfl ev_c) ?_
          refine WL.nil ?_
          refine WX.keep [(6, _)] ⟨rfl, trivial⟩ ?_
          refine WX.next ?_
          refine WC.ret ?_
          refine WX.retE1 rfl rfl ?_
          refine ⟨true, rfl, ⟨fun _ => ?_, fun _ => rfl⟩, hU⟩
          exact list_eq_of (by omega) fun j hj => hsm j (by omega)

set_option maxHeartbeats 4000000 in
theorem tsame_ok : ∀ (N : Nat) (F : Nat → Prop) (w : World) (a1 a2 a3 b1 b2 b3 : Value) (a b : Ty), sz a ≤ N → TV w F (a1, a2, a3) a → TV w F (b1, b2, b3) b →
    Ret Try.prog 25 #[.agg #[a1, a2, a3], .agg #[b1, b2, b3]] w fun v w' => ∃ bb, v = .bool bb ∧ (bb = true ↔ a = b) ∧ Upd No w w' := by
  intro N
  induction N with
  | zero =>
    intro F w a1 a2 a3 b1 b2 b3 a b hN
    have := sz_pos a
    omega
  | succ N ih =>
    intro F w a1 a2 a3 b1 b2 b3 a b hN hta htb
    replace hta := hta.bound
    replace htb := htb.bound
    obtain ⟨ma, Aa, ka, xka, rfl, rfl, rfl, hma, hra, hla, hba, hka⟩ := hta.open
    obtain ⟨mb, Ab, kb, xkb, rfl, rfl, rfl, hmb, hrb, hlb, hbb, hkb⟩ := htb.open
    have hksa : TVs w (fun k => F k ∧ k < w.heap.size) xka a.kids := ⟨hla, hka⟩
    have hksb : TVs w (fun k => F k ∧ k < w.heap.size) xkb b.kids := ⟨hlb, hkb⟩
    have hH : ∀ k ∈ a.kids, sz k ≤ N := fun k hk => by
      cases a with
      | v x => simp [Ty.kids] at hk
      | c f ks => have := sz_kid (n := f) (show k ∈ ks from hk); omega
    refine enterRet (vs := [_, _]) (N := 29) Try.func25 rfl rfl rfl ?_
    have hU := Upd.refl No w
    refine WC.keep [(0, _), (1, _)] ⟨rfl, rfl, trivial⟩ ?_
    refine WC.seq ?_
    refine WC.region ?_
    refine WL.cons (SO.alloc rfl rfl rfl rfl (r_boxAgg rfl (ev_t rfl)) ?_)
    intro w1 hu1 hB1 hz1
    have hs1 := hu1.size
    replace hU := hU.transA hu1
    replace hra := hra.updA hu1
    replace hrb := hrb.updA hu1
    replace hksa := hksa.updA hu1
    replace hksb := hksb.updA hu1
    refine WL.cons (SO.alloc rfl rfl rfl rfl (r_boxAgg rfl (ev_t rfl)) ?_)
    intro w2 hu2 hB2 hz2
    have hs2 := hu2.size
    replace hU := hU.transA hu2
    replace hra := hra.updA hu2
    replace hrb := hrb.updA hu2
    replace hksa := hksa.updA hu2
    replace hksb := hksb.updA hu2
    replace hB1 := hB1.updA hu2
    refine WL.val rfl rfl rfl rfl (r_assign rfl ev_c) ?_
    refine WL.nil ?_
    refine WX.keep [(2, _), (3, _)] ⟨rfl, rfl, trivial⟩ ?_
    refine WX.next ?_
    refine WC.seq ?_
    refine WC.region ?_
    first | refine WL.val rfl rfl rfl rfl (r_field0 rfl (ev_t rfl) fld_28_0) ?_ | refine WL.val rfl rfl rfl rfl (r_fieldAt rfl (ev_t rfl) fld_28_0) ?_
    refine WL.val rfl rfl rfl rfl (r_load rfl (ev_t rfl) flat_9 (Blk.cell hB1 rfl)) ?_
    first | refine WL.val rfl rfl rfl rfl (r_field0 rfl (ev_t rfl) fld_28_0) ?_ | refine WL.val rfl rfl rfl rfl (r_fieldAt rfl (ev_t rfl) fld_28_0) ?_
    refine WL.val rfl rfl rfl rfl (r_load rfl (ev_t rfl) flat_9 (Blk.cell hB2 rfl)) ?_
    refine WL.val rfl rfl rfl rfl (r_eqlStrL rfl (ev_t rfl) (ev_t rfl)) ?_
    refine WL.val rfl rfl rfl rfl (r_move rfl (ev_t rfl)) ?_
    refine WL.cases 10 rfl (fun hb1_5 => ?_) (fun hb1_5 => ?_)
    · try (exfalso; first | (simp at hb1_5; done) | (simp only [decide_eq_true_eq, decide_eq_false_iff_not, Bool.not_eq_true', Bool.not_eq_false', Bool.not_eq_true, Bool.not_eq_false] at hb1_5; omega) | omega)
      all_goals
       try simp only [decide_eq_true_eq, decide_eq_false_iff_not, Bool.not_eq_true', Bool.not_eq_false', Bool.not_eq_true, Bool.not_eq_false, Option.isNone_none, Option.isNone_some, Option.isSome_none, Option.isSome_some, ne_eq, Decidable.not_not] at hb1_5
       first | refine WL.val rfl rfl rfl rfl (r_field0 rfl (ev_t rfl) fld_28_0) ?_ | refine WL.val rfl rfl rfl rfl (r_fieldAt rfl (ev_t rfl) fld_28_0) ?_
       refine WL.val rfl rfl rfl rfl (r_load rfl (ev_t rfl) flat_9 (Blk.cell hB1 rfl)) ?_
       refine WL.val rfl rfl rfl rfl (r_neqStrL rfl (ev_t rfl) ev_c) ?_
       refine WL.val rfl rfl rfl rfl (r_move rfl (ev_t rfl)) ?_
       refine WL.cases 14 rfl (fun hb1_9 => ?_) (fun hb1_9 => ?_)
       · try (exfalso; first | (simp at hb1_9; done) | (simp only [decide_eq_true_eq, decide_eq_false_iff_not, Bool.not_eq_true', Bool.not_eq_false', Bool.not_eq_true, Bool.not_eq_false] at hb1_9; omega) | omega)
         all_goals
          try simp only [decide_eq_true_eq, decide_eq_false_iff_not, Bool.not_eq_true', Bool.not_eq_false', Bool.not_eq_true, Bool.not_eq_false, Option.isNone_none, Option.isNone_some, Option.isSome_none, Option.isSome_some, ne_eq, Decidable.not_not] at hb1_9
          refine WL.skip rfl rfl rfl ?_
          refine WL.skip rfl rfl rfl ?_
          refine WL.skip rfl rfl rfl ?_
          refine WL.skip rfl rfl rfl ?_
          refine WL.skip rfl rfl rfl ?_
          refine WL.val rfl rfl rfl rfl (r_pickT rfl (ev_t rfl) ev_c) ?_
          refine WL.val rfl rfl rfl rfl (r_pickT rfl (ev_t rfl) (ev_t rfl)) ?_
          refine WL.val rfl rfl rfl rfl (r_move rfl (ev_t rfl)) ?_
          first | refine WL.val rfl rfl rfl rfl (r_field0 rfl (ev_t rfl) fld_28_2) ?_ | refine WL.val rfl rfl rfl rfl (r_fieldAt rfl (ev_t rfl) fld_28_2) ?_
          refine WL.val rfl rfl rfl rfl (r_load rfl (ev_t rfl) flat_26 (Blk.cell hB1 rfl)) ?_
          first | refine WL.val rfl rfl rfl rfl (r_field0 rfl (ev_t rfl) fld_28_2) ?_ | refine WL.val rfl rfl rfl rfl (r_fieldAt rfl (ev_t rfl) fld_28_2) ?_
          refine WL.val rfl rfl rfl rfl (r_load rfl (ev_t rfl) flat_26 (Blk.cell hB2 rfl)) ?_
          refine WL.cons (SO.call (equalF_ok hra hrb hksa hksb (fun k b' w' F' c1 c2 c3 d1 d2 d3 hk => ih F' w' c1 c2 c3 d1 d2 d3 k b' (hH k hk))) rfl body_37 ⟨(ev_t rfl), (ev_t rfl), ev_f, trivial⟩ rfl rfl rfl rfl ?_)
          rintro v w3 ⟨bb, rfl, hbb, hu3⟩
          have hs3 := hu3.size
          replace hU := hU.transA hu3
          replace hra := hra.updA hu3
          replace hrb := hrb.updA hu3
          replace hksa := hksa.updA hu3
          replace hksb := hksb.updA hu3
          replace hB1 := hB1.updA hu3
          replace hB2 := hB2.updA hu3
          refine WL.val rfl rfl rfl rfl (r_pickT rfl (ev_t rfl) (ev_t rfl)) ?_
          refine WL.val rfl rfl rfl rfl (r_assign rfl (ev_t rfl)) ?_
          refine WL.nil ?_
          refine WX.keep [(4, _)] ⟨rfl, trivial⟩ ?_
          refine WX.next ?_
          refine WC.ret ?_
          refine WX.retE1 rfl rfl ?_
          refine ⟨_, rfl, ⟨fun h => ?_, fun h => ?_⟩, hU⟩
          · first
              | exact Bool.noConfusion h
              | exact ty_ext hb1_5 (fun x y h1 h2 => by subst h1; exact absurd rfl hb1_9) (hbb.1 h)
              | exact ty_ext hb1_5 (fun x y h1 h2 => by have e1 := hma x h1; have e2 := hmb y h2; omega) (hbb.1 h)
          · subst h
            first
              | exact hbb.2 rfl
              | exact absurd rfl hb1_5
              | (exfalso; obtain ⟨x, hx⟩ := Ty.nm_nil.1 hb1_9; have e1 := hma x hx; have e2 := hmb x hx; omega)
       · try (exfalso; first | (simp at hb1_9; done) | (simp only [decide_eq_true_eq, decide_eq_false_iff_not, Bool.not_eq_true', Bool.not_eq_false', Bool.not_eq_true, Bool.not_eq_false] at hb1_9; omega) | omega)
         all_goals
          try simp only [decide_eq_true_eq, decide_eq_false_iff_not, Bool.not_eq_true', Bool.not_eq_false', Bool.not_eq_true, Bool.not_eq_false, Option.isNone_none, Option.isNone_some, Option.isSome_none, Option.isSome_some, ne_eq, Decidable.not_not] at hb1_9
          first | refine WL.val rfl rfl rfl rfl (r_field0 rfl (ev_t rfl) fld_28_1) ?_ | refine WL.val rfl rfl rfl rfl (r_fieldAt rfl (ev_t rfl) fld_28_1) ?_
          refine WL.val rfl rfl rfl rfl (r_load rfl (ev_t rfl) flat_3 (Blk.cell hB1 rfl)) ?_
          first | refine WL.val rfl rfl rfl rfl (r_field0 rfl (ev_t rfl) fld_28_1) ?_ | refine WL.val rfl rfl rfl rfl (r_fieldAt rfl (ev_t rfl) fld_28_1) ?_
          refine WL.val rfl rfl rfl rfl (r_load rfl (ev_t rfl) flat_3 (Blk.cell hB2 rfl)) ?_
          refine WL.val rfl rfl rfl rfl (r_eql rfl (ev_t rfl) (ev_t rfl)) ?_
          refine WL.val rfl rfl rfl rfl (r_pickF rfl (ev_t rfl) (ev_t rfl)) ?_
          refine WL.val rfl rfl rfl rfl (r_pickT rfl (ev_t rfl) (ev_t rfl)) ?_
          refine WL.val rfl rfl rfl rfl (r_move rfl (ev_t rfl)) ?_
          refine WL.cases 22 rfl (fun hb1_17 => ?_) (fun hb1_17 => ?_)
          · try (exfalso; first | (simp at hb1_17; done) | (simp only [decide_eq_true_eq, decide_eq_false_iff_not, Bool.not_eq_true', Bool.not_eq_false', Bool.not_eq_true, Bool.not_eq_false] at hb1_17; omega) | omega)
            all_goals
             try simp only [decide_eq_true_eq, decide_eq_false_iff_not, Bool.not_eq_true', Bool.not_eq_false', Bool.not_eq_true, Bool.not_eq_false, Option.isNone_none, Option.isNone_some, Option.isSome_none, Option.isSome_some, ne_eq, Decidable.not_not] at hb1_17
             first | refine WL.val rfl rfl rfl rfl (r_field0 rfl (ev_t rfl) fld_28_2) ?_ | refine WL.val rfl rfl rfl rfl (r_fieldAt rfl (ev_t rfl) fld_28_2) ?_
             refine WL.val rfl rfl rfl rfl (r_load rfl (ev_t rfl) flat_26 (Blk.cell hB1 rfl)) ?_
             first | refine WL.val rfl rfl rfl rfl (r_field0 rfl (ev_t rfl) fld_28_2) ?_ | refine WL.val rfl rfl rfl rfl (r_fieldAt rfl (ev_t rfl) fld_28_2) ?_
             refine WL.val rfl rfl rfl rfl (r_load rfl (ev_t rfl) flat_26 (Blk.cell hB2 rfl)) ?_
             refine WL.cons (SO.call (equalF_ok hra hrb hksa hksb (fun k b' w' F' c1 c2 c3 d1 d2 d3 hk => ih F' w' c1 c2 c3 d1 d2 d3 k b' (hH k hk))) rfl body_37 ⟨(ev_t rfl), (ev_t rfl), ev_f, trivial⟩ rfl rfl rfl rfl ?_)
             rintro v w4 ⟨bb, rfl, hbb, hu4⟩
             have hs4 := hu4.size
             replace hU := hU.transA hu4
             replace hra := hra.updA hu4
             replace hrb := hrb.updA hu4
             replace hksa := hksa.updA hu4
             replace hksb := hksb.updA hu4
             replace hB1 := hB1.updA hu4
             replace hB2 := hB2.updA hu4
             refine WL.val rfl rfl rfl rfl (r_pickT rfl (ev_t rfl) (ev_t rfl)) ?_
             refine WL.val rfl rfl rfl rfl (r_assign rfl (ev_t rfl)) ?_
             refine WL.nil ?_
             refine WX.keep [(4, _)] ⟨rfl, trivial⟩ ?_
             refine WX.next ?_
             refine WC.ret ?_
             refine WX.retE1 rfl rfl ?_
             refine ⟨_, rfl, ⟨fun h => ?_, fun h => ?_⟩, hU⟩
             · first
                 | exact Bool.noConfusion h
                 | exact ty_ext hb1_5 (fun x y h1 h2 => by subst h1; exact absurd rfl hb1_9) (hbb.1 h)
                 | exact ty_ext hb1_5 (fun x y h1 h2 => by have e1 := hma x h1; have e2 := hmb y h2; omega) (hbb.1 h)
             · subst h
               first
                 | exact hbb.2 rfl
                 | exact absurd rfl hb1_5
                 | (exfalso; obtain ⟨x, hx⟩ := Ty.nm_nil.1 hb1_9; have e1 := hma x hx; have e2 := hmb x hx; omega)
          · try (exfalso; first | (simp at hb1_17; done) | (simp only [decide_eq_true_eq, decide_eq_false_iff_not, Bool.not_eq_true', Bool.not_eq_false', Bool.not_eq_true, Bool.not_eq_false] at hb1_17; omega) | omega)
            all_goals
             try simp only [decide_eq_true_eq, decide_eq_false_iff_not, Bool.not_eq_true', Bool.not_eq_false', Bool.not_eq_true, Bool.not_eq_false, Option.isNone_none, Option.isNone_some, Option.isSome_none, Option.isSome_some, ne_eq, Decidable.not_not] at hb1_17
             refine WL.skip rfl rfl rfl ?_
             refine WL.skip rfl rfl rfl ?_
             refine WL.skip rfl rfl rfl ?_
             refine WL.skip rfl rfl rfl ?_
             refine WL.skip rfl rfl rfl ?_
             refine WL.val rfl rfl rfl rfl (r_pickF rfl (ev_t rfl) ev_c) ?_
             refine WL.val rfl rfl rfl rfl (r_assign rfl (ev_t rfl)) ?_
             refine WL.nil ?_
             refine WX.keep [(4, _)] ⟨rfl, trivial⟩ ?_
             refine WX.next ?_
             refine WC.ret ?_
             refine WX.retE1 rfl rfl ?_
             refine ⟨_, rfl, ⟨fun h => ?_, fun h => ?_⟩, hU⟩
             · first
                 | exact Bool.noConfusion h
                 | exact ty_ext hb1_5 (fun x y h1 h2 => by subst h1; exact absurd rfl hb1_9) (hbb.1 h)
                 | exact ty_ext hb1_5 (fun x y h1 h2 => by have e1 := hma x h1; have e2 := hmb y h2; omega) (hbb.1 h)
             · subst h
               first
                 | exact hbb.2 rfl
                 | exact absurd rfl hb1_5
                 | (exfalso; obtain ⟨x, hx⟩ := Ty.nm_nil.1 hb1_9; have e1 := hma x hx; have e2 := hmb x hx; omega)
    · try (exfalso; first | (simp at hb1_5; done) | (simp only [decide_eq_true_eq, decide_eq_false_iff_not, Bool.not_eq_true', Bool.not_eq_false', Bool.not_eq_true, Bool.not_eq_false] at hb1_5; omega) | omega)
      all_goals
       try simp only [decide_eq_true_eq, decide_eq_false_iff_not, Bool.not_eq_true', Bool.not_eq_false', Bool.not_eq_true, Bool.not_eq_false, Option.isNone_none, Option.isNone_some, Option.isSome_none, Option.isSome_some, ne_eq, Decidable.not_not] at hb1_5
       refine WL.skip rfl rfl rfl ?_
       refine WL.skip rfl rfl rfl ?_
       refine WL.skip rfl rfl rfl ?_
       refine WL.skip rfl rfl rfl ?_
       refine WL.skip rfl rfl rfl ?_
       refine WL.skip rfl rfl rfl ?_
       refine WL.skip rfl rfl rfl ?_
       refine WL.skip rfl rfl rfl ?_
       refine WL.skip rfl rfl rfl ?_
       refine WL.skip rfl rfl rfl ?_
       refine WL.val rfl rfl rfl rfl (r_pickF rfl (ev_t rfl) ev_c) ?_
       refine WL.val rfl rfl rfl rfl (r_move rfl (ev_t rfl)) ?_
       refine WL.skip rfl rfl rfl ?_
       refine WL.skip rfl rfl rfl ?_
       refine WL.skip rfl rfl rfl ?_
       refine WL.skip rfl rfl rfl ?_
       refine WL.skip rfl rfl rfl ?_
       refine WL.val rfl rfl rfl rfl (r_pickF rfl (ev_t rfl) ev_c) ?_
       refine WL.val rfl rfl rfl rfl (r_assign rfl (ev_t rfl)) ?_
       refine WL.nil ?_
       refine WX.keep [(4, _)] ⟨rfl, trivial⟩ ?_
       refine WX.next ?_
       refine WC.ret ?_
       refine WX.retE1 rfl rfl ?_
       refine ⟨_, rfl, ⟨fun h => ?_, fun h => ?_⟩, hU⟩
       · first
           | exact Bool.noConfusion h
           | exact ty_ext hb1_5 (fun x y h1 h2 => by subst h1; exact absurd rfl hb1_9) (hbb.1 h)
           | exact ty_ext hb1_5 (fun x y h1 h2 => by have e1 := hma x h1; have e2 := hmb y h2; omega) (hbb.1 h)
       · subst h
         first
           | exact hbb.2 rfl
           | exact absurd rfl hb1_5
           | (exfalso; obtain ⟨x, hx⟩ := Ty.nm_nil.1 hb1_9; have e1 := hma x hx; have e2 := hmb x hx; omega)
end Go.Proofs.Ytncakfcafkfmfaa
