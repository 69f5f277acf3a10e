/-
  Several texts put together: Tyk, Tyl, TyV, Tys, Tyq, TyB, Fs, Fv, Tyv, TyO, TyZ.
-/
import Derived.Laws.StructEq
import Derived.Test.YtncakfcafkfmfaaZc
/-
  types: the reference's Same; the program's Same.
-/
namespace Go.Proofs.Ytncakfcafkfmfaa
open Go
set_option linter.unusedSimpArgs false
set_option linter.unusedVariables false

theorem ty_ext {a b : Ty} (hn : a.nm = b.nm) (hv : ∀ x y, a = .v x → b = .v y → x = y) (hk : a.kids = b.kids) : a = b := by
  cases a with
  | v x =>
    cases b with
    | v y => rw [hv x y rfl rfl]
    | c g ls => exact absurd hn.symm g.2
  | c f ks =>
    cases b with
    | v y => exact absurd hn f.2
    | c g ls =>
      simp only [Ty.kids] at hk
      subst hk
      rw [nmv_eq hn]
theorem list_eq_of {a b : List Ty} (hl : a.length = b.length) (h : ∀ j, j < a.length → a[j]? = b[j]?) : a = b := by
  apply List.ext_getElem?
  intro j
  rcases Nat.lt_or_ge j a.length with hj | hj
  · exact h j hj
  · rw [List.getElem?_eq_none hj, List.getElem?_eq_none (by omega)]

set_option maxHeartbeats 4000000 in
theorem rsame_ok : ∀ (N : Nat) (F : Nat → Prop) (w : World) (a1 a2 a3 b1 b2 b3 : Value) (a b : Ty), sz a ≤ N → TV w F (a1, a2, a3) a → TV w F (b1, b2, b3) b →
    Ret Try.prog 16 #[.agg #[a1, a2, a3], .agg #[b1, b2, b3]] w fun v w' => ∃ bb, v = .bool bb ∧ (bb = true ↔ a = b) ∧ Upd No w w' := by
  intro N
  induction N with
  | zero =>
    intro F w a1 a2 a3 b1 b2 b3 a b hN
    have := sz_pos a
    omega
  | succ N ih =>
    intro F w a1 a2 a3 b1 b2 b3 a b hN hta htb
    replace hta := hta.bound
    replace htb := htb.bound
    obtain ⟨ma, Aa, ka, xka, rfl, rfl, rfl, hma, hra, hla, hba, hka⟩ := hta.open
    obtain ⟨mb, Ab, kb, xkb, rfl, rfl, rfl, hmb, hrb, hlb, hbb, hkb⟩ := htb.open
    have hksa : TVs w (fun k => F k ∧ k < w.heap.size) xka a.kids := ⟨hla, hka⟩
    have hksb : TVs w (fun k => F k ∧ k < w.heap.size) xkb b.kids := ⟨hlb, hkb⟩
    refine enterRet (vs := [_, _]) (N := 51) Try.func16 rfl rfl rfl ?_
    have hU := Upd.refl No w
    refine WC.keep [(0, _), (1, _)] ⟨rfl, rfl, trivial⟩ ?_
    refine WC.seq ?_
    refine WC.region ?_
    refine WL.cons (SO.alloc rfl rfl rfl rfl (r_boxAgg rfl (ev_t rfl)) ?_)
    intro w1 hu1 hB1 hz1
    have hs1 := hu1.size
    replace hU := hU.transA hu1
    replace hra := hra.updA hu1
    replace hrb := hrb.updA hu1
    replace hksa := hksa.updA hu1
    replace hksb := hksb.updA hu1
    refine WL.cons (SO.alloc rfl rfl rfl rfl (r_boxAgg rfl (ev_t rfl)) ?_)
    intro w2 hu2 hB2 hz2
    have hs2 := hu2.size
    replace hU := hU.transA hu2
    replace hra := hra.updA hu2
    replace hrb := hrb.updA hu2
    replace hksa := hksa.updA hu2
    replace hksb := hksb.updA hu2
    replace hB1 := hB1.updA hu2
    refine WL.val rfl rfl rfl rfl (r_assign rfl ev_c) ?_
    refine WL.nil ?_
    refine WX.keep [(2, _), (3, _)] ⟨rfl, rfl, trivial⟩ ?_
    refine WX.next ?_
    -- cut 1: live [2, 3]
    refine WC.cut (fun E wA => w2 = wA ∧ a.nm = b.nm ∧ (∀ x y, a = .v x → b = .v y → x = y) ∧ a.kids.length = b.kids.length ∧ E = [(2, .pointer (some ⟨w.heap.size, 0, none⟩)), (3, .pointer (some ⟨w1.heap.size, 0, none⟩))]) ?_ ?_
    · refine WC.seq ?_
      refine WC.region ?_
      first | refine WL.val rfl rfl rfl rfl (r_field0 rfl (ev_t rfl) fld_28_0) ?_ | refine WL.val rfl rfl rfl rfl (r_fieldAt rfl (ev_t rfl) fld_28_0) ?_
      refine WL.val rfl rfl rfl rfl (r_load rfl (ev_t rfl) flat_9 (Blk.cell hB1 rfl)) ?_
      first | refine WL.val rfl rfl rfl rfl (r_field0 rfl (ev_t rfl) fld_28_0) ?_ | refine WL.val rfl rfl rfl rfl (r_fieldAt rfl (ev_t rfl) fld_28_0) ?_
      refine WL.val rfl rfl rfl rfl (r_load rfl (ev_t rfl) flat_9 (Blk.cell hB2 rfl)) ?_
      refine WL.val rfl rfl rfl rfl (r_neqStrL rfl (ev_t rfl) (ev_t rfl)) ?_
      refine WL.val rfl rfl rfl rfl (r_move rfl (ev_t rfl)) ?_
      refine WL.cases 11 rfl (fun hb1_5 => ?_) (fun hb1_5 => ?_)
      · try (exfalso; first | (simp at hb1_5; done) | (simp only [decide_eq_true_eq, decide_eq_false_iff_not, Bool.not_eq_true', Bool.not_eq_false', Bool.not_eq_true, Bool.not_eq_false] at hb1_5; omega) | omega)
        all_goals
         try simp only [decide_eq_true_eq, decide_eq_false_iff_not, Bool.not_eq_true', Bool.not_eq_false', Bool.not_eq_true, Bool.not_eq_false, Option.isNone_none, Option.isNone_some, Option.isSome_none, Option.isSome_some, ne_eq, Decidable.not_not] at hb1_5
         refine WL.skip rfl rfl rfl ?_
         refine WL.skip rfl rfl rfl ?_
         refine WL.skip rfl rfl rfl ?_
         refine WL.skip rfl rfl rfl ?_
         refine WL.skip rfl rfl rfl ?_
         refine WL.skip rfl rfl rfl ?_
         refine WL.skip rfl rfl rfl ?_
         refine WL.skip rfl rfl rfl ?_
         refine WL.skip rfl rfl rfl ?_
         refine WL.skip rfl rfl rfl ?_
         refine WL.val rfl rfl rfl rfl (r_pickT rfl (ev_t rfl) ev_c) ?_
         refine WL.val rfl rfl rfl rfl (r_move rfl (ev_t rfl)) ?_
         refine WL.skip rfl rfl rfl ?_
         refine WL.skip rfl rfl rfl ?_
         refine WL.skip rfl rfl rfl ?_
         refine WL.skip rfl rfl rfl ?_
         refine WL.skip rfl rfl rfl ?_
         refine WL.skip rfl rfl rfl ?_
         refine WL.skip rfl rfl rfl ?_
         refine WL.val rfl rfl rfl rfl (r_pickT rfl (ev_t rfl) ev_c) ?_
         refine WL.nil ?_
         refine WX.keep [(2, _), (3, _), (31, _)] ⟨rfl, rfl, rfl, trivial⟩ ?_
         refine WX.next ?_
         refine WC.cond_true rfl (ev_t rfl) ?_
         refine WC.seq ?_
         refine WC.region ?_
         refine WL.val rfl rfl rfl rfl (r_assign rfl ev_c) ?_
         refine WL.nil ?_
         refine WX.keep [(4, _)] ⟨rfl, trivial⟩ ?_
         refine WX.next ?_
         refine WC.ret ?_
         refine WX.thenRet ?_
         refine WX.retE1 rfl rfl ?_
         refine ⟨false, rfl, ⟨fun h => Bool.noConfusion h, fun h => ?_⟩, hU⟩
         exfalso
         subst h
         first
           | exact hb1_5 rfl
           | exact hc1 rfl
           | exact absurd hc1 (by simp)
           | (obtain ⟨x, hx⟩ := Ty.nm_nil.1 hb1_9; have e1 := hma x hx; have e2 := hmb x hx; omega)
           | omega
      · try (exfalso; first | (simp at hb1_5; done) | (simp only [decide_eq_true_eq, decide_eq_false_iff_not, Bool.not_eq_true', Bool.not_eq_false', Bool.not_eq_true, Bool.not_eq_false] at hb1_5; omega) | omega)
        all_goals
         try simp only [decide_eq_true_eq, decide_eq_false_iff_not, Bool.not_eq_true', Bool.not_eq_false', Bool.not_eq_true, Bool.not_eq_false, Option.isNone_none, Option.isNone_some, Option.isSome_none, Option.isSome_some, ne_eq, Decidable.not_not] at hb1_5
         first | refine WL.val rfl rfl rfl rfl (r_field0 rfl (ev_t rfl) fld_28_0) ?_ | refine WL.val rfl rfl rfl rfl (r_fieldAt rfl (ev_t rfl) fld_28_0) ?_
         refine WL.val rfl rfl rfl rfl (r_load rfl (ev_t rfl) flat_9 (Blk.cell hB1 rfl)) ?_
         refine WL.val rfl rfl rfl rfl (r_eqlStrL rfl (ev_t rfl) ev_c) ?_
         refine WL.val rfl rfl rfl rfl (r_move rfl (ev_t rfl)) ?_
         refine WL.cases 15 rfl (fun hb1_9 => ?_) (fun hb1_9 => ?_)
         · try (exfalso; first | (simp at hb1_9; done) | (simp only [decide_eq_true_eq, decide_eq_false_iff_not, Bool.not_eq_true', Bool.not_eq_false', Bool.not_eq_true, Bool.not_eq_false] at hb1_9; omega) | omega)
           all_goals
            try simp only [decide_eq_true_eq, decide_eq_false_iff_not, Bool.not_eq_true', Bool.not_eq_false', Bool.not_eq_true, Bool.not_eq_false, Option.isNone_none, Option.isNone_some, Option.isSome_none, Option.isSome_some, ne_eq, Decidable.not_not] at hb1_9
            first | refine WL.val rfl rfl rfl rfl (r_field0 rfl (ev_t rfl) fld_28_1) ?_ | refine WL.val rfl rfl rfl rfl (r_fieldAt rfl (ev_t rfl) fld_28_1) ?_
            refine WL.val rfl rfl rfl rfl (r_load rfl (ev_t rfl) flat_3 (Blk.cell hB1 rfl)) ?_
            first | refine WL.val rfl rfl rfl rfl (r_field0 rfl (ev_t rfl) fld_28_1) ?_ | refine WL.val rfl rfl rfl rfl (r_fieldAt rfl (ev_t rfl) fld_28_1) ?_
            refine WL.val rfl rfl rfl rfl (r_load rfl (ev_t rfl) flat_3 (Blk.cell hB2 rfl)) ?_
            refine WL.val rfl rfl rfl rfl (r_neq rfl (ev_t rfl) (ev_t rfl)) ?_
            refine WL.val rfl rfl rfl rfl (r_pickT rfl (ev_t rfl) (ev_t rfl)) ?_
            refine WL.val rfl rfl rfl rfl (r_pickF rfl (ev_t rfl) (ev_t rfl)) ?_
            refine WL.val rfl rfl rfl rfl (r_move rfl (ev_t rfl)) ?_
            refine WL.cases 23 rfl (fun hb1_17 => ?_) (fun hb1_17 => ?_)
            · try (exfalso; first | (simp at hb1_17; done) | (simp only [decide_eq_true_eq, decide_eq_false_iff_not, Bool.not_eq_true', Bool.not_eq_false', Bool.not_eq_true, Bool.not_eq_false] at hb1_17; omega) | omega)
              all_goals
               try simp only [decide_eq_true_eq, decide_eq_false_iff_not, Bool.not_eq_true', Bool.not_eq_false', Bool.not_eq_true, Bool.not_eq_false, Option.isNone_none, Option.isNone_some, Option.isSome_none, Option.isSome_some, ne_eq, Decidable.not_not] at hb1_17
               refine WL.skip rfl rfl rfl ?_
               refine WL.skip rfl rfl rfl ?_
               refine WL.skip rfl rfl rfl ?_
               refine WL.skip rfl rfl rfl ?_
               refine WL.skip rfl rfl rfl ?_
               refine WL.skip rfl rfl rfl ?_
               refine WL.skip rfl rfl rfl ?_
               refine WL.val rfl rfl rfl rfl (r_pickT rfl (ev_t rfl) ev_c) ?_
               refine WL.nil ?_
               refine WX.keep [(2, _), (3, _), (31, _)] ⟨rfl, rfl, rfl, trivial⟩ ?_
               refine WX.next ?_
               refine WC.cond_true rfl (ev_t rfl) ?_
               refine WC.seq ?_
               refine WC.region ?_
               refine WL.val rfl rfl rfl rfl (r_assign rfl ev_c) ?_
               refine WL.nil ?_
               refine WX.keep [(4, _)] ⟨rfl, trivial⟩ ?_
               refine WX.next ?_
               refine WC.ret ?_
               refine WX.thenRet ?_
               refine WX.retE1 rfl rfl ?_
               refine ⟨false, rfl, ⟨fun h => Bool.noConfusion h, fun h => ?_⟩, hU⟩
               exfalso
               subst h
               first
                 | exact hb1_5 rfl
                 | exact hc1 rfl
                 | exact absurd hc1 (by simp)
                 | (obtain ⟨x, hx⟩ := Ty.nm_nil.1 hb1_9; have e1 := hma x hx; have e2 := hmb x hx; omega)
                 | omega
            · try (exfalso; first | (simp at hb1_17; done) | (simp only [decide_eq_true_eq, decide_eq_false_iff_not, Bool.not_eq_true', Bool.not_eq_false', Bool.not_eq_true, Bool.not_eq_false] at hb1_17; omega) | omega)
              all_goals
               try simp only [decide_eq_true_eq, decide_eq_false_iff_not, Bool.not_eq_true', Bool.not_eq_false', Bool.not_eq_true, Bool.not_eq_false, Option.isNone_none, Option.isNone_some, Option.isSome_none, Option.isSome_some, ne_eq, Decidable.not_not] at hb1_17
               first | refine WL.val rfl rfl rfl rfl (r_field0 rfl (ev_t rfl) fld_28_2) ?_ | refine WL.val rfl rfl rfl rfl (r_fieldAt rfl (ev_t rfl) fld_28_2) ?_
               refine WL.val rfl rfl rfl rfl (r_load rfl (ev_t rfl) flat_26 (Blk.cell hB1 rfl)) ?_
               refine WL.val rfl rfl rfl rfl (r_lenSlice (ts := #[]) rfl (ev_t rfl) elem_26) ?_
               first | refine WL.val rfl rfl rfl rfl (r_field0 rfl (ev_t rfl) fld_28_2) ?_ | refine WL.val rfl rfl rfl rfl (r_fieldAt rfl (ev_t rfl) fld_28_2) ?_
               refine WL.val rfl rfl rfl rfl (r_load rfl (ev_t rfl) flat_26 (Blk.cell hB2 rfl)) ?_
               refine WL.val rfl rfl rfl rfl (r_lenSlice (ts := #[]) rfl (ev_t rfl) elem_26) ?_
               refine WL.val rfl rfl rfl rfl (r_neq rfl (ev_t rfl) (ev_t rfl)) ?_
               refine WL.val rfl rfl rfl rfl (r_pickF rfl (ev_t rfl) (ev_t rfl)) ?_
               refine WL.nil ?_
               refine WX.keep [(2, _), (3, _), (31, _)] ⟨rfl, rfl, rfl, trivial⟩ ?_
               refine WX.next ?_
               refine WC.cond rfl (ev_t rfl) (fun hc1 => ?_) (fun hc1 => ?_)
               · try (exfalso; first | (simp at hc1; done) | (simp only [decide_eq_true_eq, decide_eq_false_iff_not, Bool.not_eq_true', Bool.not_eq_false', Bool.not_eq_true, Bool.not_eq_false] at hc1; omega) | omega)
                 all_goals
                  try simp only [decide_eq_true_eq, decide_eq_false_iff_not, Bool.not_eq_true', Bool.not_eq_false', Bool.not_eq_true, Bool.not_eq_false, Option.isNone_none, Option.isNone_some, Option.isSome_none, Option.isSome_some, ne_eq, Decidable.not_not] at hc1
                  refine WC.seq ?_
                  refine WC.region ?_
                  refine WL.val rfl rfl rfl rfl (r_assign rfl ev_c) ?_
                  refine WL.nil ?_
                  refine WX.keep [(4, _)] ⟨rfl, trivial⟩ ?_
                  refine WX.next ?_
                  refine WC.ret ?_
                  refine WX.thenRet ?_
                  refine WX.retE1 rfl rfl ?_
                  refine ⟨false, rfl, ⟨fun h => Bool.noConfusion h, fun h => ?_⟩, hU⟩
                  exfalso
                  subst h
                  first
                    | exact hb1_5 rfl
                    | exact hc1 rfl
                    | exact absurd hc1 (by simp)
                    | (obtain ⟨x, hx⟩ := Ty.nm_nil.1 hb1_9; have e1 := hma x hx; have e2 := hmb x hx; omega)
                    | omega
               · try (exfalso; first | (simp at hc1; done) | (simp only [decide_eq_true_eq, decide_eq_false_iff_not, Bool.not_eq_true', Bool.not_eq_false', Bool.not_eq_true, Bool.not_eq_false] at hc1; omega) | omega)
                 all_goals
                  try simp only [decide_eq_true_eq, decide_eq_false_iff_not, Bool.not_eq_true', Bool.not_eq_false', Bool.not_eq_true, Bool.not_eq_false, Option.isNone_none, Option.isNone_some, Option.isSome_none, Option.isSome_some, ne_eq, Decidable.not_not] at hc1
                  refine WC.skip ?_
                  refine WX.meet [(2, _), (3, _)] ⟨rfl, rfl, trivial⟩ ?_
                  refine ⟨rfl, hb1_5, fun x y h1 h2 => ?_, by omega, rfl⟩
                  have e1 := hma x h1
                  have e2 := hmb y h2
                  first
                    | (subst h1; exact absurd rfl hb1_9)
                    | omega
         · try (exfalso; first | (simp at hb1_9; done) | (simp only [decide_eq_true_eq, decide_eq_false_iff_not, Bool.not_eq_true', Bool.not_eq_false', Bool.not_eq_true, Bool.not_eq_false] at hb1_9; omega) | omega)
           all_goals
            try simp only [decide_eq_true_eq, decide_eq_false_iff_not, Bool.not_eq_true', Bool.not_eq_false', Bool.not_eq_true, Bool.not_eq_false, Option.isNone_none, Option.isNone_some, Option.isSome_none, Option.isSome_some, ne_eq, Decidable.not_not] at hb1_9
            refine WL.skip rfl rfl rfl ?_
            refine WL.skip rfl rfl rfl ?_
            refine WL.skip rfl rfl rfl ?_
            refine WL.skip rfl rfl rfl ?_
            refine WL.skip rfl rfl rfl ?_
            refine WL.val rfl rfl rfl rfl (r_pickF rfl (ev_t rfl) ev_c) ?_
            refine WL.val rfl rfl rfl rfl (r_pickF rfl (ev_t rfl) (ev_t rfl)) ?_
            refine WL.val rfl rfl rfl rfl (r_move rfl (ev_t rfl)) ?_
            first | refine WL.val rfl rfl rfl rfl (r_field0 rfl (ev_t rfl) fld_28_2) ?_ | refine WL.val rfl rfl rfl rfl (r_fieldAt rfl (ev_t rfl) fld_28_2) ?_
            refine WL.val rfl rfl rfl rfl (r_load rfl (ev_t rfl) flat_26 (Blk.cell hB1 rfl)) ?_
            refine WL.val rfl rfl rfl rfl (r_lenSlice (ts := #[]) rfl (ev_t rfl) elem_26) ?_
            first | refine WL.val rfl rfl rfl rfl (r_field0 rfl (ev_t rfl) fld_28_2) ?_ | refine WL.val rfl rfl rfl rfl (r_fieldAt rfl (ev_t rfl) fld_28_2) ?_
            refine WL.val rfl rfl rfl rfl (r_load rfl (ev_t rfl) flat_26 (Blk.cell hB2 rfl)) ?_
            refine WL.val rfl rfl rfl rfl (r_lenSlice (ts := #[]) rfl (ev_t rfl) elem_26) ?_
            refine WL.val rfl rfl rfl rfl (r_neq rfl (ev_t rfl) (ev_t rfl)) ?_
            refine WL.val rfl rfl rfl rfl (r_pickF rfl (ev_t rfl) (ev_t rfl)) ?_
            refine WL.nil ?_
            refine WX.keep [(2, _), (3, _), (31, _)] ⟨rfl, rfl, rfl, trivial⟩ ?_
            refine WX.next ?_
            refine WC.cond rfl (ev_t rfl) (fun hc1 => ?_) (fun hc1 => ?_)
            · try (exfalso; first | (simp at hc1; done) | (simp only [decide_eq_true_eq, decide_eq_false_iff_not, Bool.not_eq_true', Bool.not_eq_false', Bool.not_eq_true, Bool.not_eq_false] at hc1; omega) | omega)
              all_goals
               try simp only [decide_eq_true_eq, decide_eq_false_iff_not, Bool.not_eq_true', Bool.not_eq_false', Bool.not_eq_true, Bool.not_eq_false, Option.isNone_none, Option.isNone_some, Option.isSome_none, Option.isSome_some, ne_eq, Decidable.not_not] at hc1
               refine WC.seq ?_
               refine WC.region ?_
               refine WL.val rfl rfl rfl rfl (r_assign rfl ev_c) ?_
               refine WL.nil ?_
               refine WX.keep [(4, _)] ⟨rfl, trivial⟩ ?_
               refine WX.next ?_
               refine WC.ret ?_
               refine WX.thenRet ?_
               refine WX.retE1 rfl rfl ?_
               refine ⟨false, rfl, ⟨fun h => Bool.noConfusion h, fun h => ?_⟩, hU⟩
               exfalso
               subst h
               first
                 | exact hb1_5 rfl
                 | exact hc1 rfl
                 | exact absurd hc1 (by simp)
                 | (obtain ⟨x, hx⟩ := Ty.nm_nil.1 hb1_9; have e1 := hma x hx; have e2 := hmb x hx; omega)
                 | omega
            · try (exfalso; first | (simp at hc1; done) | (simp only [decide_eq_true_eq, decide_eq_false_iff_not, Bool.not_eq_true', Bool.not_eq_false', Bool.not_eq_true, Bool.not_eq_false] at hc1; omega) | omega)
              all_goals
               try simp only [decide_eq_true_eq, decide_eq_false_iff_not, Bool.not_eq_true', Bool.not_eq_false', Bool.not_eq_true, Bool.not_eq_false, Option.isNone_none, Option.isNone_some, Option.isSome_none, Option.isSome_some, ne_eq, Decidable.not_not] at hc1
               refine WC.skip ?_
               refine WX.meet [(2, _), (3, _)] ⟨rfl, rfl, trivial⟩ ?_
               refine ⟨rfl, hb1_5, fun x y h1 h2 => ?_, by omega, rfl⟩
               have e1 := hma x h1
               have e2 := hmb y h2
               first
                 | (subst h1; exact absurd rfl hb1_9)
                 | omega
    · rintro E wA ⟨rfl, hnm, hvv, hlen, rfl⟩
      refine WC.seq ?_
      refine WC.seq ?_
      refine WC.region ?_
      refine WL.val rfl rfl rfl rfl (r_assign rfl ev_c) ?_
      refine WL.nil ?_
      refine WX.keep [(2, _), (3, _), (5, _)] ⟨rfl, rfl, rfl, trivial⟩ ?_
      refine WX.next ?_
      refine WC.block ?_
      -- loop 1: live [2, 3, 5]
      refine WC.keep [(2, _), (3, _), (5, _)] ⟨rfl, rfl, rfl, trivial⟩ ?_
      refine WC.loop (fun q E w' => ∃ (i : Nat), i ≤ a.kids.length ∧ q = a.kids.length - i ∧ Upd No w w' ∧ Blk w' w.heap.size #[.string ⟨a.nm.toArray⟩, .int .i64 ma, .slice Aa a.kids.length ka] typ ∧ Blk w' w1.heap.size #[.string ⟨b.nm.toArray⟩, .int .i64 mb, .slice Ab b.kids.length kb] typ ∧   Rd w' (fun k => F k ∧ k < w.heap.size) (.slice Aa a.kids.length ka) a.kids.length 3 (xka.flatMap c3) ∧ TVs w' (fun k => F k ∧ k < w.heap.size) xka a.kids ∧ Rd w' (fun k => F k ∧ k < w.heap.size) (.slice Ab b.kids.length kb) b.kids.length 3 (xkb.flatMap c3) ∧ TVs w' (fun k => F k ∧ k < w.heap.size) xkb b.kids ∧ (∀ j, j < i → a.kids[j]? = b.kids[j]?) ∧   E = [(2, .pointer (some ⟨w.heap.size, 0, none⟩)), (3, .pointer (some ⟨w1.heap.size, 0, none⟩)), (5, .int .i64 (i : Int))]) (a.kids.length) ?_ ?_
      · exact ⟨0, by omega, by omega, hU, hB1, hB2, hra, hksa, hrb, hksb, fun j h => by omega, rfl⟩
      · clear hU hB1 hB2 hra hksa hrb hksb
        rintro q E w' ⟨i, hi, rfl, hU, hB1, hB2, hra, hksa, hrb, hksb, hsm, rfl⟩
        refine WC.seq ?_
        refine WC.seq ?_
        refine WC.region ?_
        refine WL.val rfl rfl rfl rfl (r_move rfl (ev_t rfl)) ?_
        first | refine WL.val rfl rfl rfl rfl (r_field0 rfl (ev_t rfl) fld_28_2) ?_ | refine WL.val rfl rfl rfl rfl (r_fieldAt rfl (ev_t rfl) fld_28_2) ?_
        refine WL.val rfl rfl rfl rfl (r_load rfl (ev_t rfl) flat_26 (Blk.cell hB1 rfl)) ?_
        refine WL.val rfl rfl rfl rfl (r_lenSlice (ts := #[]) rfl (ev_t rfl) elem_26) ?_
        refine WL.val rfl rfl rfl rfl (r_lss rfl (ev_t rfl) (ev_t rfl)) ?_
        refine WL.nil ?_
        refine WX.keep [(2, _), (3, _), (5, _), (36, _)] ⟨rfl, rfl, rfl, rfl, trivial⟩ ?_
        refine WX.next ?_
        refine WC.cond rfl (ev_t rfl) (fun hc4 => ?_) (fun hc4 => ?_)
        · try (exfalso; first | (simp at hc4; done) | (simp only [decide_eq_true_eq, decide_eq_false_iff_not, Bool.not_eq_true', Bool.not_eq_false', Bool.not_eq_true, Bool.not_eq_false] at hc4; omega) | omega)
          all_goals
           try simp only [decide_eq_true_eq, decide_eq_false_iff_not, Bool.not_eq_true', Bool.not_eq_false', Bool.not_eq_true, Bool.not_eq_false, Option.isNone_none, Option.isNone_some, Option.isSome_none, Option.isSome_some, ne_eq, Decidable.not_not] at hc4
           have hia : i < a.kids.length := by omega
           have hib : i < b.kids.length := by omega
           obtain ⟨g5, off5, rfl, _⟩ := hra.open (by omega)
           obtain ⟨g6, off6, rfl, _⟩ := hrb.open (by omega)
           have hl5 : i < xka.length := by have := hksa.1; omega
           have hl6 : i < xkb.length := by have := hksb.1; omega
           have hx5 : xka[i]? = some xka[i] := List.getElem?_eq_getElem hl5
           have hx6 : xkb[i]? = some xkb[i] := List.getElem?_eq_getElem hl6
           have hk5 : a.kids[i]? = some a.kids[i] := List.getElem?_eq_getElem hia
           have hk6 : b.kids[i]? = some b.kids[i] := List.getElem?_eq_getElem hib
           have hta5 := hksa.2 i _ _ hx5 hk5
           have htb6 := hksb.2 i _ _ hx6 hk6
           have hkl : sz a.kids[i] < sz a := by
             cases a with
             | v x => simp [Ty.kids] at hia
             | c f ks => exact sz_kid (n := f) (List.getElem_mem hia)
           generalize xka[i] = c5 at *
           generalize xkb[i] = c6 at *
           generalize a.kids[i] = k5' at *
           generalize b.kids[i] = k6' at *
           obtain ⟨ca, cb, cc⟩ := c5
           obtain ⟨cd, ce, cf⟩ := c6
           refine WC.skip ?_
           refine WX.next ?_
           refine WC.seq ?_
           refine WC.block ?_
           refine WC.seq ?_
           refine WC.draws' (fun u0_ u1_ => Upd No u0_ u1_) (fun j => [0, 0, 0, 0, 0, 0, 1, 0, 0, 1, 2, 0].getD j 0) (.calm 0 (.calm 2 (.calm 5 (.calm 7 (.held 1 (.calm 3 (.held 4 (.one 6 (.calm 8 (.one 9 (.one 10 (.calm 11 (.done))))))))))))) mixed (by kernel_rfl) (by repeat (first | with_reducible exact Deaf.body | with_reducible apply Deaf.then | with_reducible apply Deaf.block)) ?_
           intro w3 hu3
           have hz3 := congrArg Array.size hu3.2.2.2
           replace hu3 := Upd.of_draw hu3
           have hs3 := hu3.size
           replace hU := hU.transA hu3
           replace hB1 := hB1.updA hu3
           replace hB2 := hB2.updA hu3
           replace hra := hra.updA hu3
           replace hksa := hksa.updA hu3
           replace hrb := hrb.updA hu3
           replace hksb := hksb.updA hu3
           replace hta5 := hta5.updA hu3
           replace htb6 := htb6.updA hu3
           have hS6 := Upd.refl No w3
           first | refine WN.calm _ rfl rfl rfl rfl rfl (fun _ => r_field0 rfl (ev_t rfl) fld_28_2) ?_ | refine WN.calm _ rfl rfl rfl rfl rfl (fun _ => r_fieldAt rfl (ev_t rfl) fld_28_2) ?_
           refine WN.calm _ rfl rfl rfl rfl rfl (fun _ => r_move rfl (ev_t rfl)) ?_
           first | refine WN.calm _ rfl rfl rfl rfl rfl (fun _ => r_field0 rfl (ev_t rfl) fld_28_2) ?_ | refine WN.calm _ rfl rfl rfl rfl rfl (fun _ => r_fieldAt rfl (ev_t rfl) fld_28_2) ?_
           refine WN.calm _ rfl rfl rfl rfl rfl (fun _ => r_move rfl (ev_t rfl)) ?_
           refine WN.held _ rfl rfl rfl rfl rfl hS6 (fun w' hS => r_load rfl (ev_t rfl) flat_26 (Blk.cell (hB1.upd hS (fun h => h)) rfl)) ?_
           refine WN.calm _ rfl rfl rfl rfl rfl (fun _ => r_indexAddr rfl (ev_t rfl) (ev_t rfl) elem_26 size_28 (by omega) (by omega)) ?_
           refine WN.held _ rfl rfl rfl rfl rfl hS6 (fun w' hS => r_loadAgg (vs := [_, _, _]) rfl (ev_t rfl) agg_28 size_28 (kid_cells (hra.upd hS (fun _ _ _ h => h)) hx5 rfl)) ?_
           refine WN.step _ rfl (SO.val rfl rfl rfl rfl (r_load rfl (ev_t rfl) flat_26 (Blk.cell hB2 rfl)) ?_)
           refine ⟨hS6, ?_⟩
           refine WN.calm _ rfl rfl rfl rfl rfl (fun _ => r_indexAddr rfl (ev_t rfl) (ev_t rfl) elem_26 size_28 (by omega) (by omega)) ?_
           refine WN.step _ rfl (SO.val rfl rfl rfl rfl (r_loadAgg (vs := [_, _, _]) rfl (ev_t rfl) agg_28 size_28 (kid_cells hrb hx6 rfl)) ?_)
           refine ⟨hS6, ?_⟩
           refine WN.step _ rfl (SO.call (ih _ _ _ _ _ _ _ _ k5' k6' (by omega) hta5 htb6) rfl body_16 ⟨(ev_t rfl), (ev_t rfl), trivial⟩ rfl rfl rfl rfl ?_)
           rintro v w4 ⟨bb, rfl, hbb, hu4⟩
           have hs4 := hu4.size
           try replace hS6 := Upd.transA hS6 hu4
           replace hU := hU.transA hu4
           replace hB1 := hB1.updA hu4
           replace hB2 := hB2.updA hu4
           replace hra := hra.updA hu4
           replace hksa := hksa.updA hu4
           replace hrb := hrb.updA hu4
           replace hksb := hksb.updA hu4
           refine ⟨trivial, ?_⟩
           refine WN.calm _ rfl rfl rfl rfl rfl (fun _ => r_not rfl (ev_t rfl)) ?_
           refine WN.done ?_
           refine WX.keep [(2, _), (3, _), (5, _), (50, _)] ⟨rfl, rfl, rfl, rfl, trivial⟩ ?_
           refine WX.next ?_
           refine WC.cond rfl (ev_t rfl) (fun hc6 => ?_) (fun hc6 => ?_)
           · try (exfalso; first | (simp at hc6; done) | (simp only [decide_eq_true_eq, decide_eq_false_iff_not, Bool.not_eq_true', Bool.not_eq_false', Bool.not_eq_true, Bool.not_eq_false] at hc6; omega) | omega)
             all_goals
              try simp only [decide_eq_true_eq, decide_eq_false_iff_not, Bool.not_eq_true', Bool.not_eq_false', Bool.not_eq_true, Bool.not_eq_false, Option.isNone_none, Option.isNone_some, Option.isSome_none, Option.isSome_some, ne_eq, Decidable.not_not] at hc6
              refine WC.seq ?_
              refine WC.region ?_
              refine WL.val rfl rfl rfl rfl (r_assign rfl ev_c) ?_
              refine WL.nil ?_
              refine WX.keep [(4, _)] ⟨rfl, trivial⟩ ?_
              refine WX.next ?_
              refine WC.ret ?_
              refine WX.blockRet ?_
              refine WX.thenRet ?_
              refine WX.thenRet ?_
              refine WX.blockRet ?_
              refine WX.thenRet ?_
              refine WX.retE1 rfl rfl ?_
              refine ⟨false, rfl, ⟨fun h => Bool.noConfusion h, fun h => ?_⟩, hU⟩
              exfalso
              rw [h, hk6] at hk5
              injection hk5 with e
              have := hbb.2 e.symm
              rw [this] at hc6
              cases hc6
           · try (exfalso; first | (simp at hc6; done) | (simp only [decide_eq_true_eq, decide_eq_false_iff_not, Bool.not_eq_true', Bool.not_eq_false', Bool.not_eq_true, Bool.not_eq_false] at hc6; omega) | omega)
             all_goals
              try simp only [decide_eq_true_eq, decide_eq_false_iff_not, Bool.not_eq_true', Bool.not_eq_false', Bool.not_eq_true, Bool.not_eq_false, Option.isNone_none, Option.isNone_some, Option.isSome_none, Option.isSome_some, ne_eq, Decidable.not_not] at hc6
              refine WC.skip ?_
              refine WX.blockNormal ?_
              refine WX.next ?_
              refine WC.region ?_
              refine WL.val rfl rfl rfl rfl (r_move rfl (ev_t rfl)) ?_
              first | refine WL.val rfl rfl rfl rfl (r_addN rfl (ev_t rfl) ev_c (by simp only [inK]; omega)) ?_ | refine WL.val rfl rfl rfl rfl (r_add rfl (ev_t rfl) ev_c) ?_
              refine WL.val rfl rfl rfl rfl (r_assign rfl (ev_t rfl)) ?_
              refine WL.nil ?_
              refine WX.keep [(2, _), (3, _), (5, _)] ⟨rfl, rfl, rfl, trivial⟩ ?_
              refine WX.meet [(2, _), (3, _), (5, _)] ⟨rfl, rfl, rfl, trivial⟩ ?_
              refine ⟨a.kids.length - (i + 1), by omega, i + 1, by omega, rfl, hU, hB1, hB2, hra, hksa, hrb, hksb, fun j hj => ?_, by simp⟩
              rcases Nat.lt_or_ge j i with h | h
              · exact hsm j h
              · obtain rfl : j = i := by omega
                have e : k5' = k6' := hbb.1 (by simpa using hc6)
                rw [hk5, hk6, e]
        · try (exfalso; first | (simp at hc4; done) | (simp only [decide_eq_true_eq, decide_eq_false_iff_not, Bool.not_eq_true', Bool.not_eq_false', Bool.not_eq_true, Bool.not_eq_false] at hc4; omega) | omega)
          all_goals
           try simp only [decide_eq_true_eq, decide_eq_false_iff_not, Bool.not_eq_true', Bool.not_eq_false', Bool.not_eq_true, Bool.not_eq_false, Option.isNone_none, Option.isNone_some, Option.isSome_none, Option.isSome_some, ne_eq, Decidable.not_not] at hc4
           refine WC.exit ?_
           refine WX.thenExit ?_
           refine WX.thenExit ?_
           refine WX.blockHere ?_
           refine WX.next ?_
           refine WC.seq ?_
           refine WC.region ?_
           refine WL.val rfl rfl rfl rfl (r_assign rfl ev_c) ?_
           refine WL.nil ?_
           refine WX.keep [(4, _)] ⟨rfl, trivial⟩ ?_
           refine WX.next ?_
           refine WC.ret ?_
           refine WX.retE1 rfl rfl ?_
           refine ⟨true, rfl, ⟨fun _ => ?_, fun _ => rfl⟩, hU⟩
           exact ty_ext hnm hvv (list_eq_of hlen fun j hj => hsm j (by omega))

set_option maxHeartbeats 4000000 in
theorem equalF_ok {F : Nat → Prop} {w : World} {av bv : Value} {xa xb : List C3} {la lb : List Ty} (hra : Rd w F av la.length 3 (xa.flatMap c3)) (hrb : Rd w F bv lb.length 3 (xb.flatMap c3)) (hksa : TVs w F xa la) (hksb : TVs w F xb lb)
    (H : ∀ (a b : Ty) (w' : World) (F' : Nat → Prop) (a1 a2 a3 b1 b2 b3 : Value), a ∈ la → TV w' F' (a1, a2, a3) a → TV w' F' (b1, b2, b3) b → Ret Try.prog 25 #[.agg #[a1, a2, a3], .agg #[b1, b2, b3]] w' fun v w'' => ∃ bb, v = .bool bb ∧ (bb = true ↔ a = b) ∧ Upd No w' w'') :
    Ret Try.prog 37 #[av, bv, .func (.func 25) #[] #[]] w fun v w' => ∃ bb, v = .bool bb ∧ (bb = true ↔ la = lb) ∧ Upd No w w' := by
  replace hra := hra.bound
  replace hrb := hrb.bound
  replace hksa := hksa.bound
  replace hksb := hksb.bound
  obtain ⟨Aa, ka, rfl, _⟩ := hra.slice_form
  obtain ⟨Ab, kb, rfl, _⟩ := hrb.slice_form
  have hmm := hra.le
  refine enterRet (vs := [_, _, _]) (N := 32) Try.func37 rfl rfl rfl ?_
  have hU := Upd.refl No w
  refine WC.keep [(0, _), (1, _), (2, _)] ⟨rfl, rfl, rfl, trivial⟩ ?_
  refine WC.seq ?_
  refine WC.region ?_
  refine WL.val rfl rfl rfl rfl (r_assign rfl ev_c) ?_
  refine WL.nil ?_
  refine WX.keep [(0, _), (1, _), (2, _)] ⟨rfl, rfl, rfl, trivial⟩ ?_
  refine WX.next ?_
  refine WC.seq ?_
  refine WC.seq ?_
  refine WC.region ?_
  refine WL.val rfl rfl rfl rfl (r_move rfl (ev_t rfl)) ?_
  refine WL.val rfl rfl rfl rfl (r_lenSlice (ts := #[]) rfl (ev_t rfl) elem_26) ?_
  refine WL.val rfl rfl rfl rfl (r_move rfl (ev_t rfl)) ?_
  refine WL.val rfl rfl rfl rfl (r_lenSlice (ts := #[]) rfl (ev_t rfl) elem_26) ?_
  refine WL.val rfl rfl rfl rfl (r_neq rfl (ev_t rfl) (ev_t rfl)) ?_
  refine WL.nil ?_
  refine WX.keep [(0, _), (1, _), (2, _), (14, _)] ⟨rfl, rfl, rfl, rfl, trivial⟩ ?_
  refine WX.next ?_
  refine WC.cond rfl (ev_t rfl) (fun hc1 => ?_) (fun hc1 => ?_)
  · try (exfalso; first | (simp at hc1; done) | (simp only [decide_eq_true_eq, decide_eq_false_iff_not, Bool.not_eq_true', Bool.not_eq_false', Bool.not_eq_true, Bool.not_eq_false] at hc1; omega) | omega)
    all_goals
     try simp only [decide_eq_true_eq, decide_eq_false_iff_not, Bool.not_eq_true', Bool.not_eq_false', Bool.not_eq_true, Bool.not_eq_false, Option.isNone_none, Option.isNone_some, Option.isSome_none, Option.isSome_some, ne_eq, Decidable.not_not] at hc1
     refine WC.seq ?_
     refine WC.region ?_
     refine WL.val rfl rfl rfl rfl (r_assign rfl ev_c) ?_
     refine WL.nil ?_
     refine WX.keep [(6, _)] ⟨rfl, trivial⟩ ?_
     refine WX.next ?_
     refine WC.ret ?_
     refine WX.thenRet ?_
     refine WX.retE1 rfl rfl ?_
     refine ⟨false, rfl, ⟨fun h => Bool.noConfusion h, fun h => ?_⟩, hU⟩
     exact absurd (by rw [h]) hc1
  · try (exfalso; first | (simp at hc1; done) | (simp only [decide_eq_true_eq, decide_eq_false_iff_not, Bool.not_eq_true', Bool.not_eq_false', Bool.not_eq_true, Bool.not_eq_false] at hc1; omega) | omega)
    all_goals
     try simp only [decide_eq_true_eq, decide_eq_false_iff_not, Bool.not_eq_true', Bool.not_eq_false', Bool.not_eq_true, Bool.not_eq_false, Option.isNone_none, Option.isNone_some, Option.isSome_none, Option.isSome_some, ne_eq, Decidable.not_not] at hc1
     refine WC.skip ?_
     refine WX.next ?_
     refine WC.seq ?_
     refine WC.seq ?_
     refine WC.region ?_
     refine WL.val rfl rfl rfl rfl (r_move rfl (ev_t rfl)) ?_
     refine WL.val rfl rfl rfl rfl (r_lenSlice (ts := #[]) rfl (ev_t rfl) elem_26) ?_
     refine WL.val rfl rfl rfl rfl (r_move rfl ev_c) ?_
     refine WL.nil ?_
     refine WX.keep [(1, _), (2, _), (15, _), (16, _), (17, _)] ⟨rfl, rfl, rfl, rfl, rfl, trivial⟩ ?_
     refine WX.next ?_
     refine WC.block ?_
     -- loop 1: live [1, 2, 15, 16, 17]
     refine WC.keep [(1, _), (2, _), (15, _), (16, _), (17, _)] ⟨rfl, rfl, rfl, rfl, rfl, trivial⟩ ?_
     refine WC.loop (fun q E w' => ∃ (i : Nat), i ≤ la.length ∧ q = la.length - i ∧ Upd No w w' ∧   Rd w' (fun k => F k ∧ k < w.heap.size) (.slice Aa la.length ka) la.length 3 (xa.flatMap c3) ∧ TVs w' (fun k => F k ∧ k < w.heap.size) xa la ∧ Rd w' (fun k => F k ∧ k < w.heap.size) (.slice Ab lb.length kb) lb.length 3 (xb.flatMap c3) ∧ TVs w' (fun k => F k ∧ k < w.heap.size) xb lb ∧ (∀ j, j < i → la[j]? = lb[j]?) ∧   E = [(1, .slice Ab lb.length kb), (2, .func (.func 25) #[] #[]), (15, .slice Aa la.length ka), (16, .int .i64 (la.length : Int)), (17, .int .i64 (i : Int))]) (la.length) ?_ ?_
     · exact ⟨0, by omega, by omega, hU, hra, hksa, hrb, hksb, fun j h => by omega, rfl⟩
     · clear hU hra hksa hrb hksb
       rintro q E w' ⟨i, hi, rfl, hU, hra, hksa, hrb, hksb, hsm, rfl⟩
       have hs0 := hU.size
       refine WC.seq ?_
       refine WC.region ?_
       refine WL.val rfl rfl rfl rfl (r_lss rfl (ev_t rfl) (ev_t rfl)) ?_
       refine WL.nil ?_
       refine WX.keep [(1, _), (2, _), (15, _), (16, _), (17, _), (18, _)] ⟨rfl, rfl, rfl, rfl, rfl, rfl, trivial⟩ ?_
       refine WX.next ?_
       refine WC.seq ?_
       refine WC.cond rfl (ev_t rfl) (fun hc4 => ?_) (fun hc4 => ?_)
       · try (exfalso; first | (simp at hc4; done) | (simp only [decide_eq_true_eq, decide_eq_false_iff_not, Bool.not_eq_true', Bool.not_eq_false', Bool.not_eq_true, Bool.not_eq_false] at hc4; omega) | omega)
         all_goals
          try simp only [decide_eq_true_eq, decide_eq_false_iff_not, Bool.not_eq_true', Bool.not_eq_false', Bool.not_eq_true, Bool.not_eq_false, Option.isNone_none, Option.isNone_some, Option.isSome_none, Option.isSome_some, ne_eq, Decidable.not_not] at hc4
          have hia : i < la.length := by omega
          have hib : i < lb.length := by omega
          obtain ⟨g5, off5, rfl, _⟩ := hra.open (by omega)
          obtain ⟨g6, off6, rfl, _⟩ := hrb.open (by omega)
          have hl5 : i < xa.length := by have := hksa.1; omega
          have hl6 : i < xb.length := by have := hksb.1; omega
          have hx5 : xa[i]? = some xa[i] := List.getElem?_eq_getElem hl5
          have hx6 : xb[i]? = some xb[i] := List.getElem?_eq_getElem hl6
          have hk5 : la[i]? = some la[i] := List.getElem?_eq_getElem hia
          have hk6 : lb[i]? = some lb[i] := List.getElem?_eq_getElem hib
          have hta5 := hksa.2 i _ _ hx5 hk5
          have htb6 := hksb.2 i _ _ hx6 hk6
          have hmem : la[i] ∈ la := List.getElem_mem hia
          generalize xa[i] = c5 at *
          generalize xb[i] = c6 at *
          generalize la[i] = k5' at *
          generalize lb[i] = k6' at *
          obtain ⟨ca, cb, cc⟩ := c5
          obtain ⟨cd, ce, cf⟩ := c6
          obtain ⟨m3, A3, k3, xk3, rfl, rfl, rfl, _⟩ := hta5.open
          obtain ⟨m4, A4, k4, xk4, rfl, rfl, rfl, _⟩ := htb6.open
          refine WC.skip ?_
          refine WX.next ?_
          refine WC.seq ?_
          refine WC.block ?_
          refine WC.seq ?_
          refine WC.region ?_
          refine WL.val rfl rfl rfl rfl (r_move rfl (ev_t rfl)) ?_
          refine WL.val rfl rfl rfl rfl (r_indexAddr rfl (ev_t rfl) (ev_t rfl) elem_26 size_28 (by omega) (by omega)) ?_
          refine WL.val rfl rfl rfl rfl (r_loadAgg (vs := [_, _, _]) rfl (ev_t rfl) agg_28 size_28 (kid_cells hra hx5 rfl)) ?_
          refine WL.cons (SO.alloc rfl rfl rfl rfl (r_alloc rfl zero_28) ?_)
          intro w1 hu1 hB1 hz1
          have hs1 := hu1.size
          replace hU := hU.transA hu1
          replace hra := hra.updA hu1
          replace hksa := hksa.updA hu1
          replace hrb := hrb.updA hu1
          replace hksb := hksb.updA hu1
          replace hta5 := hta5.updA hu1
          replace htb6 := htb6.updA hu1
          refine WL.val rfl rfl rfl rfl (r_assign rfl (ev_t rfl)) ?_
          refine WL.cons (SO.storeAll (us := [_, _, _]) rfl (ev_t rfl) (ev_t rfl) size_28 hB1 rfl rfl rfl rfl rfl ?_)
          intro w2 hu2 hB1 hz2
          have hs2 := hu2.size
          replace hU := hU.transA hu2
          replace hra := hra.updA hu2
          replace hksa := hksa.updA hu2
          replace hrb := hrb.updA hu2
          replace hksb := hksb.updA hu2
          replace hta5 := hta5.updA hu2
          replace htb6 := htb6.updA hu2
          refine WL.nil ?_
          refine WX.keep [(1, _), (2, _), (7, _), (8, _), (15, _), (16, _), (17, _)] ⟨rfl, rfl, rfl, rfl, rfl, rfl, rfl, trivial⟩ ?_
          refine WX.next ?_
          refine WC.seq ?_
          refine WC.region ?_
          have hb8 := hB1
          refine WL.val rfl rfl rfl rfl (r_move rfl (ev_t rfl)) ?_
          refine WL.val rfl rfl rfl rfl (r_move rfl (ev_t rfl)) ?_
          refine WL.val rfl rfl rfl rfl (r_indexAddr rfl (ev_t rfl) (ev_t rfl) elem_26 size_28 (by omega) (by omega)) ?_
          refine WL.val rfl rfl rfl rfl (r_loadAgg (vs := [_, _, _]) rfl (ev_t rfl) agg_28 size_28 (kid_cells hrb hx6 rfl)) ?_
          refine WL.cons (SO.alloc rfl rfl rfl rfl (r_alloc rfl zero_28) ?_)
          intro w3 hu3 hB3 hz3
          have hs3 := hu3.size
          replace hU := hU.transA hu3
          replace hra := hra.updA hu3
          replace hksa := hksa.updA hu3
          replace hrb := hrb.updA hu3
          replace hksb := hksb.updA hu3
          replace hta5 := hta5.updA hu3
          replace htb6 := htb6.updA hu3
          replace hb8 := hb8.updA hu3
          refine WL.cons (SO.storeAll (us := [_, _, _]) rfl (ev_t rfl) (ev_t rfl) size_28 hB3 rfl rfl rfl rfl rfl ?_)
          intro w4 hu4 hB3 hz4
          have hs4 := hu4.size
          replace hU := hU.transA hu4
          replace hra := hra.updA hu4
          replace hksa := hksa.updA hu4
          replace hrb := hrb.updA hu4
          replace hksb := hksb.updA hu4
          replace hta5 := hta5.updA hu4
          replace htb6 := htb6.updA hu4
          replace hb8 := hb8.updA hu4
          refine WL.nil ?_
          refine WX.keep [(1, _), (2, _), (8, _), (9, _), (15, _), (16, _), (17, _)] ⟨rfl, rfl, rfl, rfl, rfl, rfl, rfl, trivial⟩ ?_
          refine WX.next ?_
          refine WC.seq ?_
          refine WC.region ?_
          refine WL.val rfl rfl rfl rfl (r_move rfl (ev_t rfl)) ?_
          refine WL.val rfl rfl rfl rfl (r_loadAgg (vs := [_, _, _]) rfl (ev_t rfl) agg_28 size_28 (Blk.cellsL hb8)) ?_
          refine WL.val rfl rfl rfl rfl (r_loadAgg (vs := [_, _, _]) rfl (ev_t rfl) agg_28 size_28 (Blk.cellsL hB3)) ?_
          refine WL.cons (SO.callV (vs := [_, _]) rfl (ev_t rfl) body_25 ⟨(ev_t rfl), (ev_t rfl), trivial⟩ rfl (H k5' k6' _ _ _ _ _ _ _ _ hmem hta5 htb6) rfl rfl rfl rfl ?_)
          rintro v w5 ⟨bb, rfl, hbb, hu5⟩
          have hs5 := hu5.size
          replace hU := hU.transA hu5
          replace hra := hra.updA hu5
          replace hksa := hksa.updA hu5
          replace hrb := hrb.updA hu5
          replace hksb := hksb.updA hu5
          refine WL.val rfl rfl rfl rfl (r_not rfl (ev_t rfl)) ?_
          refine WL.nil ?_
          refine WX.keep [(1, _), (2, _), (15, _), (16, _), (17, _), (30, _)] ⟨rfl, rfl, rfl, rfl, rfl, rfl, trivial⟩ ?_
          refine WX.next ?_
          refine WC.cond rfl (ev_t rfl) (fun hc7 => ?_) (fun hc7 => ?_)
          · try (exfalso; first | (simp at hc7; done) | (simp only [decide_eq_true_eq, decide_eq_false_iff_not, Bool.not_eq_true', Bool.not_eq_false', Bool.not_eq_true, Bool.not_eq_false] at hc7; omega) | omega)
            all_goals
             try simp only [decide_eq_true_eq, decide_eq_false_iff_not, Bool.not_eq_true', Bool.not_eq_false', Bool.not_eq_true, Bool.not_eq_false, Option.isNone_none, Option.isNone_some, Option.isSome_none, Option.isSome_some, ne_eq, Decidable.not_not] at hc7
             refine WC.seq ?_
             refine WC.region ?_
             refine WL.val rfl rfl rfl rfl (r_assign rfl ev_c) ?_
             refine WL.nil ?_
             refine WX.keep [(6, _)] ⟨rfl, trivial⟩ ?_
             refine WX.next ?_
             refine WC.ret ?_
             refine WX.blockRet ?_
             refine WX.thenRet ?_
             refine WX.thenRet ?_
             refine WX.blockRet ?_
             refine WX.thenRet ?_
             refine WX.retE1 rfl rfl ?_
             refine ⟨false, rfl, ⟨fun h => Bool.noConfusion h, fun h => ?_⟩, hU⟩
             exfalso
             rw [h, hk6] at hk5
             injection hk5 with e
             have := hbb.2 e.symm
             rw [this] at hc7
             cases hc7
          · try (exfalso; first | (simp at hc7; done) | (simp only [decide_eq_true_eq, decide_eq_false_iff_not, Bool.not_eq_true', Bool.not_eq_false', Bool.not_eq_true, Bool.not_eq_false] at hc7; omega) | omega)
            all_goals
             try simp only [decide_eq_true_eq, decide_eq_false_iff_not, Bool.not_eq_true', Bool.not_eq_false', Bool.not_eq_true, Bool.not_eq_false, Option.isNone_none, Option.isNone_some, Option.isSome_none, Option.isSome_some, ne_eq, Decidable.not_not] at hc7
             refine WC.skip ?_
             refine WX.blockNormal ?_
             refine WX.next ?_
             refine WC.region ?_
             first | refine WL.val rfl rfl rfl rfl (r_addN rfl (ev_t rfl) ev_c (by simp only [inK]; omega)) ?_ | refine WL.val rfl rfl rfl rfl (r_add rfl (ev_t rfl) ev_c) ?_
             refine WL.val rfl rfl rfl rfl (r_move rfl (ev_t rfl)) ?_
             refine WL.nil ?_
             refine WX.keep [(1, _), (2, _), (15, _), (16, _), (17, _)] ⟨rfl, rfl, rfl, rfl, rfl, trivial⟩ ?_
             refine WX.meet [(1, _), (2, _), (15, _), (16, _), (17, _)] ⟨rfl, rfl, rfl, rfl, rfl, trivial⟩ ?_
             refine ⟨la.length - (i + 1), by omega, i + 1, by omega, rfl, hU, hra, hksa, hrb, hksb, fun j hj => ?_, by simp⟩
             rcases Nat.lt_or_ge j i with h | h
             · exact hsm j h
             · obtain rfl : j = i := by omega
               have e : k5' = k6' := hbb.1 (by simpa using hc7)
               rw [hk5, hk6, e]
       · try (exfalso; first | (simp at hc4; done) | (simp only [decide_eq_true_eq, decide_eq_false_iff_not, Bool.not_eq_true', Bool.not_eq_false', Bool.not_eq_true, Bool.not_eq_false] at hc4; omega) | omega)
         all_goals
          try simp only [decide_eq_true_eq, decide_eq_false_iff_not, Bool.not_eq_true', Bool.not_eq_false', Bool.not_eq_true, Bool.not_eq_false, Option.isNone_none, Option.isNone_some, Option.isSome_none, Option.isSome_some, ne_eq, Decidable.not_not] at hc4
          refine WC.exit ?_
          refine WX.thenExit ?_
          refine WX.thenExit ?_
          refine WX.blockHere ?_
          refine WX.next ?_
          refine WC.seq ?_
          refine WC.region ?_
          refine WL.val rfl rfl rfl rfl (r_assign rfl ev_c) ?_
          refine WL.nil ?_
          refine WX.keep [(6, _)] ⟨rfl, trivial⟩ ?_
          refine WX.next ?_
          refine WC.ret ?_
          refine WX.retE1 rfl rfl ?_
          refine ⟨true, rfl, ⟨fun _ => ?_, fun _ => rfl⟩, hU⟩
          exact list_eq_of (by omega) fun j hj => hsm j (by omega)

set_option maxHeartbeats 4000000 in
theorem tsame_ok : ∀ (N : Nat) (F : Nat → Prop) (w : World) (a1 a2 a3 b1 b2 b3 : Value) (a b : Ty), sz a ≤ N → TV w F (a1, a2, a3) a → TV w F (b1, b2, b3) b →
    Ret Try.prog 25 #[.agg #[a1, a2, a3], .agg #[b1, b2, b3]] w fun v w' => ∃ bb, v = .bool bb ∧ (bb = true ↔ a = b) ∧ Upd No w w' := by
  intro N
  induction N with
  | zero =>
    intro F w a1 a2 a3 b1 b2 b3 a b hN
    have := sz_pos a
    omega
  | succ N ih =>
    intro F w a1 a2 a3 b1 b2 b3 a b hN hta htb
    replace hta := hta.bound
    replace htb := htb.bound
    obtain ⟨ma, Aa, ka, xka, rfl, rfl, rfl, hma, hra, hla, hba, hka⟩ := hta.open
    obtain ⟨mb, Ab, kb, xkb, rfl, rfl, rfl, hmb, hrb, hlb, hbb, hkb⟩ := htb.open
    have hksa : TVs w (fun k => F k ∧ k < w.heap.size) xka a.kids := ⟨hla, hka⟩
    have hksb : TVs w (fun k => F k ∧ k < w.heap.size) xkb b.kids := ⟨hlb, hkb⟩
    have hH : ∀ k ∈ a.kids, sz k ≤ N := fun k hk => by
      cases a with
      | v x => simp [Ty.kids] at hk
      | c f ks => have := sz_kid (n := f) (show k ∈ ks from hk); omega
    refine enterRet (vs := [_, _]) (N := 29) Try.func25 rfl rfl rfl ?_
    have hU := Upd.refl No w
    refine WC.keep [(0, _), (1, _)] ⟨rfl, rfl, trivial⟩ ?_
    refine WC.seq ?_
    refine WC.region ?_
    refine WL.cons (SO.alloc rfl rfl rfl rfl (r_boxAgg rfl (ev_t rfl)) ?_)
    intro w1 hu1 hB1 hz1
    have hs1 := hu1.size
    replace hU := hU.transA hu1
    replace hra := hra.updA hu1
    replace hrb := hrb.updA hu1
    replace hksa := hksa.updA hu1
    replace hksb := hksb.updA hu1
    refine WL.cons (SO.alloc rfl rfl rfl rfl (r_boxAgg rfl (ev_t rfl)) ?_)
    intro w2 hu2 hB2 hz2
    have hs2 := hu2.size
    replace hU := hU.transA hu2
    replace hra := hra.updA hu2
    replace hrb := hrb.updA hu2
    replace hksa := hksa.updA hu2
    replace hksb := hksb.updA hu2
    replace hB1 := hB1.updA hu2
    refine WL.val rfl rfl rfl rfl (r_assign rfl ev_c) ?_
    refine WL.nil ?_
    refine WX.keep [(2, _), (3, _)] ⟨rfl, rfl, trivial⟩ ?_
    refine WX.next ?_
    refine WC.seq ?_
    refine WC.region ?_
    first | refine WL.val rfl rfl rfl rfl (r_field0 rfl (ev_t rfl) fld_28_0) ?_ | refine WL.val rfl rfl rfl rfl (r_fieldAt rfl (ev_t rfl) fld_28_0) ?_
    refine WL.val rfl rfl rfl rfl (r_load rfl (ev_t rfl) flat_9 (Blk.cell hB1 rfl)) ?_
    first | refine WL.val rfl rfl rfl rfl (r_field0 rfl (ev_t rfl) fld_28_0) ?_ | refine WL.val rfl rfl rfl rfl (r_fieldAt rfl (ev_t rfl) fld_28_0) ?_
    refine WL.val rfl rfl rfl rfl (r_load rfl (ev_t rfl) flat_9 (Blk.cell hB2 rfl)) ?_
    refine WL.val rfl rfl rfl rfl (r_eqlStrL rfl (ev_t rfl) (ev_t rfl)) ?_
    refine WL.val rfl rfl rfl rfl (r_move rfl (ev_t rfl)) ?_
    refine WL.cases 10 rfl (fun hb1_5 => ?_) (fun hb1_5 => ?_)
    · try (exfalso; first | (simp at hb1_5; done) | (simp only [decide_eq_true_eq, decide_eq_false_iff_not, Bool.not_eq_true', Bool.not_eq_false', Bool.not_eq_true, Bool.not_eq_false] at hb1_5; omega) | omega)
      all_goals
       try simp only [decide_eq_true_eq, decide_eq_false_iff_not, Bool.not_eq_true', Bool.not_eq_false', Bool.not_eq_true, Bool.not_eq_false, Option.isNone_none, Option.isNone_some, Option.isSome_none, Option.isSome_some, ne_eq, Decidable.not_not] at hb1_5
       first | refine WL.val rfl rfl rfl rfl (r_field0 rfl (ev_t rfl) fld_28_0) ?_ | refine WL.val rfl rfl rfl rfl (r_fieldAt rfl (ev_t rfl) fld_28_0) ?_
       refine WL.val rfl rfl rfl rfl (r_load rfl (ev_t rfl) flat_9 (Blk.cell hB1 rfl)) ?_
       refine WL.val rfl rfl rfl rfl (r_neqStrL rfl (ev_t rfl) ev_c) ?_
       refine WL.val rfl rfl rfl rfl (r_move rfl (ev_t rfl)) ?_
       refine WL.cases 14 rfl (fun hb1_9 => ?_) (fun hb1_9 => ?_)
       · try (exfalso; first | (simp at hb1_9; done) | (simp only [decide_eq_true_eq, decide_eq_false_iff_not, Bool.not_eq_true', Bool.not_eq_false', Bool.not_eq_true, Bool.not_eq_false] at hb1_9; omega) | omega)
         all_goals
          try simp only [decide_eq_true_eq, decide_eq_false_iff_not, Bool.not_eq_true', Bool.not_eq_false', Bool.not_eq_true, Bool.not_eq_false, Option.isNone_none, Option.isNone_some, Option.isSome_none, Option.isSome_some, ne_eq, Decidable.not_not] at hb1_9
          refine WL.skip rfl rfl rfl ?_
          refine WL.skip rfl rfl rfl ?_
          refine WL.skip rfl rfl rfl ?_
          refine WL.skip rfl rfl rfl ?_
          refine WL.skip rfl rfl rfl ?_
          refine WL.val rfl rfl rfl rfl (r_pickT rfl (ev_t rfl) ev_c) ?_
          refine WL.val rfl rfl rfl rfl (r_pickT rfl (ev_t rfl) (ev_t rfl)) ?_
          refine WL.val rfl rfl rfl rfl (r_move rfl (ev_t rfl)) ?_
          first | refine WL.val rfl rfl rfl rfl (r_field0 rfl (ev_t rfl) fld_28_2) ?_ | refine WL.val rfl rfl rfl rfl (r_fieldAt rfl (ev_t rfl) fld_28_2) ?_
          refine WL.val rfl rfl rfl rfl (r_load rfl (ev_t rfl) flat_26 (Blk.cell hB1 rfl)) ?_
          first | refine WL.val rfl rfl rfl rfl (r_field0 rfl (ev_t rfl) fld_28_2) ?_ | refine WL.val rfl rfl rfl rfl (r_fieldAt rfl (ev_t rfl) fld_28_2) ?_
          refine WL.val rfl rfl rfl rfl (r_load rfl (ev_t rfl) flat_26 (Blk.cell hB2 rfl)) ?_
          refine WL.cons (SO.call (equalF_ok hra hrb hksa hksb (fun k b' w' F' c1 c2 c3 d1 d2 d3 hk => ih F' w' c1 c2 c3 d1 d2 d3 k b' (hH k hk))) rfl body_37 ⟨(ev_t rfl), (ev_t rfl), ev_f, trivial⟩ rfl rfl rfl rfl ?_)
          rintro v w3 ⟨bb, rfl, hbb, hu3⟩
          have hs3 := hu3.size
          replace hU := hU.transA hu3
          replace hra := hra.updA hu3
          replace hrb := hrb.updA hu3
          replace hksa := hksa.updA hu3
          replace hksb := hksb.updA hu3
          replace hB1 := hB1.updA hu3
          replace hB2 := hB2.updA hu3
          refine WL.val rfl rfl rfl rfl (r_pickT rfl (ev_t rfl) (ev_t rfl)) ?_
          refine WL.val rfl rfl rfl rfl (r_assign rfl (ev_t rfl)) ?_
          refine WL.nil ?_
          refine WX.keep [(4, _)] ⟨rfl, trivial⟩ ?_
          refine WX.next ?_
          refine WC.ret ?_
          refine WX.retE1 rfl rfl ?_
          refine ⟨_, rfl, ⟨fun h => ?_, fun h => ?_⟩, hU⟩
          · first
              | exact Bool.noConfusion h
              | exact ty_ext hb1_5 (fun x y h1 h2 => by subst h1; exact absurd rfl hb1_9) (hbb.1 h)
              | exact ty_ext hb1_5 (fun x y h1 h2 => by have e1 := hma x h1; have e2 := hmb y h2; omega) (hbb.1 h)
          · subst h
            first
              | exact hbb.2 rfl
              | exact absurd rfl hb1_5
              | (exfalso; obtain ⟨x, hx⟩ := Ty.nm_nil.1 hb1_9; have e1 := hma x hx; have e2 := hmb x hx; omega)
       · try (exfalso; first | (simp at hb1_9; done) | (simp only [decide_eq_true_eq, decide_eq_false_iff_not, Bool.not_eq_true', Bool.not_eq_false', Bool.not_eq_true, Bool.not_eq_false] at hb1_9; omega) | omega)
         all_goals
          try simp only [decide_eq_true_eq, decide_eq_false_iff_not, Bool.not_eq_true', Bool.not_eq_false', Bool.not_eq_true, Bool.not_eq_false, Option.isNone_none, Option.isNone_some, Option.isSome_none, Option.isSome_some, ne_eq, Decidable.not_not] at hb1_9
          first | refine WL.val rfl rfl rfl rfl (r_field0 rfl (ev_t rfl) fld_28_1) ?_ | refine WL.val rfl rfl rfl rfl (r_fieldAt rfl (ev_t rfl) fld_28_1) ?_
          refine WL.val rfl rfl rfl rfl (r_load rfl (ev_t rfl) flat_3 (Blk.cell hB1 rfl)) ?_
          first | refine WL.val rfl rfl rfl rfl (r_field0 rfl (ev_t rfl) fld_28_1) ?_ | refine WL.val rfl rfl rfl rfl (r_fieldAt rfl (ev_t rfl) fld_28_1) ?_
          refine WL.val rfl rfl rfl rfl (r_load rfl (ev_t rfl) flat_3 (Blk.cell hB2 rfl)) ?_
          refine WL.val rfl rfl rfl rfl (r_eql rfl (ev_t rfl) (ev_t rfl)) ?_
          refine WL.val rfl rfl rfl rfl (r_pickF rfl (ev_t rfl) (ev_t rfl)) ?_
          refine WL.val rfl rfl rfl rfl (r_pickT rfl (ev_t rfl) (ev_t rfl)) ?_
          refine WL.val rfl rfl rfl rfl (r_move rfl (ev_t rfl)) ?_
          refine WL.cases 22 rfl (fun hb1_17 => ?_) (fun hb1_17 => ?_)
          · try (exfalso; first | (simp at hb1_17; done) | (simp only [decide_eq_true_eq, decide_eq_false_iff_not, Bool.not_eq_true', Bool.not_eq_false', Bool.not_eq_true, Bool.not_eq_false] at hb1_17; omega) | omega)
            all_goals
             try simp only [decide_eq_true_eq, decide_eq_false_iff_not, Bool.not_eq_true', Bool.not_eq_false', Bool.not_eq_true, Bool.not_eq_false, Option.isNone_none, Option.isNone_some, Option.isSome_none, Option.isSome_some, ne_eq, Decidable.not_not] at hb1_17
             first | refine WL.val rfl rfl rfl rfl (r_field0 rfl (ev_t rfl) fld_28_2) ?_ | refine WL.val rfl rfl rfl rfl (r_fieldAt rfl (ev_t rfl) fld_28_2) ?_
             refine WL.val rfl rfl rfl rfl (r_load rfl (ev_t rfl) flat_26 (Blk.cell hB1 rfl)) ?_
             first | refine WL.val rfl rfl rfl rfl (r_field0 rfl (ev_t rfl) fld_28_2) ?_ | refine WL.val rfl rfl rfl rfl (r_fieldAt rfl (ev_t rfl) fld_28_2) ?_
             refine WL.val rfl rfl rfl rfl (r_load rfl (ev_t rfl) flat_26 (Blk.cell hB2 rfl)) ?_
             refine WL.cons (SO.call (equalF_ok hra hrb hksa hksb (fun k b' w' F' c1 c2 c3 d1 d2 d3 hk => ih F' w' c1 c2 c3 d1 d2 d3 k b' (hH k hk))) rfl body_37 ⟨(ev_t rfl), (ev_t rfl), ev_f, trivial⟩ rfl rfl rfl rfl ?_)
             rintro v w4 ⟨bb, rfl, hbb, hu4⟩
             have hs4 := hu4.size
             replace hU := hU.transA hu4
             replace hra := hra.updA hu4
             replace hrb := hrb.updA hu4
             replace hksa := hksa.updA hu4
             replace hksb := hksb.updA hu4
             replace hB1 := hB1.updA hu4
             replace hB2 := hB2.updA hu4
             refine WL.val rfl rfl rfl rfl (r_pickT rfl (ev_t rfl) (ev_t rfl)) ?_
             refine WL.val rfl rfl rfl rfl (r_assign rfl (ev_t rfl)) ?_
             refine WL.nil ?_
             refine WX.keep [(4, _)] ⟨rfl, trivial⟩ ?_
             refine WX.next ?_
             refine WC.ret ?_
             refine WX.retE1 rfl rfl ?_
             refine ⟨_, rfl, ⟨fun h => ?_, fun h => ?_⟩, hU⟩
             · first
                 | exact Bool.noConfusion h
                 | exact ty_ext hb1_5 (fun x y h1 h2 => by subst h1; exact absurd rfl hb1_9) (hbb.1 h)
                 | exact ty_ext hb1_5 (fun x y h1 h2 => by have e1 := hma x h1; have e2 := hmb y h2; omega) (hbb.1 h)
             · subst h
               first
                 | exact hbb.2 rfl
                 | exact absurd rfl hb1_5
                 | (exfalso; obtain ⟨x, hx⟩ := Ty.nm_nil.1 hb1_9; have e1 := hma x hx; have e2 := hmb x hx; omega)
          · try (exfalso; first | (simp at hb1_17; done) | (simp only [decide_eq_true_eq, decide_eq_false_iff_not, Bool.not_eq_true', Bool.not_eq_false', Bool.not_eq_true, Bool.not_eq_false] at hb1_17; omega) | omega)
            all_goals
             try simp only [decide_eq_true_eq, decide_eq_false_iff_not, Bool.not_eq_true', Bool.not_eq_false', Bool.not_eq_true, Bool.not_eq_false, Option.isNone_none, Option.isNone_some, Option.isSome_none, Option.isSome_some, ne_eq, Decidable.not_not] at hb1_17
             refine WL.skip rfl rfl rfl ?_
             refine WL.skip rfl rfl rfl ?_
             refine WL.skip rfl rfl rfl ?_
             refine WL.skip rfl rfl rfl ?_
             refine WL.skip rfl rfl rfl ?_
             refine WL.val rfl rfl rfl rfl (r_pickF rfl (ev_t rfl) ev_c) ?_
             refine WL.val rfl rfl rfl rfl (r_assign rfl (ev_t rfl)) ?_
             refine WL.nil ?_
             refine WX.keep [(4, _)] ⟨rfl, trivial⟩ ?_
             refine WX.next ?_
             refine WC.ret ?_
             refine WX.retE1 rfl rfl ?_
             refine ⟨_, rfl, ⟨fun h => ?_, fun h => ?_⟩, hU⟩
             · first
                 | exact Bool.noConfusion h
                 | exact ty_ext hb1_5 (fun x y h1 h2 => by subst h1; exact absurd rfl hb1_9) (hbb.1 h)
                 | exact ty_ext hb1_5 (fun x y h1 h2 => by have e1 := hma x h1; have e2 := hmb y h2; omega) (hbb.1 h)
             · subst h
               first
                 | exact hbb.2 rfl
                 | exact absurd rfl hb1_5
                 | (exfalso; obtain ⟨x, hx⟩ := Ty.nm_nil.1 hb1_9; have e1 := hma x hx; have e2 := hmb x hx; omega)
    · try (exfalso; first | (simp at hb1_5; done) | (simp only [decide_eq_true_eq, decide_eq_false_iff_not, Bool.not_eq_true', Bool.not_eq_false', Bool.not_eq_true, Bool.not_eq_false] at hb1_5; omega) | omega)
      all_goals
       try simp only [decide_eq_true_eq, decide_eq_false_iff_not, Bool.not_eq_true', Bool.not_eq_false', Bool.not_eq_true, Bool.not_eq_false, Option.isNone_none, Option.isNone_some, Option.isSome_none, Option.isSome_some, ne_eq, Decidable.not_not] at hb1_5
       refine WL.skip rfl rfl rfl ?_
       refine WL.skip rfl rfl rfl ?_
       refine WL.skip rfl rfl rfl ?_
       refine WL.skip rfl rfl rfl ?_
       refine WL.skip rfl rfl rfl ?_
       refine WL.skip rfl rfl rfl ?_
       refine WL.skip rfl rfl rfl ?_
       refine WL.skip rfl rfl rfl ?_
       refine WL.skip rfl rfl rfl ?_
       refine WL.skip rfl rfl rfl ?_
       refine WL.val rfl rfl rfl rfl (r_pickF rfl (ev_t rfl) ev_c) ?_
       refine WL.val rfl rfl rfl rfl (r_move rfl (ev_t rfl)) ?_
       refine WL.skip rfl rfl rfl ?_
       refine WL.skip rfl rfl rfl ?_
       refine WL.skip rfl rfl rfl ?_
       refine WL.skip rfl rfl rfl ?_
       refine WL.skip rfl rfl rfl ?_
       refine WL.val rfl rfl rfl rfl (r_pickF rfl (ev_t rfl) ev_c) ?_
       refine WL.val rfl rfl rfl rfl (r_assign rfl (ev_t rfl)) ?_
       refine WL.nil ?_
       refine WX.keep [(4, _)] ⟨rfl, trivial⟩ ?_
       refine WX.next ?_
       refine WC.ret ?_
       refine WX.retE1 rfl rfl ?_
       refine ⟨_, rfl, ⟨fun h => ?_, fun h => ?_⟩, hU⟩
       · first
           | exact Bool.noConfusion h
           | exact ty_ext hb1_5 (fun x y h1 h2 => by subst h1; exact absurd rfl hb1_9) (hbb.1 h)
           | exact ty_ext hb1_5 (fun x y h1 h2 => by have e1 := hma x h1; have e2 := hmb y h2; omega) (hbb.1 h)
       · subst h
         first
           | exact hbb.2 rfl
           | exact absurd rfl hb1_5
           | (exfalso; obtain ⟨x, hx⟩ := Ty.nm_nil.1 hb1_9; have e1 := hma x hx; have e2 := hmb x hx; omega)
end Go.Proofs.Ytncakfcafkfmfaa

/-
  law 06: the document's example; TypesOccurs.
-/
namespace Go.Proofs.Ytncakfcafkfmfaa
open Go
set_option linter.unusedSimpArgs false
set_option linter.unusedVariables false

theorem tv_leaf {w : World} {F : Nat → Prop} (n : Nm) (m : Int) : TV w F (.string ⟨n.1.toArray⟩, .int .i64 m, .slice none 0 0) (.c n []) :=
  .mk (t := .c n []) (xs := []) (fun x e => by cases e) (Rd.nil w F 3) rfl (Nat.zero_le _) (fun i c k h => by simp at h)
theorem tv_row1 {w : World} {F : Nat → Prop} {g : Nat} {m : Int} {a b c : Value} {x : Ty} (n : Nm) (h : Blk w g #[a, b, c] typ) (hx : TV w F (a, b, c) x) (hg : F g) : TV w F (.string ⟨n.1.toArray⟩, .int .i64 m, .slice (some ⟨g, 0, none⟩) 1 1) (.c n [x]) :=
  TV.kids (t := .c n [x]) (xs := [(a, b, c)]) (fun y e => by cases e) ((Rd.of_blk (F := F) (n := 1) (sz := 3) h hg rfl (by omega))) (by simp [Ty.kids]) ((TVs.nil w F).snoc hx)
theorem tv_row2 {w : World} {F : Nat → Prop} {g : Nat} {m : Int} {a b c a' b' c' : Value} {x y : Ty} (n : Nm) (h : Blk w g #[a, b, c, a', b', c'] typ) (hx : TV w F (a, b, c) x) (hy : TV w F (a', b', c') y) (hg : F g) : TV w F (.string ⟨n.1.toArray⟩, .int .i64 m, .slice (some ⟨g, 0, none⟩) 2 2) (.c n [x, y]) :=
  TV.kids (t := .c n [x, y]) (xs := [(a, b, c), (a', b', c')]) (fun y e => by cases e) ((Rd.of_blk (F := F) (n := 2) (sz := 3) h hg rfl (by omega))) (by simp [Ty.kids]) (((TVs.nil w F).snoc hx).snoc hy)
theorem IsS.nilF {w : World} {F F' : Nat → Prop} {p m1 m2 : Nat} {D : Dn} {nn : Int} (h : IsS w F p m1 m2 [] D nn []) : IsS w F' p m1 m2 [] D nn [] := { h with tv := TVs.nil _ _ }
/-- a kid's name in a row that was read -/
theorem kid_nm {w : World} {F : Nat → Prop} {A : Option Addr} {n c i : Nat} {xs : List C3} {ts : List Ty} {t : Ty} (hr : Rd w F (.slice A n c) n 3 (xs.flatMap c3)) (hk : TVs w F xs ts) (hn : ts.length = n) (ht : ts[i]? = some t) :
    ∃ b off, A = some ⟨b, off, none⟩ ∧ (xs.flatMap c3)[i * 3]? = some (.string ⟨t.nm.toArray⟩) := by
  have hi : i < ts.length := (List.getElem?_eq_some_iff.1 ht).1
  obtain ⟨b, off, rfl, _⟩ := hr.open (by omega)
  have hl : i < xs.length := by have := hk.1; omega
  have hx : xs[i]? = some xs[i] := List.getElem?_eq_getElem hl
  have htv := hk.2 i _ t hx ht
  generalize xs[i] = cc at *
  obtain ⟨a1, a2, a3⟩ := cc
  obtain ⟨m, A', k', xk, rfl, rfl, rfl, _⟩ := htv.open
  exact ⟨b, off, rfl, flatMap_get c3_len hx 0 _ rfl⟩

set_option maxHeartbeats 4000000 in
theorem awake_ok {w : World} : Ret Try.prog 10 #[] w fun v w' => v = .bool true ∧ Upd No w w' := by
  obtain ⟨σ', D', N, hun, hwf, ht1, ht2⟩ := awake_un
  refine enterRet (vs := []) (N := 37) Try.func10 rfl rfl rfl ?_
  have hU := Upd.refl No w
  refine WC.keep [] trivial ?_
  refine WC.seq ?_
  refine WC.region ?_
  refine WL.val rfl rfl rfl rfl (r_assign rfl ev_c) ?_
  refine WL.nil ?_
  refine WX.keep [] trivial ?_
  refine WX.next ?_
  refine WC.seq ?_
  refine WC.region ?_
  refine WL.cons (SO.call (tnew_ok (F := fun _ => False)) rfl body_11 ⟨ev_c, trivial⟩ rfl rfl rfl rfl ?_)
  rintro v w1 ⟨p, m1, m2, rfl, hI, hMut, hu1⟩
  obtain ⟨hlp, hl1, hl2⟩ := hI.lt
  have hs1 := hu1.size
  replace hU := hU.trans hu1 (by first | exact (fun _ _ h => h) | exact (fun _ _ h => h.elim) | (intro k hl hk; (try simp only [At, New, Grow, From, No] at hk ⊢); omega) | (intro k hl hk; have := hMut k hk; simp only [New] at this; omega))
  refine WL.val rfl rfl rfl rfl (r_assign rfl (ev_t rfl)) ?_
  refine WL.nil ?_
  refine WX.keep [(1, _)] ⟨rfl, trivial⟩ ?_
  refine WX.next ?_
  refine WC.seq ?_
  refine WC.region ?_
  refine WL.val rfl rfl rfl rfl (r_build (cs := #[_, _, _]) (vs := [(1, _)]) rfl ⟨⟨rfl, ev_c⟩, trivial⟩ plc_28 zero_28 rfl) ?_
  refine WL.cons (SO.call (of_ok) rfl body_13 ⟨ev_c, ev_c, trivial⟩ rfl rfl rfl rfl ?_)
  rintro v w2 ⟨rfl, hu2⟩
  have hs2 := hu2.size
  replace hU := hU.trans hu2 (by first | exact (fun _ _ h => h) | exact (fun _ _ h => h.elim) | (intro k hl hk; (try simp only [At, New, Grow, From, No] at hk ⊢); omega) | (intro k hl hk; have := hMut k hk; simp only [New] at this; omega))
  replace hI := hI.upd hu2 (fun k hk hl hS => by first | exact (show False from hS).elim | (simp only [At] at hS; subst hS; rcases hk with hk | hk; have := hMut _ hk; simp only [New] at this; omega; exact hk.elim))
  refine WL.cons (SO.alloc rfl rfl rfl rfl (r_buildSlice (cs := #[_, _, _, _, _, _]) (vs := [(0, _), (1, _)]) rfl ⟨⟨rfl, (ev_t rfl)⟩, ⟨rfl, (ev_t rfl)⟩, trivial⟩ row_26 rfl rfl) ?_)
  intro w3 hu3 hB3 hz3
  have hs3 := hu3.size
  replace hU := hU.trans hu3 (by first | exact (fun _ _ h => h) | exact (fun _ _ h => h.elim) | (intro k hl hk; (try simp only [At, New, Grow, From, No] at hk ⊢); omega) | (intro k hl hk; have := hMut k hk; simp only [New] at this; omega))
  replace hI := hI.upd hu3 (fun k hk hl hS => by first | exact (show False from hS).elim | (simp only [At] at hS; subst hS; rcases hk with hk | hk; have := hMut _ hk; simp only [New] at this; omega; exact hk.elim))
  have hb1 := hB3
  refine WL.cons (SO.call (of_ok) rfl body_13 ⟨ev_c, (ev_t rfl), trivial⟩ rfl rfl rfl rfl ?_)
  rintro v w4 ⟨rfl, hu4⟩
  have hs4 := hu4.size
  replace hU := hU.trans hu4 (by first | exact (fun _ _ h => h) | exact (fun _ _ h => h.elim) | (intro k hl hk; (try simp only [At, New, Grow, From, No] at hk ⊢); omega) | (intro k hl hk; have := hMut k hk; simp only [New] at this; omega))
  replace hI := hI.upd hu4 (fun k hk hl hS => by first | exact (show False from hS).elim | (simp only [At] at hS; subst hS; rcases hk with hk | hk; have := hMut _ hk; simp only [New] at this; omega; exact hk.elim))
  replace hb1 := hb1.upd hu4 (by first | exact (fun h => h) | (simp only [At]; omega) | (intro hS; have := hMut _ hS; simp only [New] at this; omega))
  refine WL.cons (SO.alloc rfl rfl rfl rfl (r_alloc rfl zero_28) ?_)
  intro w5 hu5 hB5 hz5
  have hs5 := hu5.size
  replace hU := hU.trans hu5 (by first | exact (fun _ _ h => h) | exact (fun _ _ h => h.elim) | (intro k hl hk; (try simp only [At, New, Grow, From, No] at hk ⊢); omega) | (intro k hl hk; have := hMut k hk; simp only [New] at this; omega))
  replace hI := hI.upd hu5 (fun k hk hl hS => by first | exact (show False from hS).elim | (simp only [At] at hS; subst hS; rcases hk with hk | hk; have := hMut _ hk; simp only [New] at this; omega; exact hk.elim))
  replace hb1 := hb1.upd hu5 (by first | exact (fun h => h) | (simp only [At]; omega) | (intro hS; have := hMut _ hS; simp only [New] at this; omega))
  refine WL.cons (SO.storeAll (us := [_, _, _]) rfl (ev_t rfl) (ev_t rfl) size_28 hB5 rfl rfl rfl rfl rfl ?_)
  intro w6 hu6 hB5 hz6
  have hs6 := hu6.size
  replace hU := hU.trans hu6 (by first | exact (fun _ _ h => h) | exact (fun _ _ h => h.elim) | (intro k hl hk; (try simp only [At, New, Grow, From, No] at hk ⊢); omega) | (intro k hl hk; have := hMut k hk; simp only [New] at this; omega))
  replace hI := hI.upd hu6 (fun k hk hl hS => by first | exact (show False from hS).elim | (simp only [At] at hS; subst hS; rcases hk with hk | hk; have := hMut _ hk; simp only [New] at this; omega; exact hk.elim))
  replace hb1 := hb1.upd hu6 (by first | exact (fun h => h) | (simp only [At]; omega) | (intro hS; have := hMut _ hS; simp only [New] at this; omega))
  refine WL.nil ?_
  refine WX.keep [(1, _), (2, _)] ⟨rfl, rfl, trivial⟩ ?_
  refine WX.next ?_
  refine WC.seq ?_
  refine WC.region ?_
  have hb2 := hB5
  refine WL.cons (SO.call (of_ok) rfl body_13 ⟨ev_c, ev_c, trivial⟩ rfl rfl rfl rfl ?_)
  rintro v w7 ⟨rfl, hu7⟩
  have hs7 := hu7.size
  replace hU := hU.trans hu7 (by first | exact (fun _ _ h => h) | exact (fun _ _ h => h.elim) | (intro k hl hk; (try simp only [At, New, Grow, From, No] at hk ⊢); omega) | (intro k hl hk; have := hMut k hk; simp only [New] at this; omega))
  replace hI := hI.upd hu7 (fun k hk hl hS => by first | exact (show False from hS).elim | (simp only [At] at hS; subst hS; rcases hk with hk | hk; have := hMut _ hk; simp only [New] at this; omega; exact hk.elim))
  replace hb1 := hb1.upd hu7 (by first | exact (fun h => h) | (simp only [At]; omega) | (intro hS; have := hMut _ hS; simp only [New] at this; omega))
  replace hB5 := hB5.upd hu7 (by first | exact (fun h => h) | (simp only [At]; omega) | (intro hS; have := hMut _ hS; simp only [New] at this; omega))
  replace hb2 := hb2.upd hu7 (by first | exact (fun h => h) | (simp only [At]; omega) | (intro hS; have := hMut _ hS; simp only [New] at this; omega))
  refine WL.val rfl rfl rfl rfl (r_build (cs := #[_, _, _]) (vs := [(1, _)]) rfl ⟨⟨rfl, ev_c⟩, trivial⟩ plc_28 zero_28 rfl) ?_
  refine WL.cons (SO.alloc rfl rfl rfl rfl (r_buildSlice (cs := #[_, _, _, _, _, _]) (vs := [(0, _), (1, _)]) rfl ⟨⟨rfl, (ev_t rfl)⟩, ⟨rfl, (ev_t rfl)⟩, trivial⟩ row_26 rfl rfl) ?_)
  intro w8 hu8 hB8 hz8
  have hs8 := hu8.size
  replace hU := hU.trans hu8 (by first | exact (fun _ _ h => h) | exact (fun _ _ h => h.elim) | (intro k hl hk; (try simp only [At, New, Grow, From, No] at hk ⊢); omega) | (intro k hl hk; have := hMut k hk; simp only [New] at this; omega))
  replace hI := hI.upd hu8 (fun k hk hl hS => by first | exact (show False from hS).elim | (simp only [At] at hS; subst hS; rcases hk with hk | hk; have := hMut _ hk; simp only [New] at this; omega; exact hk.elim))
  replace hb1 := hb1.upd hu8 (by first | exact (fun h => h) | (simp only [At]; omega) | (intro hS; have := hMut _ hS; simp only [New] at this; omega))
  replace hB5 := hB5.upd hu8 (by first | exact (fun h => h) | (simp only [At]; omega) | (intro hS; have := hMut _ hS; simp only [New] at this; omega))
  replace hb2 := hb2.upd hu8 (by first | exact (fun h => h) | (simp only [At]; omega) | (intro hS; have := hMut _ hS; simp only [New] at this; omega))
  have hb3 := hB8
  refine WL.cons (SO.call (of_ok) rfl body_13 ⟨ev_c, (ev_t rfl), trivial⟩ rfl rfl rfl rfl ?_)
  rintro v w9 ⟨rfl, hu9⟩
  have hs9 := hu9.size
  replace hU := hU.trans hu9 (by first | exact (fun _ _ h => h) | exact (fun _ _ h => h.elim) | (intro k hl hk; (try simp only [At, New, Grow, From, No] at hk ⊢); omega) | (intro k hl hk; have := hMut k hk; simp only [New] at this; omega))
  replace hI := hI.upd hu9 (fun k hk hl hS => by first | exact (show False from hS).elim | (simp only [At] at hS; subst hS; rcases hk with hk | hk; have := hMut _ hk; simp only [New] at this; omega; exact hk.elim))
  replace hb1 := hb1.upd hu9 (by first | exact (fun h => h) | (simp only [At]; omega) | (intro hS; have := hMut _ hS; simp only [New] at this; omega))
  replace hB5 := hB5.upd hu9 (by first | exact (fun h => h) | (simp only [At]; omega) | (intro hS; have := hMut _ hS; simp only [New] at this; omega))
  replace hb2 := hb2.upd hu9 (by first | exact (fun h => h) | (simp only [At]; omega) | (intro hS; have := hMut _ hS; simp only [New] at this; omega))
  replace hb3 := hb3.upd hu9 (by first | exact (fun h => h) | (simp only [At]; omega) | (intro hS; have := hMut _ hS; simp only [New] at this; omega))
  refine WL.cons (SO.alloc rfl rfl rfl rfl (r_alloc rfl zero_28) ?_)
  intro w10 hu10 hB10 hz10
  have hs10 := hu10.size
  replace hU := hU.trans hu10 (by first | exact (fun _ _ h => h) | exact (fun _ _ h => h.elim) | (intro k hl hk; (try simp only [At, New, Grow, From, No] at hk ⊢); omega) | (intro k hl hk; have := hMut k hk; simp only [New] at this; omega))
  replace hI := hI.upd hu10 (fun k hk hl hS => by first | exact (show False from hS).elim | (simp only [At] at hS; subst hS; rcases hk with hk | hk; have := hMut _ hk; simp only [New] at this; omega; exact hk.elim))
  replace hb1 := hb1.upd hu10 (by first | exact (fun h => h) | (simp only [At]; omega) | (intro hS; have := hMut _ hS; simp only [New] at this; omega))
  replace hB5 := hB5.upd hu10 (by first | exact (fun h => h) | (simp only [At]; omega) | (intro hS; have := hMut _ hS; simp only [New] at this; omega))
  replace hb2 := hb2.upd hu10 (by first | exact (fun h => h) | (simp only [At]; omega) | (intro hS; have := hMut _ hS; simp only [New] at this; omega))
  replace hb3 := hb3.upd hu10 (by first | exact (fun h => h) | (simp only [At]; omega) | (intro hS; have := hMut _ hS; simp only [New] at this; omega))
  refine WL.cons (SO.storeAll (us := [_, _, _]) rfl (ev_t rfl) (ev_t rfl) size_28 hB10 rfl rfl rfl rfl rfl ?_)
  intro w11 hu11 hB10 hz11
  have hs11 := hu11.size
  replace hU := hU.trans hu11 (by first | exact (fun _ _ h => h) | exact (fun _ _ h => h.elim) | (intro k hl hk; (try simp only [At, New, Grow, From, No] at hk ⊢); omega) | (intro k hl hk; have := hMut k hk; simp only [New] at this; omega))
  replace hI := hI.upd hu11 (fun k hk hl hS => by first | exact (show False from hS).elim | (simp only [At] at hS; subst hS; rcases hk with hk | hk; have := hMut _ hk; simp only [New] at this; omega; exact hk.elim))
  replace hb1 := hb1.upd hu11 (by first | exact (fun h => h) | (simp only [At]; omega) | (intro hS; have := hMut _ hS; simp only [New] at this; omega))
  replace hB5 := hB5.upd hu11 (by first | exact (fun h => h) | (simp only [At]; omega) | (intro hS; have := hMut _ hS; simp only [New] at this; omega))
  replace hb2 := hb2.upd hu11 (by first | exact (fun h => h) | (simp only [At]; omega) | (intro hS; have := hMut _ hS; simp only [New] at this; omega))
  replace hb3 := hb3.upd hu11 (by first | exact (fun h => h) | (simp only [At]; omega) | (intro hS; have := hMut _ hS; simp only [New] at this; omega))
  refine WL.nil ?_
  refine WX.keep [(1, _), (2, _), (3, _)] ⟨rfl, rfl, rfl, trivial⟩ ?_
  refine WX.next ?_
  refine WC.seq ?_
  refine WC.region ?_
  have hb4 := hB10
  refine WL.val rfl rfl rfl rfl (r_move rfl (ev_t rfl)) ?_
  refine WL.val rfl rfl rfl rfl (r_loadAgg (vs := [_, _, _]) rfl (ev_t rfl) agg_28 size_28 (Blk.cellsL hb2)) ?_
  refine WL.val rfl rfl rfl rfl (r_loadAgg (vs := [_, _, _]) rfl (ev_t rfl) agg_28 size_28 (Blk.cellsL hb4)) ?_
  obtain ⟨S9, hS9⟩ : ∃ S9, S9 = w11.heap.size := ⟨_, rfl⟩
  have hI9 : IsS w11 (fun k => w1.heap.size ≤ k ∧ k < S9) p m1 m2 [] [] 2 [] := hI.nilF
  have hta : TV w11 (fun k => w1.heap.size ≤ k ∧ k < S9) (.string ⟨nArrow.1.toArray⟩, .int .i64 0, .slice (some ⟨w2.heap.size, 0, none⟩) 2 2) (.c nArrow [.v 1, .c nInt []]) := tv_row2 nArrow hb1 (TV.nil 1) (tv_leaf nInt 0) ⟨by omega, by omega⟩
  have htb : TV w11 (fun k => w1.heap.size ≤ k ∧ k < S9) (.string ⟨nArrow.1.toArray⟩, .int .i64 0, .slice (some ⟨w7.heap.size, 0, none⟩) 2 2) (.c nArrow [.c nBool [], .v 2]) := tv_row2 nArrow hb3 (tv_leaf nBool 0) (TV.nil 2) ⟨by omega, by omega⟩
  refine WL.cons (SO.call (unify_ok (fun k hk hM => by have := hMut k hM; simp only [New] at this; omega) N _ [] [] [] _ _ _ _ _ _ _ _ true σ' D' hun (fun k hk => by omega) hI9 hta htb) rfl body_12 ⟨(ev_t rfl), (ev_t rfl), (ev_t rfl), trivial⟩ rfl rfl rfl rfl ?_)
  rintro v w12 ⟨rfl, ⟨xs', hI2⟩, hu12⟩
  clear hI9
  have hs12 := hu12.size
  replace hU := hU.trans hu12 (by first | exact (fun _ _ h => h) | exact (fun _ _ h => h.elim) | (intro k hl hk; (try simp only [At, New, Grow, From, No] at hk ⊢); omega) | (intro k hl hk; have := hMut k hk; simp only [New] at this; omega))
  replace hb1 := hb1.upd hu12 (by first | exact (fun h => h) | (simp only [At]; omega) | (intro hS; have := hMut _ hS; simp only [New] at this; omega))
  replace hB5 := hB5.upd hu12 (by first | exact (fun h => h) | (simp only [At]; omega) | (intro hS; have := hMut _ hS; simp only [New] at this; omega))
  replace hb2 := hb2.upd hu12 (by first | exact (fun h => h) | (simp only [At]; omega) | (intro hS; have := hMut _ hS; simp only [New] at this; omega))
  replace hb3 := hb3.upd hu12 (by first | exact (fun h => h) | (simp only [At]; omega) | (intro hS; have := hMut _ hS; simp only [New] at this; omega))
  replace hB10 := hB10.upd hu12 (by first | exact (fun h => h) | (simp only [At]; omega) | (intro hS; have := hMut _ hS; simp only [New] at this; omega))
  replace hb4 := hb4.upd hu12 (by first | exact (fun h => h) | (simp only [At]; omega) | (intro hS; have := hMut _ hS; simp only [New] at this; omega))
  replace hta := hta.upd hu12 (fun k hk hl hS => by first | exact (show False from hS).elim | (simp only [At] at hS; omega) | (have := hMut k hS; simp only [New] at this; omega))
  replace htb := htb.upd hu12 (fun k hk hl hS => by first | exact (show False from hS).elim | (simp only [At] at hS; omega) | (have := hMut k hS; simp only [New] at this; omega))
  refine WL.val rfl rfl rfl rfl (r_move rfl (ev_t rfl)) ?_
  refine WL.cases 17 rfl (fun hb4_4 => ?_) (fun hb4_4 => ?_)
  · try (exfalso; first | (simp at hb4_4; done) | (simp only [decide_eq_true_eq, decide_eq_false_iff_not, Bool.not_eq_true', Bool.not_eq_false', Bool.not_eq_true, Bool.not_eq_false] at hb4_4; omega) | omega)
    all_goals
     try simp only [decide_eq_true_eq, decide_eq_false_iff_not, Bool.not_eq_true', Bool.not_eq_false', Bool.not_eq_true, Bool.not_eq_false, Option.isNone_none, Option.isNone_some, Option.isSome_none, Option.isSome_some, ne_eq, Decidable.not_not] at hb4_4
     refine WL.val rfl rfl rfl rfl (r_move rfl (ev_t rfl)) ?_
     refine WL.val rfl rfl rfl rfl (r_loadAgg (vs := [_, _, _]) rfl (ev_t rfl) agg_28 size_28 (Blk.cellsL hb2)) ?_
     refine WL.cons (SO.call (apply_ok hwf _ _ _ _ _ _ _ (Nat.le_refl _) hI2 hta) rfl body_18 ⟨(ev_t rfl), (ev_t rfl), trivial⟩ rfl rfl rfl rfl ?_)
     rintro v w13 ⟨c1, c2, c3', rfl, hr1, hu13⟩
     rw [show ext (th σ') (.c nArrow [.v 1, .c nInt []]) = .c nArrow [.c nBool [], .c nInt []] by simp [ext_c, ext_v, ht1]] at hr1
     obtain ⟨m5, A5, k5, xk5, rfl, rfl, rfl, _, hr5, hl5, _, hk5⟩ := hr1.open
     have hlen5 : (Ty.c nArrow [.c nBool [], .c nInt []]).kids.length = 2 := rfl
     obtain ⟨bq, oq, rfl, hq0⟩ := kid_nm (i := 0) hr5 ⟨hl5, hk5⟩ rfl rfl
     have hs13 := hu13.size
     replace hU := hU.trans hu13 (by first | exact (fun _ _ h => h) | exact (fun _ _ h => h.elim) | (intro k hl hk; (try simp only [At, New, Grow, From, No] at hk ⊢); omega) | (intro k hl hk; have := hMut k hk; simp only [New] at this; omega))
     replace hb1 := hb1.upd hu13 (by first | exact (fun h => h) | (simp only [At]; omega) | (intro hS; have := hMut _ hS; simp only [New] at this; omega))
     replace hB5 := hB5.upd hu13 (by first | exact (fun h => h) | (simp only [At]; omega) | (intro hS; have := hMut _ hS; simp only [New] at this; omega))
     replace hb2 := hb2.upd hu13 (by first | exact (fun h => h) | (simp only [At]; omega) | (intro hS; have := hMut _ hS; simp only [New] at this; omega))
     replace hb3 := hb3.upd hu13 (by first | exact (fun h => h) | (simp only [At]; omega) | (intro hS; have := hMut _ hS; simp only [New] at this; omega))
     replace hB10 := hB10.upd hu13 (by first | exact (fun h => h) | (simp only [At]; omega) | (intro hS; have := hMut _ hS; simp only [New] at this; omega))
     replace hb4 := hb4.upd hu13 (by first | exact (fun h => h) | (simp only [At]; omega) | (intro hS; have := hMut _ hS; simp only [New] at this; omega))
     replace hta := hta.upd hu13 (fun k hk hl hS => by first | exact (show False from hS).elim | (simp only [At] at hS; omega) | (have := hMut k hS; simp only [New] at this; omega))
     replace htb := htb.upd hu13 (fun k hk hl hS => by first | exact (show False from hS).elim | (simp only [At] at hS; omega) | (have := hMut k hS; simp only [New] at this; omega))
     replace hI2 := hI2.upd hu13 (fun k hk hl hS => by first | exact (show False from hS).elim)
     refine WL.val rfl rfl rfl rfl (r_fieldV (n := 2) rfl (ev_t rfl) (by kernel_rfl) rfl) ?_
     refine WL.val rfl rfl rfl rfl (r_indexAddr rfl (ev_t rfl) ev_c elem_26 size_28 (by omega) (by omega)) ?_
     first | refine WL.val rfl rfl rfl rfl (r_field0 rfl (ev_t rfl) fld_28_0) ?_ | refine WL.val rfl rfl rfl rfl (r_fieldAt rfl (ev_t rfl) fld_28_0) ?_
     refine WL.val rfl rfl rfl rfl (r_load rfl (ev_t rfl) flat_9 (Rd.cell hr5 (j := 0) (by omega) hq0)) ?_
     refine WL.val rfl rfl rfl rfl (r_eqlStrL rfl (ev_t rfl) ev_c) ?_
     refine WL.val rfl rfl rfl rfl (r_pickT rfl (ev_t rfl) (ev_t rfl)) ?_
     refine WL.val rfl rfl rfl rfl (r_move rfl (ev_t rfl)) ?_
     refine WL.cases 27 rfl (fun hb4_14 => ?_) (fun hb4_14 => ?_)
     · try (exfalso; first | (simp at hb4_14; done) | (simp only [decide_eq_true_eq, decide_eq_false_iff_not, Bool.not_eq_true', Bool.not_eq_false', Bool.not_eq_true, Bool.not_eq_false] at hb4_14; omega) | omega)
       all_goals
        try simp only [decide_eq_true_eq, decide_eq_false_iff_not, Bool.not_eq_true', Bool.not_eq_false', Bool.not_eq_true, Bool.not_eq_false, Option.isNone_none, Option.isNone_some, Option.isSome_none, Option.isSome_some, ne_eq, Decidable.not_not] at hb4_14
        refine WL.val rfl rfl rfl rfl (r_move rfl (ev_t rfl)) ?_
        refine WL.val rfl rfl rfl rfl (r_loadAgg (vs := [_, _, _]) rfl (ev_t rfl) agg_28 size_28 (Blk.cellsL hb4)) ?_
        refine WL.cons (SO.call (apply_ok hwf _ _ _ _ _ _ _ (Nat.le_refl _) hI2 htb) rfl body_18 ⟨(ev_t rfl), (ev_t rfl), trivial⟩ rfl rfl rfl rfl ?_)
        rintro v w14 ⟨c4, c5, c6, rfl, hr2, hu14⟩
        rw [show ext (th σ') (.c nArrow [.c nBool [], .v 2]) = .c nArrow [.c nBool [], .c nInt []] by simp [ext_c, ext_v, ht2]] at hr2
        obtain ⟨m6, A6, k6, xk6, rfl, rfl, rfl, _, hr6, hl6, _, hk6⟩ := hr2.open
        obtain ⟨br, or', rfl, hq1⟩ := kid_nm (i := 1) hr6 ⟨hl6, hk6⟩ rfl rfl
        have hs14 := hu14.size
        replace hU := hU.trans hu14 (by first | exact (fun _ _ h => h) | exact (fun _ _ h => h.elim) | (intro k hl hk; (try simp only [At, New, Grow, From, No] at hk ⊢); omega) | (intro k hl hk; have := hMut k hk; simp only [New] at this; omega))
        replace hb1 := hb1.upd hu14 (by first | exact (fun h => h) | (simp only [At]; omega) | (intro hS; have := hMut _ hS; simp only [New] at this; omega))
        replace hB5 := hB5.upd hu14 (by first | exact (fun h => h) | (simp only [At]; omega) | (intro hS; have := hMut _ hS; simp only [New] at this; omega))
        replace hb2 := hb2.upd hu14 (by first | exact (fun h => h) | (simp only [At]; omega) | (intro hS; have := hMut _ hS; simp only [New] at this; omega))
        replace hb3 := hb3.upd hu14 (by first | exact (fun h => h) | (simp only [At]; omega) | (intro hS; have := hMut _ hS; simp only [New] at this; omega))
        replace hB10 := hB10.upd hu14 (by first | exact (fun h => h) | (simp only [At]; omega) | (intro hS; have := hMut _ hS; simp only [New] at this; omega))
        replace hb4 := hb4.upd hu14 (by first | exact (fun h => h) | (simp only [At]; omega) | (intro hS; have := hMut _ hS; simp only [New] at this; omega))
        replace hta := hta.upd hu14 (fun k hk hl hS => by first | exact (show False from hS).elim | (simp only [At] at hS; omega) | (have := hMut k hS; simp only [New] at this; omega))
        replace htb := htb.upd hu14 (fun k hk hl hS => by first | exact (show False from hS).elim | (simp only [At] at hS; omega) | (have := hMut k hS; simp only [New] at this; omega))
        replace hI2 := hI2.upd hu14 (fun k hk hl hS => by first | exact (show False from hS).elim)
        refine WL.val rfl rfl rfl rfl (r_fieldV (n := 2) rfl (ev_t rfl) (by kernel_rfl) rfl) ?_
        refine WL.val rfl rfl rfl rfl (r_indexAddr rfl (ev_t rfl) ev_c elem_26 size_28 (by omega) (by omega)) ?_
        first | refine WL.val rfl rfl rfl rfl (r_field0 rfl (ev_t rfl) fld_28_0) ?_ | refine WL.val rfl rfl rfl rfl (r_fieldAt rfl (ev_t rfl) fld_28_0) ?_
        refine WL.val rfl rfl rfl rfl (r_load rfl (ev_t rfl) flat_9 (Rd.cell hr6 (j := 1 * 3) (by omega) hq1)) ?_
        refine WL.val rfl rfl rfl rfl (r_eqlStrL rfl (ev_t rfl) ev_c) ?_
        refine WL.val rfl rfl rfl rfl (r_pickT rfl (ev_t rfl) (ev_t rfl)) ?_
        refine WL.val rfl rfl rfl rfl (r_assign rfl (ev_t rfl)) ?_
        refine WL.nil ?_
        refine WX.keep [(0, _)] ⟨rfl, trivial⟩ ?_
        refine WX.next ?_
        refine WC.ret ?_
        refine WX.retE1 rfl rfl ?_
        exact ⟨congrArg Value.bool (by decide), hU⟩
     · try simp only [decide_eq_true_eq, decide_eq_false_iff_not, Bool.not_eq_true', Bool.not_eq_false', Bool.not_eq_true, Bool.not_eq_false, Option.isNone_none, Option.isNone_some, Option.isSome_none, Option.isSome_some, ne_eq, Decidable.not_not] at hb4_14
       exfalso
       exact absurd hb4_14 (by decide)
  · try (exfalso; first | (simp at hb4_4; done) | (simp only [decide_eq_true_eq, decide_eq_false_iff_not, Bool.not_eq_true', Bool.not_eq_false', Bool.not_eq_true, Bool.not_eq_false] at hb4_4; omega) | omega)
    all_goals
     try simp only [decide_eq_true_eq, decide_eq_false_iff_not, Bool.not_eq_true', Bool.not_eq_false', Bool.not_eq_true, Bool.not_eq_false, Option.isNone_none, Option.isNone_some, Option.isSome_none, Option.isSome_some, ne_eq, Decidable.not_not] at hb4_4
     refine WL.skip rfl rfl rfl ?_
     refine WL.skip rfl rfl rfl ?_
     refine WL.skip rfl rfl rfl ?_
     refine WL.skip rfl rfl rfl ?_
     refine WL.skip rfl rfl rfl ?_
     refine WL.skip rfl rfl rfl ?_
     refine WL.skip rfl rfl rfl ?_
     refine WL.skip rfl rfl rfl ?_
     refine WL.val rfl rfl rfl rfl (r_pickF rfl (ev_t rfl) ev_c) ?_
     refine WL.val rfl rfl rfl rfl (r_move rfl (ev_t rfl)) ?_
     refine WL.skip rfl rfl rfl ?_
     refine WL.skip rfl rfl rfl ?_
     refine WL.skip rfl rfl rfl ?_
     refine WL.skip rfl rfl rfl ?_
     refine WL.skip rfl rfl rfl ?_
     refine WL.skip rfl rfl rfl ?_
     refine WL.skip rfl rfl rfl ?_
     refine WL.skip rfl rfl rfl ?_
     refine WL.val rfl rfl rfl rfl (r_pickF rfl (ev_t rfl) ev_c) ?_
     refine WL.val rfl rfl rfl rfl (r_assign rfl (ev_t rfl)) ?_
     refine WL.nil ?_
     refine WX.keep [(0, _)] ⟨rfl, trivial⟩ ?_
     refine WX.next ?_
     refine WC.ret ?_
     refine WX.retE1 rfl rfl ?_
     exact ⟨congrArg Value.bool (by decide), hU⟩
end Go.Proofs.Ytncakfcafkfmfaa

/-
  types closed: variables numbered in their order; two that are made of one another are closed alike. No program in sight.
-/
namespace Go.Proofs.Ytncakfcafkfmfaa
open Go
set_option linter.unusedSimpArgs false
set_option linter.unusedVariables false

/-- numbers behind a list, each once -/
def nubA (l xs : List Int) : List Int := xs.foldl (fun l x => if x ∈ l then l else l ++ [x]) l
theorem nubA_nil (l : List Int) : nubA l [] = l := rfl
theorem nubA_cons (l : List Int) (x : Int) (xs : List Int) : nubA l (x :: xs) = nubA (if x ∈ l then l else l ++ [x]) xs := rfl
theorem nubA_append (l xs ys : List Int) : nubA l (xs ++ ys) = nubA (nubA l xs) ys := by simp [nubA, List.foldl_append]
theorem nubA_len : ∀ (xs l : List Int), l.length ≤ (nubA l xs).length ∧ (nubA l xs).length ≤ l.length + xs.length
  | [], l => ⟨Nat.le_refl _, by simp [nubA]⟩
  | x :: xs, l => by
    rw [nubA_cons]
    split
    · have := nubA_len xs l; simp only [List.length_cons]; omega
    · have := nubA_len xs (l ++ [x]); simp only [List.length_append, List.length_cons, List.length_nil] at this ⊢; omega
theorem mem_nubA : ∀ (xs l : List Int) (y : Int), y ∈ nubA l xs ↔ y ∈ l ∨ y ∈ xs
  | [], l, y => by simp [nubA]
  | x :: xs, l, y => by
    rw [nubA_cons, mem_nubA xs]
    split
    · rename_i h
      constructor
      · rintro (h1 | h1)
        · exact .inl h1
        · exact .inr (List.mem_cons_of_mem _ h1)
      · rintro (h1 | h1)
        · exact .inl h1
        · rcases List.mem_cons.1 h1 with rfl | h1
          · exact .inl h
          · exact .inr h1
    · simp only [List.mem_append, List.mem_cons, List.not_mem_nil, or_false]
      constructor
      · rintro ((h1 | h1) | h1)
        · exact .inl h1
        · exact .inr (.inl h1)
        · exact .inr (.inr h1)
      · rintro (h1 | h1 | h1)
        · exact .inl (.inl h1)
        · exact .inl (.inr h1)
        · exact .inr h1
theorem nubA_nodup : ∀ (xs l : List Int), l.Nodup → (nubA l xs).Nodup
  | [], l, h => h
  | x :: xs, l, h => by
    rw [nubA_cons]
    split
    · exact nubA_nodup xs l h
    · rename_i hx
      refine nubA_nodup xs _ ?_
      rw [List.nodup_append]
      exact ⟨h, by simp, fun a ha b hb => by simp at hb; subst hb; exact fun e => hx (e ▸ ha)⟩
/-- numbers that are renamed without two becoming one -/
theorem nubA_map {f : Int → Int} : ∀ (xs l : List Int), (∀ a b, a ∈ l ∨ a ∈ xs → b ∈ l ∨ b ∈ xs → f a = f b → a = b) → nubA (l.map f) (xs.map f) = (nubA l xs).map f
  | [], l, _ => rfl
  | x :: xs, l, h => by
    rw [List.map_cons, nubA_cons, nubA_cons]
    have hiff : f x ∈ l.map f ↔ x ∈ l := by
      constructor
      · intro hm
        obtain ⟨a, ha, e⟩ := List.mem_map.1 hm
        have := h a x (.inl ha) (.inr (by simp)) e
        exact this ▸ ha
      · exact fun hm => List.mem_map_of_mem hm
    by_cases hx : x ∈ l
    · rw [if_pos (hiff.2 hx), if_pos hx]
      exact nubA_map xs l fun a b ha hb => h a b (ha.imp (fun h => h) (List.mem_cons_of_mem _)) (hb.imp (fun h => h) (List.mem_cons_of_mem _))
    · rw [if_neg (fun h => hx (hiff.1 h)), if_neg hx]
      have e : l.map f ++ [f x] = (l ++ [x]).map f := by simp
      rw [e]
      refine nubA_map xs (l ++ [x]) fun a b ha hb => h a b ?_ ?_
      · rcases ha with ha | ha
        · rcases List.mem_append.1 ha with ha | ha
          · exact .inl ha
          · simp at ha; subst ha; exact .inr (by simp)
        · exact .inr (List.mem_cons_of_mem _ ha)
      · rcases hb with hb | hb
        · rcases List.mem_append.1 hb with hb | hb
          · exact .inl hb
          · simp at hb; subst hb; exact .inr (by simp)
        · exact .inr (List.mem_cons_of_mem _ hb)

/-- the numbers from 1 on; as variables -/
def onesL (n : Nat) : List Int := (List.range n).map fun (j : Nat) => (j : Int) + 1
theorem onesL_len (n : Nat) : (onesL n).length = n := by simp [onesL]
theorem onesL_succ (n : Nat) : onesL (n + 1) = onesL n ++ [(n : Int) + 1] := by simp [onesL, List.range_succ]
theorem mem_onesL {n : Nat} {y : Int} (h : y ∈ onesL n) : 1 ≤ y ∧ y ≤ n := by
  simp only [onesL, List.mem_map, List.mem_range] at h
  obtain ⟨j, hj, rfl⟩ := h
  omega
def varsOf (t : Ty) : List Int := nubA [] (vars t)
/-- a type, its variables numbered in their order -/
def canon (t : Ty) : Ty := ext (putT (varsOf t) ((onesL (varsOf t).length).map Ty.v)) t

theorem putT_map {f : Int → Int} : ∀ {vs : List Int} {ls : List Ty} {x : Int}, (∀ a, a ∈ vs → f a = f x → a = x) → vs.length = ls.length → x ∈ vs → putT (vs.map f) ls (f x) = putT vs ls x
  | [], ls, x, _, _, hx => by cases hx
  | v :: vs, [], x, _, hl, _ => by simp at hl
  | v :: vs, l :: ls, x, h, hl, hx => by
    simp only [List.map_cons, putT]
    by_cases hv : v = x
    · subst hv; simp
    · have hfv : ¬ f v = f x := fun e => hv (h v (by simp) e)
      simp only [hv, hfv, if_false]
      refine putT_map (fun a ha => h a (List.mem_cons_of_mem _ ha)) (by simpa using hl) ?_
      rcases List.mem_cons.1 hx with e | hx
      · exact absurd e.symm hv
      · exact hx
theorem vars_ext_v {f : Int → Int} (t : Ty) : vars (ext (fun x => .v (f x)) t) = (vars t).map f := by
  induction t using Ty.ind with
  | hv x => rw [ext_v, vars_v, vars_v]; rfl
  | hc n ks ih =>
    rw [ext_c, vars_c, vars_c, List.map_map, List.map_flatten, List.map_map]
    congr 1
    exact List.map_congr_left ih
/-- variables renamed without two becoming one: it is closed as before -/
theorem canon_rename {f : Int → Int} {t : Ty} (h : ∀ a b, a ∈ vars t → b ∈ vars t → f a = f b → a = b) : canon (ext (fun x => .v (f x)) t) = canon t := by
  have h1 : varsOf (ext (fun x => .v (f x)) t) = (varsOf t).map f := by
    unfold varsOf
    rw [vars_ext_v]
    exact nubA_map (f := f) (vars t) [] fun a b ha hb => h a b (by simpa using ha) (by simpa using hb)
  unfold canon
  rw [h1, List.length_map, ext_comp]
  refine ext_congr fun y hy => ?_
  rw [ext_v]
  have hm : y ∈ varsOf t := (mem_nubA _ _ _).2 (.inr hy)
  refine putT_map (fun a ha => ?_) (by simp [onesL_len]) hm
  have ha' : a ∈ vars t := by
    rcases (mem_nubA _ _ _).1 ha with h | h
    · cases h
    · exact h
  exact h a y ha' hy
/-- two types, each made of the other one -/
theorem canon_variant {t u : Ty} {f g : Int → Ty} (h1 : ext f t = u) (h2 : ext g u = t) : canon t = canon u := by
  have hfg : ∀ y ∈ vars t, ext g (f y) = .v y := by
    have : ext (fun y => ext g (f y)) t = ext .v t := by rw [← ext_comp, h1, h2, ext_id]
    exact ext_congr_iff.1 this
  have hv : ∀ y ∈ vars t, ∃ z, f y = .v z := fun y hy => by
    have := hfg y hy
    cases hf : f y with
    | v z => exact ⟨z, rfl⟩
    | c n ks => rw [hf, ext_c] at this; cases this
  let r : Int → Int := fun y => match f y with
    | .v z => z
    | .c _ _ => 0
  have hr : ∀ y ∈ vars t, f y = .v (r y) := fun y hy => by
    obtain ⟨z, hz⟩ := hv y hy
    simp only [r, hz]
  have hu : u = ext (fun x => .v (r x)) t := by
    rw [← h1]
    exact ext_congr hr
  rw [hu]
  refine (canon_rename fun a b ha hb e => ?_).symm
  have e1 := hfg a ha
  have e2 := hfg b hb
  rw [hr a ha, ext_v] at e1
  rw [hr b hb, ext_v, ← e, e1] at e2
  injection e2

/-! ### which is named first, and in which order -/
def nStar : Nm := ⟨[42], by decide⟩
/-- pairs made one, one behind the other, so far as they can be -/
inductive Run (U : List Int) : List (Ty × Ty) → Bool → Sg → Dn → Prop
  | nil : Run U [] true [] []
  | ok {l : List (Ty × Ty)} {σ σ' : Sg} {D D' : Dn} {a b : Ty} {r : Bool} {N : Nat} : Run U l true σ D → unF N σ D a b = some (r, σ', D') → Good U σ' → Sub σ σ' → (r = true → Fine U σ' D' ∧ ext (th σ') a = ext (th σ') b) → (∀ τ, Sol τ σ → ext τ a = ext τ b → r = true ∧ Sol τ σ') → Run U (l ++ [(a, b)]) r σ' D'
  | no {l : List (Ty × Ty)} {σ : Sg} {D : Dn} {p : Ty × Ty} : Run U l false σ D → Run U (l ++ [p]) false σ D
theorem Run.facts {U : List Int} {l : List (Ty × Ty)} {r : Bool} {σ : Sg} {D : Dn} (h : Run U l r σ D) : Good U σ ∧ (r = true → Fine U σ D ∧ ∀ p ∈ l, ext (th σ) p.1 = ext (th σ) p.2) ∧ (∀ τ : Int → Ty, (∀ p ∈ l, ext τ p.1 = ext τ p.2) → r = true ∧ Sol τ σ) := by
  induction h with
  | nil => exact ⟨Good.nil _, fun _ => ⟨Fine.nil _, fun p h => by cases h⟩, fun τ _ => ⟨rfl, Sol.nil _⟩⟩
  | @ok l σ σ' D D' a b r N h0 hun hg hsub hok hgen ih =>
    obtain ⟨g0, ih1, ih2⟩ := ih
    refine ⟨hg, fun hr => ⟨(hok hr).1, fun p hp => ?_⟩, fun τ hτ => ?_⟩
    · rcases List.mem_append.1 hp with hp | hp
      · exact eq_th_of_sol g0.wf (hg.wf.sol.sub hsub) ((ih1 rfl).2 p hp)
      · simp at hp; subst hp; exact (hok hr).2
    · exact hgen τ (ih2 τ fun p hp => hτ p (List.mem_append_left _ hp)).2 (hτ (a, b) (by simp))
  | @no l σ D p h0 ih =>
    obtain ⟨g0, ih1, ih2⟩ := ih
    refine ⟨g0, fun h => Bool.noConfusion h, fun τ hτ => ?_⟩
    have := (ih2 τ fun p hp => hτ p (List.mem_append_left _ hp)).1
    cases this
theorem Run.snoc {U : List Int} (hU9 : U.length ≤ 1000000000) {l : List (Ty × Ty)} {σ : Sg} {D : Dn} (h : Run U l true σ D) {a b : Ty} (ha : ∀ y ∈ vars a, y ∈ U) (hb : ∀ y ∈ vars b, y ∈ U) :
    ∃ r σ' D' N, unF N σ D a b = some (r, σ', D') ∧ Run U (l ++ [(a, b)]) r σ' D' := by
  obtain ⟨r, σ', D', N, h1, h2, h3, h4, h5⟩ := (h.facts.2.1 rfl).1.un hU9 ha hb
  exact ⟨r, σ', D', N, h1, h.ok h1 h2 h3 h4 h5⟩
/-- the same pairs, turned about, in another order -/
theorem Run.either {U : List Int} {l m : List (Ty × Ty)} {r s : Bool} {σ ρ : Sg} {D E : Dn} (h : Run U l r σ D) (k : Run U m s ρ E) (hlm : ∀ p ∈ l, (p.2, p.1) ∈ m) (hml : ∀ p ∈ m, (p.2, p.1) ∈ l) :
    r = s ∧ (r = true → ∀ xs : List Ty, canon (.c nStar (xs.map (ext (th σ)))) = canon (.c nStar (xs.map (ext (th ρ))))) := by
  obtain ⟨g1, f1, q1⟩ := h.facts
  obtain ⟨g2, f2, q2⟩ := k.facts
  have tr1 : r = true → s = true ∧ Sol (th σ) ρ := fun hr => q2 (th σ) fun p hp => ((f1 hr).2 _ (hml p hp)).symm
  have tr2 : s = true → r = true ∧ Sol (th ρ) σ := fun hs => q1 (th ρ) fun p hp => ((f2 hs).2 _ (hlm p hp)).symm
  constructor
  · cases r <;> cases s <;> first | rfl | exact absurd (tr1 rfl).1 (by simp) | exact absurd (tr2 rfl).1 (by simp)
  · intro hr xs
    obtain ⟨hs, s1⟩ := tr1 hr
    have s2 := (tr2 hs).2
    refine canon_variant (f := th ρ) (g := th σ) ?_ ?_
    · rw [ext_c, List.map_map]
      congr 1
      exact List.map_congr_left fun t _ => s2.ext g1.wf t
    · rw [ext_c, List.map_map]
      congr 1
      exact List.map_congr_left fun t _ => s1.ext g2.wf t
end Go.Proofs.Ytncakfcafkfmfaa

/-
  types: the reference's Has, Vars, Close; law 06: alike.
-/
namespace Go.Proofs.Ytncakfcafkfmfaa
open Go
set_option linter.unusedSimpArgs false
set_option linter.unusedVariables false

theorem has_ok {w : World} {F : Nat → Prop} {A : Option Addr} {c : Nat} {l : List Int} {x : Int} (hr : Rd w F (.slice A l.length c) l.length 1 (l.map I6)) :
    Ret Try.prog 30 #[.slice A l.length c, .int .i64 x] w fun v w' => v = .bool (decide (x ∈ l)) ∧ w = w' := by
  have hm := hr.le
  refine enterRet (vs := [_, _]) (N := 18) Try.func30 rfl rfl rfl ?_
  refine WC.keep [(0, _), (1, _)] ⟨rfl, rfl, trivial⟩ ?_
  refine WC.seq ?_
  refine WC.region ?_
  refine WL.val rfl rfl rfl rfl (r_assign rfl ev_c) ?_
  refine WL.nil ?_
  refine WX.keep [(0, _), (1, _)] ⟨rfl, rfl, trivial⟩ ?_
  refine WX.next ?_
  refine WC.seq ?_
  refine WC.seq ?_
  refine WC.region ?_
  refine WL.val rfl rfl rfl rfl (r_assign rfl ev_c) ?_
  refine WL.nil ?_
  refine WX.keep [(0, _), (1, _), (5, _)] ⟨rfl, rfl, rfl, trivial⟩ ?_
  refine WX.next ?_
  refine WC.block ?_
  -- loop 1: live [0, 1, 5]
  refine WC.keep [(0, _), (1, _), (5, _)] ⟨rfl, rfl, rfl, trivial⟩ ?_
  refine WC.loop (fun q E w' => ∃ (i : Nat), w = w' ∧ i ≤ l.length ∧ q = l.length - i ∧ (∀ j, j < i → l[j]? ≠ some x) ∧ E = [(0, .slice A l.length c), (1, .int .i64 x), (5, .int .i64 (i : Int))]) (l.length) ?_ ?_
  · exact ⟨0, rfl, by omega, by omega, fun j h => by omega, rfl⟩
  · rintro q E w' ⟨i, rfl, hi, rfl, hn, rfl⟩
    refine WC.seq ?_
    refine WC.seq ?_
    refine WC.region ?_
    refine WL.val rfl rfl rfl rfl (r_move rfl (ev_t rfl)) ?_
    refine WL.val rfl rfl rfl rfl (r_move rfl (ev_t rfl)) ?_
    refine WL.val rfl rfl rfl rfl (r_lenSlice (ts := #[]) rfl (ev_t rfl) elem_33) ?_
    refine WL.val rfl rfl rfl rfl (r_lss rfl (ev_t rfl) (ev_t rfl)) ?_
    refine WL.nil ?_
    refine WX.keep [(0, _), (1, _), (5, _), (9, _)] ⟨rfl, rfl, rfl, rfl, trivial⟩ ?_
    refine WX.next ?_
    refine WC.cond rfl (ev_t rfl) (fun hc2 => ?_) (fun hc2 => ?_)
    · try (exfalso; first | (simp at hc2; done) | (simp only [decide_eq_true_eq, decide_eq_false_iff_not, Bool.not_eq_true', Bool.not_eq_false', Bool.not_eq_true, Bool.not_eq_false] at hc2; omega) | omega)
      all_goals
       try simp only [decide_eq_true_eq, decide_eq_false_iff_not, Bool.not_eq_true', Bool.not_eq_false', Bool.not_eq_true, Bool.not_eq_false, Option.isNone_none, Option.isNone_some, Option.isSome_none, Option.isSome_some, ne_eq, Decidable.not_not] at hc2
       have hi' : i < l.length := by omega
       obtain ⟨b0, off, rfl, _⟩ := hr.open (by omega)
       have hxi : l[i]? = some l[i] := List.getElem?_eq_getElem hi'
       generalize l[i] = y at *
       refine WC.skip ?_
       refine WX.next ?_
       refine WC.seq ?_
       refine WC.block ?_
       refine WC.seq ?_
       refine WC.region ?_
       refine WL.val rfl rfl rfl rfl (r_move rfl (ev_t rfl)) ?_
       refine WL.val rfl rfl rfl rfl (r_move rfl (ev_t rfl)) ?_
       refine WL.val rfl rfl rfl rfl (r_indexAddr rfl (ev_t rfl) (ev_t rfl) elem_33 size_3 (by omega) (by omega)) ?_
       refine WL.val rfl rfl rfl rfl (r_load rfl (ev_t rfl) flat_3 (hr.cell (j := i) (u := I6 y) (by omega) (by rw [List.getElem?_map, hxi]; rfl))) ?_
       refine WL.val rfl rfl rfl rfl (r_move rfl (ev_t rfl)) ?_
       refine WL.val rfl rfl rfl rfl (r_eql rfl (ev_t rfl) (ev_t rfl)) ?_
       refine WL.nil ?_
       refine WX.keep [(0, _), (1, _), (5, _), (17, _)] ⟨rfl, rfl, rfl, rfl, trivial⟩ ?_
       refine WX.next ?_
       refine WC.cond rfl (ev_t rfl) (fun hc4 => ?_) (fun hc4 => ?_)
       · try (exfalso; first | (simp at hc4; done) | (simp only [decide_eq_true_eq, decide_eq_false_iff_not, Bool.not_eq_true', Bool.not_eq_false', Bool.not_eq_true, Bool.not_eq_false] at hc4; omega) | omega)
         all_goals
          try simp only [decide_eq_true_eq, decide_eq_false_iff_not, Bool.not_eq_true', Bool.not_eq_false', Bool.not_eq_true, Bool.not_eq_false, Option.isNone_none, Option.isNone_some, Option.isSome_none, Option.isSome_some, ne_eq, Decidable.not_not] at hc4
          refine WC.seq ?_
          refine WC.region ?_
          refine WL.val rfl rfl rfl rfl (r_assign rfl ev_c) ?_
          refine WL.nil ?_
          refine WX.keep [(4, _)] ⟨rfl, trivial⟩ ?_
          refine WX.next ?_
          refine WC.ret ?_
          refine WX.blockRet ?_
          refine WX.thenRet ?_
          refine WX.thenRet ?_
          refine WX.blockRet ?_
          refine WX.thenRet ?_
          refine WX.retE1 rfl rfl ?_
          refine ⟨?_, rfl⟩
          congr 1
          exact (decide_eq_true (List.mem_of_getElem? (by rw [hxi, hc4]))).symm
       · try (exfalso; first | (simp at hc4; done) | (simp only [decide_eq_true_eq, decide_eq_false_iff_not, Bool.not_eq_true', Bool.not_eq_false', Bool.not_eq_true, Bool.not_eq_false] at hc4; omega) | omega)
         all_goals
          try simp only [decide_eq_true_eq, decide_eq_false_iff_not, Bool.not_eq_true', Bool.not_eq_false', Bool.not_eq_true, Bool.not_eq_false, Option.isNone_none, Option.isNone_some, Option.isSome_none, Option.isSome_some, ne_eq, Decidable.not_not] at hc4
          refine WC.skip ?_
          refine WX.blockNormal ?_
          refine WX.next ?_
          refine WC.region ?_
          refine WL.val rfl rfl rfl rfl (r_move rfl (ev_t rfl)) ?_
          first | refine WL.val rfl rfl rfl rfl (r_addN rfl (ev_t rfl) ev_c (by simp only [inK]; omega)) ?_ | refine WL.val rfl rfl rfl rfl (r_add rfl (ev_t rfl) ev_c) ?_
          refine WL.val rfl rfl rfl rfl (r_assign rfl (ev_t rfl)) ?_
          refine WL.nil ?_
          refine WX.keep [(0, _), (1, _), (5, _)] ⟨rfl, rfl, rfl, trivial⟩ ?_
          refine WX.meet [(0, _), (1, _), (5, _)] ⟨rfl, rfl, rfl, trivial⟩ ?_
          refine ⟨l.length - (i + 1), by omega, i + 1, rfl, by omega, rfl, fun j hj => ?_, rfl⟩
          rcases Nat.lt_or_ge j i with h | h
          · exact hn j h
          · obtain rfl : j = i := by omega
            rw [hxi]
            intro e
            injection e with e
            exact hc4 e
    · try (exfalso; first | (simp at hc2; done) | (simp only [decide_eq_true_eq, decide_eq_false_iff_not, Bool.not_eq_true', Bool.not_eq_false', Bool.not_eq_true, Bool.not_eq_false] at hc2; omega) | omega)
      all_goals
       try simp only [decide_eq_true_eq, decide_eq_false_iff_not, Bool.not_eq_true', Bool.not_eq_false', Bool.not_eq_true, Bool.not_eq_false, Option.isNone_none, Option.isNone_some, Option.isSome_none, Option.isSome_some, ne_eq, Decidable.not_not] at hc2
       refine WC.exit ?_
       refine WX.thenExit ?_
       refine WX.thenExit ?_
       refine WX.blockHere ?_
       refine WX.next ?_
       refine WC.seq ?_
       refine WC.region ?_
       refine WL.val rfl rfl rfl rfl (r_assign rfl ev_c) ?_
       refine WL.nil ?_
       refine WX.keep [(4, _)] ⟨rfl, trivial⟩ ?_
       refine WX.next ?_
       refine WC.ret ?_
       refine WX.retE1 rfl rfl ?_
       refine ⟨?_, rfl⟩
       congr 1
       refine (decide_eq_false fun hx => ?_).symm
       obtain ⟨j, hj, e⟩ := List.getElem_of_mem hx
       exact hn j (by omega) (by rw [List.getElem?_eq_getElem hj, e])

def topv : Ty → List Int
  | .v x => [x]
  | .c _ _ => []
theorem vars_top (t : Ty) : vars t = topv t ++ (t.kids.map vars).flatten := by
  cases t with
  | v x => rw [vars_v]; rfl
  | c f ks => rw [vars_c]; rfl
theorem take_flat_succ {l : List Ty} {i : Nat} (h : i < l.length) : ((l.take (i + 1)).map vars).flatten = ((l.take i).map vars).flatten ++ vars l[i] := by
  rw [List.take_succ_eq_append_getElem h, List.map_append, List.flatten_append]
  simp
theorem flat_len_le {l : List Ty} {i : Nat} (h : i < l.length) : ((l.take i).map vars).flatten.length + (vars l[i]).length ≤ ((l.map vars).flatten).length := by
  have e : l.map vars = (l.take (i + 1)).map vars ++ (l.drop (i + 1)).map vars := by rw [← List.map_append, List.take_append_drop]
  rw [e, List.flatten_append, take_flat_succ h, List.length_append, List.length_append]
  omega

set_option maxHeartbeats 2000000 in
theorem rvars_ok : ∀ (N : Nat) (F G : Nat → Prop) (w : World) (l : List Int) (A : Option Addr) (c : Nat) (a1 a2 a3 : Value) (t : Ty), sz t ≤ N → Own w G 3 1 (.slice A l.length c) l.length (l.map I6) → TV w F (a1, a2, a3) t → (∀ k, F k → ¬ G k) → l.length + (vars t).length ≤ 1000000000 →
    Ret Try.prog 45 #[.slice A l.length c, .agg #[a1, a2, a3]] w fun v w' => ∃ A' c', v = .slice A' (nubA l (vars t)).length c' ∧ Own w' (Grow G w w') 3 1 (.slice A' (nubA l (vars t)).length c') (nubA l (vars t)).length ((nubA l (vars t)).map I6) ∧ Upd G w w' := by
  intro N
  induction N with
  | zero =>
    intro F G w l A c a1 a2 a3 t hN
    have := sz_pos t
    omega
  | succ N ih =>
    intro F G w l A c a1 a2 a3 t hN ho ht hFG hlen
    replace ht := ht.bound
    replace ho := ho.bound
    obtain ⟨G0, hG0⟩ : ∃ G0 : Nat → Prop, G0 = fun k => G k ∧ k < w.heap.size := ⟨_, rfl⟩
    rw [← hG0] at ho
    have hG0' : ∀ k, G0 k → G k ∧ k < w.heap.size := fun k hk => by rw [hG0] at hk; exact hk
    obtain ⟨m, A0, k0, xk, rfl, rfl, rfl, hm, hr, hl, hb, hk⟩ := ht.open
    have hks : TVs w (fun k => F k ∧ k < w.heap.size) xk t.kids := ⟨hl, hk⟩
    have hvt := vars_top t
    refine enterRet (vs := [_, _]) (N := 36) Try.func45 rfl rfl rfl ?_
    have hU := Upd.refl G w
    refine WC.keep [(0, _), (1, _)] ⟨rfl, rfl, trivial⟩ ?_
    refine WC.seq ?_
    refine WC.region ?_
    refine WL.cons (SO.alloc rfl rfl rfl rfl (r_boxAgg rfl (ev_t rfl)) ?_)
    intro w1 hu1 hB1 hz1
    have hs1 := hu1.size
    replace hU := hU.trans hu1 (by first | exact (fun _ _ h => h) | exact (fun _ _ h => h.elim) | (intro k hl hk; (try simp only [At, New, Grow, From, No] at hk ⊢); omega) | (intro k hl hk; first | (exact (hG1 k hk).2.elim (fun h => h) (fun h => (by omega))) | exact (hG0' k hk).1))
    replace hr := hr.upd hu1 (fun k hk hl hS => by first | exact (show False from hS).elim | (simp only [At] at hS; omega) | exact hFG k hk.1 (hG0' k hS).1 | (rcases (hG1 k hS).2 with h | h; exact hFG k hk.1 h; have := hk.2; omega))
    replace hks := hks.upd hu1 (fun k hk hl hS => by first | exact (show False from hS).elim | (simp only [At] at hS; omega) | exact hFG k hk.1 (hG0' k hS).1 | (rcases (hG1 k hS).2 with h | h; exact hFG k hk.1 h; have := hk.2; omega))
    replace ho := ho.upd hu1 (fun k hk hl hS => by first | exact (show False from hS).elim | (simp only [At] at hS; have := hG0' k hk; omega))
    refine WL.val rfl rfl rfl rfl (r_assign rfl ev_c) ?_
    refine WL.nil ?_
    refine WX.keep [(0, _), (3, _)] ⟨rfl, rfl, trivial⟩ ?_
    refine WX.next ?_
    -- cut 1: live [0, 3]
    refine WC.cut (fun E wA => ∃ (G1 : Nat → Prop) (A1 : Option Addr) (c1 : Nat), Upd G w wA ∧ w.heap.size < wA.heap.size ∧ (∀ k, G1 k → (k < wA.heap.size ∧ k ≠ w.heap.size) ∧ (G k ∨ w.heap.size ≤ k)) ∧ Own wA G1 3 1 (.slice A1 (nubA l (topv t)).length c1) (nubA l (topv t)).length ((nubA l (topv t)).map I6) ∧ Blk wA w.heap.size #[.string ⟨t.nm.toArray⟩, .int .i64 m, .slice A0 t.kids.length k0] typ ∧ Rd wA (fun k => F k ∧ k < w.heap.size) (.slice A0 t.kids.length k0) t.kids.length 3 (xk.flatMap c3) ∧ TVs wA (fun k => F k ∧ k < w.heap.size) xk t.kids ∧   E = [(0, .slice A1 (nubA l (topv t)).length c1), (3, .pointer (some ⟨w.heap.size, 0, none⟩))]) ?_ ?_
    · refine WC.seq ?_
      refine WC.region ?_
      first | refine WL.val rfl rfl rfl rfl (r_field0 rfl (ev_t rfl) fld_28_0) ?_ | refine WL.val rfl rfl rfl rfl (r_fieldAt rfl (ev_t rfl) fld_28_0) ?_
      refine WL.val rfl rfl rfl rfl (r_load rfl (ev_t rfl) flat_9 (Blk.cell hB1 rfl)) ?_
      refine WL.val rfl rfl rfl rfl (r_eqlStrL rfl (ev_t rfl) ev_c) ?_
      refine WL.val rfl rfl rfl rfl (r_move rfl (ev_t rfl)) ?_
      refine WL.cases 9 rfl (fun hb1_3 => ?_) (fun hb1_3 => ?_)
      · try (exfalso; first | (simp at hb1_3; done) | (simp only [decide_eq_true_eq, decide_eq_false_iff_not, Bool.not_eq_true', Bool.not_eq_false', Bool.not_eq_true, Bool.not_eq_false] at hb1_3; omega) | omega)
        all_goals
         try simp only [decide_eq_true_eq, decide_eq_false_iff_not, Bool.not_eq_true', Bool.not_eq_false', Bool.not_eq_true, Bool.not_eq_false, Option.isNone_none, Option.isNone_some, Option.isSome_none, Option.isSome_some, ne_eq, Decidable.not_not] at hb1_3
         obtain ⟨x, rfl⟩ := Ty.nm_nil.1 hb1_3
         obtain rfl := (hm x rfl).symm
         refine WL.val rfl rfl rfl rfl (r_move rfl (ev_t rfl)) ?_
         first | refine WL.val rfl rfl rfl rfl (r_field0 rfl (ev_t rfl) fld_28_1) ?_ | refine WL.val rfl rfl rfl rfl (r_fieldAt rfl (ev_t rfl) fld_28_1) ?_
         refine WL.val rfl rfl rfl rfl (r_load rfl (ev_t rfl) flat_3 (Blk.cell hB1 rfl)) ?_
         refine WL.cons (SO.call (has_ok (ho.rd (by omega))) rfl body_30 ⟨(ev_t rfl), (ev_t rfl), trivial⟩ rfl rfl rfl rfl ?_)
         rintro v w2 ⟨rfl, he⟩
         obtain rfl := he.symm
         refine WL.val rfl rfl rfl rfl (r_not rfl (ev_t rfl)) ?_
         refine WL.val rfl rfl rfl rfl (r_pickT rfl (ev_t rfl) (ev_t rfl)) ?_
         refine WL.nil ?_
         refine WX.keep [(0, _), (3, _), (15, _)] ⟨rfl, rfl, rfl, trivial⟩ ?_
         refine WX.next ?_
         refine WC.cond rfl (ev_t rfl) (fun hc1 => ?_) (fun hc1 => ?_)
         · try (exfalso; first | (simp at hc1; done) | (simp only [decide_eq_true_eq, decide_eq_false_iff_not, Bool.not_eq_true', Bool.not_eq_false', Bool.not_eq_true, Bool.not_eq_false] at hc1; omega) | omega)
           all_goals
            try simp only [decide_eq_true_eq, decide_eq_false_iff_not, Bool.not_eq_true', Bool.not_eq_false', Bool.not_eq_true, Bool.not_eq_false, Option.isNone_none, Option.isNone_some, Option.isSome_none, Option.isSome_some, ne_eq, Decidable.not_not] at hc1
            have hx : x ∉ l := by simpa using hc1
            have hnub : nubA l (topv (.v x)) = l ++ [x] := by show nubA l [x] = _; rw [nubA_cons, if_neg hx]; rfl
            refine WC.region ?_
            refine WL.val rfl rfl rfl rfl (r_move rfl (ev_t rfl)) ?_
            first | refine WL.val rfl rfl rfl rfl (r_field0 rfl (ev_t rfl) fld_28_1) ?_ | refine WL.val rfl rfl rfl rfl (r_fieldAt rfl (ev_t rfl) fld_28_1) ?_
            refine WL.val rfl rfl rfl rfl (r_load rfl (ev_t rfl) flat_3 (Blk.cell hB1 rfl)) ?_
            refine WL.cons (SO.alloc rfl rfl rfl rfl (r_buildSlice1 (vs := [_]) rfl ⟨(ev_t rfl), trivial⟩ rfl row_33 rfl rfl) ?_)
            intro w3 hu3 hB3 hz3
            have hs3 := hu3.size
            replace hU := hU.trans hu3 (by first | exact (fun _ _ h => h) | exact (fun _ _ h => h.elim) | (intro k hl hk; (try simp only [At, New, Grow, From, No] at hk ⊢); omega) | (intro k hl hk; first | (exact (hG1 k hk).2.elim (fun h => h) (fun h => (by omega))) | exact (hG0' k hk).1))
            replace hr := hr.upd hu3 (fun k hk hl hS => by first | exact (show False from hS).elim | (simp only [At] at hS; omega) | exact hFG k hk.1 (hG0' k hS).1 | (rcases (hG1 k hS).2 with h | h; exact hFG k hk.1 h; have := hk.2; omega))
            replace hks := hks.upd hu3 (fun k hk hl hS => by first | exact (show False from hS).elim | (simp only [At] at hS; omega) | exact hFG k hk.1 (hG0' k hS).1 | (rcases (hG1 k hS).2 with h | h; exact hFG k hk.1 h; have := hk.2; omega))
            replace ho := ho.upd hu3 (fun k hk hl hS => by first | exact (show False from hS).elim | (simp only [At] at hS; have := hG0' k hk; omega))
            replace hB1 := hB1.upd hu3 (by first | exact (fun h => h) | (simp only [At]; omega) | (intro hS; have := hG0' _ hS; omega) | (intro hS; have := (hG1 _ hS); omega))
            refine WL.cons (SO.append ho (show Rd _ _ _ 1 1 [I6 x] from Rd.of_blk (F := At _) (n := 1) (sz := 1) hB3 rfl rfl (by omega)) row_33 (fun u hu => by simp at hu; subst hu; rfl) (le_maxLen (by omega)) (by omega) rfl (ev_t rfl) (ev_t rfl) rfl rfl rfl rfl ?_)
            intro v4 w4 ho hu4
            have hs4 := hu4.size
            replace hU := hU.trans hu4 (by first | exact (fun _ _ h => h) | exact (fun _ _ h => h.elim) | (intro k hl hk; (try simp only [At, New, Grow, From, No] at hk ⊢); omega) | (intro k hl hk; first | (exact (hG1 k hk).2.elim (fun h => h) (fun h => (by omega))) | exact (hG0' k hk).1))
            replace hr := hr.upd hu4 (fun k hk hl hS => by first | exact (show False from hS).elim | (simp only [At] at hS; omega) | exact hFG k hk.1 (hG0' k hS).1 | (rcases (hG1 k hS).2 with h | h; exact hFG k hk.1 h; have := hk.2; omega))
            replace hks := hks.upd hu4 (fun k hk hl hS => by first | exact (show False from hS).elim | (simp only [At] at hS; omega) | exact hFG k hk.1 (hG0' k hS).1 | (rcases (hG1 k hS).2 with h | h; exact hFG k hk.1 h; have := hk.2; omega))
            replace hB1 := hB1.upd hu4 (by first | exact (fun h => h) | (simp only [At]; omega) | (intro hS; have := hG0' _ hS; omega) | (intro hS; have := (hG1 _ hS); omega))
            obtain ⟨A4, c4, rfl, hc4⟩ := Own.form ho
            refine WL.val rfl rfl rfl rfl (r_assign rfl (ev_t rfl)) ?_
            refine WL.nil ?_
            refine WX.keep [(0, _), (3, _)] ⟨rfl, rfl, trivial⟩ ?_
            refine WX.meet [(0, _), (3, _)] ⟨rfl, rfl, trivial⟩ ?_
            first
              | (have e : nubA l (topv (.c f ks)) = l := rfl; rw [e]; exact ⟨G0, _, _, hU, by omega, fun k hk => ⟨⟨by have := hG0' k hk; omega, by have := hG0' k hk; omega⟩, .inl (hG0' k hk).1⟩, ho, hB1, hr, hks, rfl⟩)
              | (rw [hnub]; exact ⟨G0, _, _, hU, by omega, fun k hk => ⟨⟨by have := hG0' k hk; omega, by have := hG0' k hk; omega⟩, .inl (hG0' k hk).1⟩, ho, hB1, hr, hks, rfl⟩)
              | (rw [hnub, List.length_append, List.map_append]; exact ⟨_, _, _, hU, by omega, fun k hk => (by rcases hk with hk | hk; have := hG0' k hk; exact ⟨⟨by omega, by omega⟩, .inl this.1⟩; exact ⟨⟨by omega, by omega⟩, .inr (by omega)⟩), ho, hB1, hr, hks, rfl⟩)
         · try (exfalso; first | (simp at hc1; done) | (simp only [decide_eq_true_eq, decide_eq_false_iff_not, Bool.not_eq_true', Bool.not_eq_false', Bool.not_eq_true, Bool.not_eq_false] at hc1; omega) | omega)
           all_goals
            try simp only [decide_eq_true_eq, decide_eq_false_iff_not, Bool.not_eq_true', Bool.not_eq_false', Bool.not_eq_true, Bool.not_eq_false, Option.isNone_none, Option.isNone_some, Option.isSome_none, Option.isSome_some, ne_eq, Decidable.not_not] at hc1
            have hx : x ∈ l := by simpa using hc1
            have hnub : nubA l (topv (.v x)) = l := by show nubA l [x] = _; rw [nubA_cons, if_pos hx]; rfl
            refine WC.skip ?_
            refine WX.meet [(0, _), (3, _)] ⟨rfl, rfl, trivial⟩ ?_
            first
              | (have e : nubA l (topv (.c f ks)) = l := rfl; rw [e]; exact ⟨G0, _, _, hU, by omega, fun k hk => ⟨⟨by have := hG0' k hk; omega, by have := hG0' k hk; omega⟩, .inl (hG0' k hk).1⟩, ho, hB1, hr, hks, rfl⟩)
              | (rw [hnub]; exact ⟨G0, _, _, hU, by omega, fun k hk => ⟨⟨by have := hG0' k hk; omega, by have := hG0' k hk; omega⟩, .inl (hG0' k hk).1⟩, ho, hB1, hr, hks, rfl⟩)
              | (rw [hnub, List.length_append, List.map_append]; exact ⟨_, _, _, hU, by omega, fun k hk => (by rcases hk with hk | hk; have := hG0' k hk; exact ⟨⟨by omega, by omega⟩, .inl this.1⟩; exact ⟨⟨by omega, by omega⟩, .inr (by omega)⟩), ho, hB1, hr, hks, rfl⟩)
      · try (exfalso; first | (simp at hb1_3; done) | (simp only [decide_eq_true_eq, decide_eq_false_iff_not, Bool.not_eq_true', Bool.not_eq_false', Bool.not_eq_true, Bool.not_eq_false] at hb1_3; omega) | omega)
        all_goals
         try simp only [decide_eq_true_eq, decide_eq_false_iff_not, Bool.not_eq_true', Bool.not_eq_false', Bool.not_eq_true, Bool.not_eq_false, Option.isNone_none, Option.isNone_some, Option.isSome_none, Option.isSome_some, ne_eq, Decidable.not_not] at hb1_3
         obtain ⟨f, ks, rfl⟩ := nm_c hb1_3
         refine WL.skip rfl rfl rfl ?_
         refine WL.skip rfl rfl rfl ?_
         refine WL.skip rfl rfl rfl ?_
         refine WL.skip rfl rfl rfl ?_
         refine WL.skip rfl rfl rfl ?_
         refine WL.val rfl rfl rfl rfl (r_pickF rfl (ev_t rfl) ev_c) ?_
         refine WL.nil ?_
         refine WX.keep [(0, _), (3, _), (15, _)] ⟨rfl, rfl, rfl, trivial⟩ ?_
         refine WX.next ?_
         refine WC.cond_false rfl (ev_t rfl) ?_
         refine WC.skip ?_
         refine WX.meet [(0, _), (3, _)] ⟨rfl, rfl, trivial⟩ ?_
         first
           | (have e : nubA l (topv (.c f ks)) = l := rfl; rw [e]; exact ⟨G0, _, _, hU, by omega, fun k hk => ⟨⟨by have := hG0' k hk; omega, by have := hG0' k hk; omega⟩, .inl (hG0' k hk).1⟩, ho, hB1, hr, hks, rfl⟩)
           | (rw [hnub]; exact ⟨G0, _, _, hU, by omega, fun k hk => ⟨⟨by have := hG0' k hk; omega, by have := hG0' k hk; omega⟩, .inl (hG0' k hk).1⟩, ho, hB1, hr, hks, rfl⟩)
           | (rw [hnub, List.length_append, List.map_append]; exact ⟨_, _, _, hU, by omega, fun k hk => (by rcases hk with hk | hk; have := hG0' k hk; exact ⟨⟨by omega, by omega⟩, .inl this.1⟩; exact ⟨⟨by omega, by omega⟩, .inr (by omega)⟩), ho, hB1, hr, hks, rfl⟩)
    · clear hU hr hks ho hB1
      rintro E wA ⟨G1, A1, c1, hU, hsz1, hG1, ho, hB1, hr, hks, rfl⟩
      refine WC.seq ?_
      refine WC.seq ?_
      refine WC.region ?_
      refine WL.val rfl rfl rfl rfl (r_assign rfl ev_c) ?_
      refine WL.nil ?_
      refine WX.keep [(0, _), (3, _), (5, _)] ⟨rfl, rfl, rfl, trivial⟩ ?_
      refine WX.next ?_
      refine WC.block ?_
      -- loop 1: live [0, 3, 5]
      refine WC.keep [(0, _), (3, _), (5, _)] ⟨rfl, rfl, rfl, trivial⟩ ?_
      refine WC.loop (fun q E wB => ∃ (i : Nat) (G1 : Nat → Prop) (A1 : Option Addr) (c1 : Nat) (lc : List Int), i ≤ t.kids.length ∧ q = t.kids.length - i ∧ lc = nubA l (topv t ++ ((t.kids.take i).map vars).flatten) ∧ Upd G w wB ∧ w.heap.size < wB.heap.size ∧ (∀ k, G1 k → (k < wB.heap.size ∧ k ≠ w.heap.size) ∧ (G k ∨ w.heap.size ≤ k)) ∧ Own wB G1 3 1 (.slice A1 lc.length c1) lc.length (lc.map I6) ∧ Blk wB w.heap.size #[.string ⟨t.nm.toArray⟩, .int .i64 m, .slice A0 t.kids.length k0] typ ∧ Rd wB (fun k => F k ∧ k < w.heap.size) (.slice A0 t.kids.length k0) t.kids.length 3 (xk.flatMap c3) ∧ TVs wB (fun k => F k ∧ k < w.heap.size) xk t.kids ∧   E = [(0, .slice A1 lc.length c1), (3, .pointer (some ⟨w.heap.size, 0, none⟩)), (5, .int .i64 (i : Int))]) (t.kids.length) ?_ ?_
      · exact ⟨0, G1, A1, c1, _, by omega, by omega, by rw [List.take_zero]; simp, hU, hsz1, hG1, ho, hB1, hr, hks, rfl⟩
      · clear hU hr hks ho hB1 hG1
        rintro q E wB ⟨i, G1, A1, c1, lc, hi, rfl, hlc, hU, hsz1, hG1, ho, hB1, hr, hks, rfl⟩
        refine WC.seq ?_
        refine WC.seq ?_
        refine WC.region ?_
        refine WL.val rfl rfl rfl rfl (r_move rfl (ev_t rfl)) ?_
        first | refine WL.val rfl rfl rfl rfl (r_field0 rfl (ev_t rfl) fld_28_2) ?_ | refine WL.val rfl rfl rfl rfl (r_fieldAt rfl (ev_t rfl) fld_28_2) ?_
        refine WL.val rfl rfl rfl rfl (r_load rfl (ev_t rfl) flat_26 (Blk.cell hB1 rfl)) ?_
        refine WL.val rfl rfl rfl rfl (r_lenSlice (ts := #[]) rfl (ev_t rfl) elem_26) ?_
        refine WL.val rfl rfl rfl rfl (r_lss rfl (ev_t rfl) (ev_t rfl)) ?_
        refine WL.nil ?_
        refine WX.keep [(0, _), (3, _), (5, _), (25, _)] ⟨rfl, rfl, rfl, rfl, trivial⟩ ?_
        refine WX.next ?_
        refine WC.cond rfl (ev_t rfl) (fun hc4 => ?_) (fun hc4 => ?_)
        · try (exfalso; first | (simp at hc4; done) | (simp only [decide_eq_true_eq, decide_eq_false_iff_not, Bool.not_eq_true', Bool.not_eq_false', Bool.not_eq_true, Bool.not_eq_false] at hc4; omega) | omega)
          all_goals
           try simp only [decide_eq_true_eq, decide_eq_false_iff_not, Bool.not_eq_true', Bool.not_eq_false', Bool.not_eq_true, Bool.not_eq_false, Option.isNone_none, Option.isNone_some, Option.isSome_none, Option.isSome_some, ne_eq, Decidable.not_not] at hc4
           have hi' : i < t.kids.length := by omega
           obtain ⟨b0, off, rfl, _⟩ := hr.open (by omega)
           have hlx : i < xk.length := by have := hks.1; omega
           have hxi : xk[i]? = some xk[i] := List.getElem?_eq_getElem hlx
           have hki : t.kids[i]? = some t.kids[i] := List.getElem?_eq_getElem hi'
           have htk := hks.2 i _ _ hxi hki
           have hfs := take_flat_succ hi'
           have hfl := flat_len_le hi'
           have hkl : sz t.kids[i] < sz t := by
             cases t with
             | v x => simp [Ty.kids] at hi'
             | c f ks => exact sz_kid (n := f) (List.getElem_mem hi')
           have hll := (nubA_len (topv t ++ ((t.kids.take i).map vars).flatten) l).2
           rw [← hlc] at hll
           generalize xk[i] = ck at *
           generalize t.kids[i] = kk at *
           obtain ⟨ca, cb, cc⟩ := ck
           have hvl : (vars t).length = (topv t).length + ((t.kids.map vars).flatten).length := by rw [hvt, List.length_append]
           rw [List.length_append] at hll
           refine WC.skip ?_
           refine WX.next ?_
           refine WC.seq ?_
           refine WC.block ?_
           refine WC.region ?_
           refine WL.val rfl rfl rfl rfl (r_move rfl (ev_t rfl)) ?_
           first | refine WL.val rfl rfl rfl rfl (r_field0 rfl (ev_t rfl) fld_28_2) ?_ | refine WL.val rfl rfl rfl rfl (r_fieldAt rfl (ev_t rfl) fld_28_2) ?_
           refine WL.val rfl rfl rfl rfl (r_load rfl (ev_t rfl) flat_26 (Blk.cell hB1 rfl)) ?_
           refine WL.val rfl rfl rfl rfl (r_move rfl (ev_t rfl)) ?_
           refine WL.val rfl rfl rfl rfl (r_indexAddr rfl (ev_t rfl) (ev_t rfl) elem_26 size_28 (by omega) (by omega)) ?_
           refine WL.val rfl rfl rfl rfl (r_loadAgg (vs := [_, _, _]) rfl (ev_t rfl) agg_28 size_28 (kid_cells hr hxi rfl)) ?_
           refine WL.cons (SO.call (ih _ G1 _ lc _ _ _ _ _ kk (by omega) ho htk (fun k hk hg => by rcases (hG1 k hg).2 with h | h; exact hFG k hk.1 h; have := hk.2; omega) (by omega)) rfl body_45 ⟨(ev_t rfl), (ev_t rfl), trivial⟩ rfl rfl rfl rfl ?_)
           rintro v w5 ⟨A2, c2, rfl, ho2, hu5⟩
           have hs8 := hu5.size
           have hs5 := hu5.size
           replace hU := hU.trans hu5 (by first | exact (fun _ _ h => h) | exact (fun _ _ h => h.elim) | (intro k hl hk; (try simp only [At, New, Grow, From, No] at hk ⊢); omega) | (intro k hl hk; first | (exact (hG1 k hk).2.elim (fun h => h) (fun h => (by omega))) | exact (hG0' k hk).1))
           replace hr := hr.upd hu5 (fun k hk hl hS => by first | exact (show False from hS).elim | (simp only [At] at hS; omega) | exact hFG k hk.1 (hG0' k hS).1 | (rcases (hG1 k hS).2 with h | h; exact hFG k hk.1 h; have := hk.2; omega))
           replace hks := hks.upd hu5 (fun k hk hl hS => by first | exact (show False from hS).elim | (simp only [At] at hS; omega) | exact hFG k hk.1 (hG0' k hS).1 | (rcases (hG1 k hS).2 with h | h; exact hFG k hk.1 h; have := hk.2; omega))
           replace hB1 := hB1.upd hu5 (by first | exact (fun h => h) | (simp only [At]; omega) | (intro hS; have := hG0' _ hS; omega) | (intro hS; have := (hG1 _ hS); omega))
           refine WL.val rfl rfl rfl rfl (r_assign rfl (ev_t rfl)) ?_
           refine WL.nil ?_
           refine WX.keep [(0, _), (3, _), (5, _)] ⟨rfl, rfl, rfl, trivial⟩ ?_
           refine WX.blockNormal ?_
           refine WX.next ?_
           refine WC.region ?_
           refine WL.val rfl rfl rfl rfl (r_move rfl (ev_t rfl)) ?_
           first | refine WL.val rfl rfl rfl rfl (r_addN rfl (ev_t rfl) ev_c (by simp only [inK]; omega)) ?_ | refine WL.val rfl rfl rfl rfl (r_add rfl (ev_t rfl) ev_c) ?_
           refine WL.val rfl rfl rfl rfl (r_assign rfl (ev_t rfl)) ?_
           refine WL.nil ?_
           refine WX.keep [(0, _), (3, _), (5, _)] ⟨rfl, rfl, rfl, trivial⟩ ?_
           refine WX.meet [(0, _), (3, _), (5, _)] ⟨rfl, rfl, rfl, trivial⟩ ?_
           refine ⟨t.kids.length - (i + 1), by omega, i + 1, _, _, _, _, by omega, rfl, ?_, hU, by omega, fun k hk => ?_, ho2, hB1, hr, hks, by simp⟩
           · rw [hfs, ← List.append_assoc, nubA_append, ← hlc]
           · rcases hk with hk | hk
             · have := hG1 k hk; exact ⟨⟨by omega, this.1.2⟩, this.2⟩
             · exact ⟨⟨by omega, by omega⟩, .inr (by omega)⟩
        · try (exfalso; first | (simp at hc4; done) | (simp only [decide_eq_true_eq, decide_eq_false_iff_not, Bool.not_eq_true', Bool.not_eq_false', Bool.not_eq_true, Bool.not_eq_false] at hc4; omega) | omega)
          all_goals
           try simp only [decide_eq_true_eq, decide_eq_false_iff_not, Bool.not_eq_true', Bool.not_eq_false', Bool.not_eq_true, Bool.not_eq_false, Option.isNone_none, Option.isNone_some, Option.isSome_none, Option.isSome_some, ne_eq, Decidable.not_not] at hc4
           refine WC.exit ?_
           refine WX.thenExit ?_
           refine WX.thenExit ?_
           refine WX.blockHere ?_
           refine WX.next ?_
           refine WC.seq ?_
           refine WC.region ?_
           refine WL.val rfl rfl rfl rfl (r_move rfl (ev_t rfl)) ?_
           refine WL.val rfl rfl rfl rfl (r_assign rfl (ev_t rfl)) ?_
           refine WL.nil ?_
           refine WX.keep [(4, _)] ⟨rfl, trivial⟩ ?_
           refine WX.next ?_
           refine WC.ret ?_
           refine WX.retE1 rfl rfl ?_
           obtain rfl : i = t.kids.length := by omega
           rw [List.take_of_length_le (Nat.le_refl _), ← hvt] at hlc
           subst hlc
           exact ⟨_, _, rfl, ho.mono fun k hk => by have := hG1 k hk; rcases this.2 with h | h; exact .inl h; exact .inr ⟨h, this.1.1⟩, hU⟩
end Go.Proofs.Ytncakfcafkfmfaa

/-
  types: the reference's substitution in memory; Head, Size; the package's Size.
-/
namespace Go.Proofs.Ytncakfcafkfmfaa
open Go
set_option linter.unusedSimpArgs false
set_option linter.unusedVariables false

theorem get_ex {α : Type} {l : List α} {i : Nat} (h : i < l.length) : ∃ a, l[i]? = some a := ⟨_, List.getElem?_eq_getElem h⟩
theorem look_at : ∀ {σ : Sg} {i : Nat} {x : Int} {u : Ty}, (σ.map (·.1))[i]? = some x → (∀ j, j < i → (σ.map (·.1))[j]? ≠ some x) → (σ.map (·.2))[i]? = some u → look σ x = some u
  | [], i, x, u, h, _, _ => by simp at h
  | (k, t) :: σ, 0, x, u, h, _, h2 => by
    simp at h h2
    subst h h2
    simp [look]
  | (k, t) :: σ, i + 1, x, u, h, hn, h2 => by
    have hk : ¬ k = x := fun e => hn 0 (by omega) (by simp [e])
    simp only [look, hk, if_false]
    exact look_at (i := i) (by simpa using h) (fun j hj => by have := hn (j + 1) (by omega); simpa using this) (by simpa using h2)
theorem look_no : ∀ {σ : Sg} {x : Int}, (∀ j, j < σ.length → (σ.map (·.1))[j]? ≠ some x) → look σ x = none
  | [], x, _ => rfl
  | (k, t) :: σ, x, hn => by
    have hk : ¬ k = x := fun e => hn 0 (by simp) (by simp [e])
    simp only [look, hk, if_false]
    exact look_no fun j hj => by have := hn (j + 1) (by simp; omega); simpa using this

def pr2 (p : Int × Int) : List Value := [.int .i64 p.1, .int .i64 p.2]
theorem pr2_len (p : Int × Int) : (pr2 p).length = 2 := rfl
/-- the reference's substitution in memory -/
structure IsRf (w : World) (F Gv Go Gd : Nat → Prop) (p : Nat) (σ : Sg) (D : Dn) (nn : Int) (xs : List C3) (Av Ao Ad : Option Addr) (cv co cd : Nat) : Prop where
  hd : Blk w p #[.int .i64 nn, .slice Av σ.length cv, .slice Ao σ.length co, .slice Ad D.length cd] 46
  vs : Own w Gv 3 1 (.slice Av σ.length cv) σ.length ((σ.map (·.1)).map I6)
  of_ : Own w Go typ 3 (.slice Ao σ.length co) σ.length (xs.flatMap c3)
  dn : Own w Gd 60 2 (.slice Ad D.length cd) D.length (D.flatMap pr2)
  tv : TVs w F xs (σ.map (·.2))
  le : σ.length ≤ 1000000000 ∧ D.length ≤ 1000000000
section
variable {w w' : World} {F F' Gv Go Gd S : Nat → Prop} {p : Nat} {σ : Sg} {D : Dn} {nn : Int} {xs : List C3} {Av Ao Ad : Option Addr} {cv co cd : Nat}
theorem IsRf.upd (h : IsRf w F Gv Go Gd p σ D nn xs Av Ao Ad cv co cd) (hu : Upd S w w') (hp : ¬ S p) (hn : ∀ k, F k ∨ Gv k ∨ Go k ∨ Gd k → k < w.heap.size → ¬ S k) : IsRf w' F Gv Go Gd p σ D nn xs Av Ao Ad cv co cd :=
  ⟨h.hd.upd hu hp, h.vs.upd hu fun k hk => hn k (.inr (.inl hk)), h.of_.upd hu fun k hk => hn k (.inr (.inr (.inl hk))), h.dn.upd hu fun k hk => hn k (.inr (.inr (.inr hk))), h.tv.upd hu fun k hk => hn k (.inl hk), h.le⟩
theorem IsRf.updN (h : IsRf w F Gv Go Gd p σ D nn xs Av Ao Ad cv co cd) (hu : Upd No w w') : IsRf w' F Gv Go Gd p σ D nn xs Av Ao Ad cv co cd := h.upd hu (fun h => h) fun _ _ _ h => h
theorem IsRf.mono (h : IsRf w F Gv Go Gd p σ D nn xs Av Ao Ad cv co cd) (hF : ∀ k, F k → F' k) : IsRf w F' Gv Go Gd p σ D nn xs Av Ao Ad cv co cd := { h with tv := h.tv.mono hF }
theorem IsRf.bound (h : IsRf w F Gv Go Gd p σ D nn xs Av Ao Ad cv co cd) : IsRf w (fun k => F k ∧ k < w.heap.size) Gv Go Gd p σ D nn xs Av Ao Ad cv co cd := { h with tv := h.tv.bound }
theorem IsRf.tlen (h : IsRf w F Gv Go Gd p σ D nn xs Av Ao Ad cv co cd) : xs.length = σ.length := by have := h.tv.1; simpa using this
end

set_option maxHeartbeats 2000000 in
theorem rhead_ok {Gv Go Gd : Nat → Prop} {p : Nat} {σ : Sg} {D : Dn} {nn : Int} {xs : List C3} {Av Ao Ad : Option Addr} {cv co cd : Nat} : ∀ (n : Nat) (F : Nat → Prop) (w : World) (a b c : Value) (t h : Ty), IsRf w F Gv Go Gd p σ D nn xs Av Ao Ad cv co cd → TV w F (a, b, c) t → hdF σ n t = some h →
    Ret Try.prog 34 #[.pointer (some ⟨p, 0, none⟩), .agg #[a, b, c]] w fun v w' => ∃ a' b' c', v = .agg #[a', b', c'] ∧ TV w' F (a', b', c') h ∧ Upd No w w' := by
  intro n
  induction n with
  | zero =>
    intro F w a b c t h hI ht hh
    replace hI := hI.bound
    replace ht := ht.bound
    have hhd := hI.hd
    have hrv := hI.vs.rd (by have := hI.le; omega)
    obtain ⟨m, A0, k0, xk, rfl, rfl, rfl, hm, hr, hl, hb, hk⟩ := ht.open
    refine enterRet (vs := [_, _]) (N := 40) Try.func34 rfl rfl rfl ?_
    have hU := Upd.refl No w
    refine WC.keep [(0, _), (1, _)] ⟨rfl, rfl, trivial⟩ ?_
    refine WC.seq ?_
    refine WC.region ?_
    refine WL.cons (SO.alloc rfl rfl rfl rfl (r_boxAgg rfl (ev_t rfl)) ?_)
    intro w1 hu1 hB1 hz1
    have hs1 := hu1.size
    replace hU := hU.transA hu1
    refine WL.cons (SO.alloc rfl rfl rfl rfl (r_alloc rfl zero_28) ?_)
    intro w2 hu2 hB2 hz2
    have hs2 := hu2.size
    replace hU := hU.transA hu2
    replace hB1 := hB1.updA hu2
    refine WL.nil ?_
    refine WX.keep [(0, _), (3, _), (4, _)] ⟨rfl, rfl, rfl, trivial⟩ ?_
    refine WX.next ?_
    refine WC.seq ?_
    refine WC.seq ?_
    refine WC.region ?_
    refine WL.val rfl rfl rfl rfl (r_assign rfl ev_c) ?_
    refine WL.nil ?_
    refine WX.keep [(0, _), (3, _), (4, _), (5, _)] ⟨rfl, rfl, rfl, rfl, trivial⟩ ?_
    refine WX.next ?_
    refine WC.block ?_
    -- loop 1: live [0, 3, 4, 5]
    refine WC.keep [(0, _), (3, _), (4, _), (5, _)] ⟨rfl, rfl, rfl, rfl, trivial⟩ ?_
    refine WC.loop (fun q E w' => ∃ (i : Nat), i ≤ σ.length ∧ q = σ.length - i ∧ Upd No w w' ∧ w.heap.size + 2 ≤ w'.heap.size ∧ Blk w' w.heap.size #[.string ⟨t.nm.toArray⟩, .int .i64 m, .slice A0 t.kids.length k0] typ ∧ Blk w' w1.heap.size #[.string ⟨#[]⟩, .int .i64 0, .slice none 0 0] typ ∧ (∀ x, t = .v x → ∀ j, j < i → (σ.map (·.1))[j]? ≠ some x) ∧   E = [(0, .pointer (some ⟨p, 0, none⟩)), (3, .pointer (some ⟨w.heap.size, 0, none⟩)), (4, .pointer (some ⟨w1.heap.size, 0, none⟩)), (5, .int .i64 (i : Int))]) (σ.length) ?_ ?_
    · exact ⟨0, by omega, by omega, hU, by omega, hB1, hB2, fun x _ j h => by omega, rfl⟩
    · clear hU hB1 hB2
      rintro q E w' ⟨i, hi, rfl, hU, hws, hB1, hB2, hno, rfl⟩
      have hle := hI.le
      refine WC.seq ?_
      refine WC.seq ?_
      refine WC.region ?_
      refine WL.val rfl rfl rfl rfl (r_move rfl (ev_t rfl)) ?_
      refine WL.val rfl rfl rfl rfl (r_move rfl (ev_t rfl)) ?_
      refine WL.val rfl rfl rfl rfl (r_nilCheck rfl (ev_t rfl)) ?_
      first | refine WL.val rfl rfl rfl rfl (r_field0 rfl (ev_t rfl) fld_46_1) ?_ | refine WL.val rfl rfl rfl rfl (r_fieldAt rfl (ev_t rfl) fld_46_1) ?_
      refine WL.val rfl rfl rfl rfl (r_load rfl (ev_t rfl) flat_33 (Blk.cell (hhd.upd hU (fun h => h)) rfl)) ?_
      refine WL.val rfl rfl rfl rfl (r_lenSlice (ts := #[]) rfl (ev_t rfl) elem_33) ?_
      refine WL.val rfl rfl rfl rfl (r_lss rfl (ev_t rfl) (ev_t rfl)) ?_
      refine WL.nil ?_
      refine WX.keep [(0, _), (3, _), (4, _), (5, _), (12, _)] ⟨rfl, rfl, rfl, rfl, rfl, trivial⟩ ?_
      refine WX.next ?_
      refine WC.cond rfl (ev_t rfl) (fun hc2 => ?_) (fun hc2 => ?_)
      · try (exfalso; first | (simp at hc2; done) | (simp only [decide_eq_true_eq, decide_eq_false_iff_not, Bool.not_eq_true', Bool.not_eq_false', Bool.not_eq_true, Bool.not_eq_false] at hc2; omega) | omega)
        all_goals
         try simp only [decide_eq_true_eq, decide_eq_false_iff_not, Bool.not_eq_true', Bool.not_eq_false', Bool.not_eq_true, Bool.not_eq_false, Option.isNone_none, Option.isNone_some, Option.isSome_none, Option.isSome_some, ne_eq, Decidable.not_not] at hc2
         have hi' : i < σ.length := by omega
         obtain ⟨bv0, offv, hAv, _⟩ := (show Rd w Gv (.slice Av σ.length cv) σ.length 1 ((σ.map (·.1)).map I6) from hrv).open (by omega)
         subst hAv
         obtain ⟨ki, hki⟩ := get_ex (l := σ.map (·.1)) (i := i) (by simpa using hi')
         refine WC.skip ?_
         refine WX.next ?_
         refine WC.seq ?_
         refine WC.block ?_
         refine WC.seq ?_
         refine WC.draws' (fun u0_ u1_ => Upd No u0_ u1_) (fun j => [0, 1, 0, 0, 0, 0, 0, 0, 0, 0, 0, 0, 1, 0, 0].getD j 0) (.calm 0 (.one 1 (.calm 2 (.calm 3 (.calm 4 (.calm 5 (.calm 6 (.calm 8 (.calm 11 (.held 7 (.calm 9 (.held 10 (.one 12 (.calm 13 (.calm 14 (.done)))))))))))))))) mixed (by kernel_rfl) (by repeat (first | with_reducible exact Deaf.body | with_reducible apply Deaf.then | with_reducible apply Deaf.block)) ?_
         intro w3 hu3
         have hz3 := congrArg Array.size hu3.2.2.2
         replace hu3 := Upd.of_draw hu3
         have hs3 := hu3.size
         replace hU := hU.transA hu3
         replace hB1 := hB1.updA hu3
         replace hB2 := hB2.upd hu3 (by first | exact (fun h => h) | (simp only [At]; omega))
         have hS4 := Upd.refl No w3
         first | refine WN.calm _ rfl rfl rfl rfl rfl (fun _ => r_field0 rfl (ev_t rfl) fld_28_0) ?_ | refine WN.calm _ rfl rfl rfl rfl rfl (fun _ => r_fieldAt rfl (ev_t rfl) fld_28_0) ?_
         refine WN.step _ rfl (SO.val rfl rfl rfl rfl (r_load rfl (ev_t rfl) flat_9 (Blk.cell hB1 rfl)) ?_)
         refine ⟨hS4, ?_⟩
         refine WN.calm _ rfl rfl rfl rfl rfl (fun _ => r_eqlStrL rfl (ev_t rfl) ev_c) ?_
         refine WN.calm _ rfl rfl rfl rfl rfl (fun _ => r_move rfl (ev_t rfl)) ?_
         refine WN.cases 18 rfl (fun hb4_3 => ?_) (fun hb4_3 => ?_)
         · try (exfalso; first | (simp at hb4_3; done) | (simp only [decide_eq_true_eq, decide_eq_false_iff_not, Bool.not_eq_true', Bool.not_eq_false', Bool.not_eq_true, Bool.not_eq_false] at hb4_3; omega) | omega)
           all_goals
            try simp only [decide_eq_true_eq, decide_eq_false_iff_not, Bool.not_eq_true', Bool.not_eq_false', Bool.not_eq_true, Bool.not_eq_false, Option.isNone_none, Option.isNone_some, Option.isSome_none, Option.isSome_some, ne_eq, Decidable.not_not] at hb4_3
            obtain ⟨x, rfl⟩ := Ty.nm_nil.1 hb4_3
            obtain rfl := (hm x rfl).symm
            refine WN.calm _ rfl rfl rfl rfl rfl (fun _ => r_move rfl (ev_t rfl)) ?_
            refine WN.calm _ rfl rfl rfl rfl rfl (fun _ => r_nilCheck rfl (ev_t rfl)) ?_
            first | refine WN.calm _ rfl rfl rfl rfl rfl (fun _ => r_field0 rfl (ev_t rfl) fld_46_1) ?_ | refine WN.calm _ rfl rfl rfl rfl rfl (fun _ => r_fieldAt rfl (ev_t rfl) fld_46_1) ?_
            refine WN.calm _ rfl rfl rfl rfl rfl (fun _ => r_move rfl (ev_t rfl)) ?_
            first | refine WN.calm _ rfl rfl rfl rfl rfl (fun _ => r_field0 rfl (ev_t rfl) fld_28_1) ?_ | refine WN.calm _ rfl rfl rfl rfl rfl (fun _ => r_fieldAt rfl (ev_t rfl) fld_28_1) ?_
            refine WN.held _ rfl rfl rfl rfl rfl hS4 (fun w' hS => r_load rfl (ev_t rfl) flat_33 (Blk.cell ((hhd.upd hU (fun h => h)).upd hS (fun h => h)) rfl)) ?_
            refine WN.calm _ rfl rfl rfl rfl rfl (fun _ => r_indexAddr rfl (ev_t rfl) (ev_t rfl) elem_33 size_3 (by omega) (by omega)) ?_
            refine WN.held _ rfl rfl rfl rfl rfl hS4 (fun w' hS => r_load rfl (ev_t rfl) flat_3 (Rd.cell ((hrv.upd hU (fun _ _ _ h => h)).upd hS (fun _ _ _ h => h)) (j := i) (u := I6 ki) (by omega) (by rw [List.getElem?_map, hki]; rfl))) ?_
            refine WN.step _ rfl (SO.val rfl rfl rfl rfl (r_load rfl (ev_t rfl) flat_3 (Blk.cell hB1 rfl)) ?_)
            refine ⟨hS4, ?_⟩
            refine WN.calm _ rfl rfl rfl rfl rfl (fun _ => r_eql rfl (ev_t rfl) (ev_t rfl)) ?_
            refine WN.calm _ rfl rfl rfl rfl rfl (fun _ => r_pickT rfl (ev_t rfl) (ev_t rfl)) ?_
            refine WN.done ?_
            refine WX.keep [(0, _), (3, _), (4, _), (5, _), (29, _)] ⟨rfl, rfl, rfl, rfl, rfl, trivial⟩ ?_
            refine WX.next ?_
            refine WC.cond rfl (ev_t rfl) (fun hc4 => ?_) (fun hc4 => ?_)
            · try simp only [decide_eq_true_eq, decide_eq_false_iff_not, Bool.not_eq_true', Bool.not_eq_false', Bool.not_eq_true, Bool.not_eq_false, Option.isNone_none, Option.isNone_some, Option.isSome_none, Option.isSome_some, ne_eq, Decidable.not_not] at hc4
              exfalso
              obtain rfl : ki = x := by simpa using hc4
              obtain ⟨ui, hui⟩ := get_ex (l := σ.map (·.2)) (i := i) (by simpa using hi')
              have := look_at hki (hno _ rfl) hui
              simp [hdF, this] at hh
            · try (exfalso; first | (simp at hc4; done) | (simp only [decide_eq_true_eq, decide_eq_false_iff_not, Bool.not_eq_true', Bool.not_eq_false', Bool.not_eq_true, Bool.not_eq_false] at hc4; omega) | omega)
              all_goals
               try simp only [decide_eq_true_eq, decide_eq_false_iff_not, Bool.not_eq_true', Bool.not_eq_false', Bool.not_eq_true, Bool.not_eq_false, Option.isNone_none, Option.isNone_some, Option.isSome_none, Option.isSome_some, ne_eq, Decidable.not_not] at hc4
               refine WC.skip ?_
               refine WX.blockNormal ?_
               refine WX.next ?_
               refine WC.region ?_
               refine WL.val rfl rfl rfl rfl (r_move rfl (ev_t rfl)) ?_
               first | refine WL.val rfl rfl rfl rfl (r_addN rfl (ev_t rfl) ev_c (by simp only [inK]; omega)) ?_ | refine WL.val rfl rfl rfl rfl (r_add rfl (ev_t rfl) ev_c) ?_
               refine WL.val rfl rfl rfl rfl (r_assign rfl (ev_t rfl)) ?_
               refine WL.nil ?_
               refine WX.keep [(0, _), (3, _), (4, _), (5, _)] ⟨rfl, rfl, rfl, rfl, trivial⟩ ?_
               refine WX.meet [(0, _), (3, _), (4, _), (5, _)] ⟨rfl, rfl, rfl, rfl, trivial⟩ ?_
               refine ⟨σ.length - (i + 1), by omega, i + 1, by omega, rfl, hU, by omega, hB1, hB2, fun x hx j hj => ?_, by simp⟩
               rcases Nat.lt_or_ge j i with h | h
               · exact hno x hx j h
               · obtain rfl : j = i := by omega
                 rw [hki]
                 intro e
                 injection e with e
                 first
                   | (injection hx with hx; subst hx; exact absurd hc4 (by simp [e]))
                   | (subst hx; exact absurd rfl hb4_3)
         · try (exfalso; first | (simp at hb4_3; done) | (simp only [decide_eq_true_eq, decide_eq_false_iff_not, Bool.not_eq_true', Bool.not_eq_false', Bool.not_eq_true, Bool.not_eq_false] at hb4_3; omega) | omega)
           all_goals
            try simp only [decide_eq_true_eq, decide_eq_false_iff_not, Bool.not_eq_true', Bool.not_eq_false', Bool.not_eq_true, Bool.not_eq_false, Option.isNone_none, Option.isNone_some, Option.isSome_none, Option.isSome_some, ne_eq, Decidable.not_not] at hb4_3
            refine WN.skip _ rfl rfl rfl rfl ?_
            refine WN.skip _ rfl rfl rfl rfl ?_
            refine WN.skip _ rfl rfl rfl rfl ?_
            refine WN.skip _ rfl rfl rfl rfl ?_
            refine WN.skip _ rfl rfl rfl rfl ?_
            refine WN.heldSkip _ rfl rfl rfl rfl hS4 ?_
            refine WN.skip _ rfl rfl rfl rfl ?_
            refine WN.heldSkip _ rfl rfl rfl rfl hS4 ?_
            refine WN.step _ rfl (SO.skip rfl rfl rfl ?_)
            refine ⟨hS4, ?_⟩
            refine WN.skip _ rfl rfl rfl rfl ?_
            refine WN.calm _ rfl rfl rfl rfl rfl (fun _ => r_pickF rfl (ev_t rfl) ev_c) ?_
            refine WN.done ?_
            refine WX.keep [(0, _), (3, _), (4, _), (5, _), (29, _)] ⟨rfl, rfl, rfl, rfl, rfl, trivial⟩ ?_
            refine WX.next ?_
            refine WC.cond_false rfl (ev_t rfl) ?_
            refine WC.skip ?_
            refine WX.blockNormal ?_
            refine WX.next ?_
            refine WC.region ?_
            refine WL.val rfl rfl rfl rfl (r_move rfl (ev_t rfl)) ?_
            first | refine WL.val rfl rfl rfl rfl (r_addN rfl (ev_t rfl) ev_c (by simp only [inK]; omega)) ?_ | refine WL.val rfl rfl rfl rfl (r_add rfl (ev_t rfl) ev_c) ?_
            refine WL.val rfl rfl rfl rfl (r_assign rfl (ev_t rfl)) ?_
            refine WL.nil ?_
            refine WX.keep [(0, _), (3, _), (4, _), (5, _)] ⟨rfl, rfl, rfl, rfl, trivial⟩ ?_
            refine WX.meet [(0, _), (3, _), (4, _), (5, _)] ⟨rfl, rfl, rfl, rfl, trivial⟩ ?_
            refine ⟨σ.length - (i + 1), by omega, i + 1, by omega, rfl, hU, by omega, hB1, hB2, fun x hx j hj => ?_, by simp⟩
            rcases Nat.lt_or_ge j i with h | h
            · exact hno x hx j h
            · obtain rfl : j = i := by omega
              rw [hki]
              intro e
              injection e with e
              first
                | (injection hx with hx; subst hx; exact absurd hc4 (by simp [e]))
                | (subst hx; exact absurd rfl hb4_3)
      · try (exfalso; first | (simp at hc2; done) | (simp only [decide_eq_true_eq, decide_eq_false_iff_not, Bool.not_eq_true', Bool.not_eq_false', Bool.not_eq_true, Bool.not_eq_false] at hc2; omega) | omega)
        all_goals
         try simp only [decide_eq_true_eq, decide_eq_false_iff_not, Bool.not_eq_true', Bool.not_eq_false', Bool.not_eq_true, Bool.not_eq_false, Option.isNone_none, Option.isNone_some, Option.isSome_none, Option.isSome_some, ne_eq, Decidable.not_not] at hc2
         obtain rfl : i = σ.length := by omega
         refine WC.exit ?_
         refine WX.thenExit ?_
         refine WX.thenExit ?_
         refine WX.blockHere ?_
         refine WX.next ?_
         refine WC.seq ?_
         refine WC.region ?_
         refine WL.val rfl rfl rfl rfl (r_loadAgg (vs := [_, _, _]) rfl (ev_t rfl) agg_28 size_28 (Blk.cellsL hB1)) ?_
         refine WL.cons (SO.storeAll (us := [_, _, _]) rfl (ev_t rfl) (ev_t rfl) size_28 hB2 rfl rfl rfl rfl rfl ?_)
         intro w4 hu4 hB2 hz4
         have hs4 := hu4.size
         replace hU := hU.transA hu4
         replace hB1 := hB1.updA hu4
         refine WL.nil ?_
         refine WX.keep [(4, _)] ⟨rfl, trivial⟩ ?_
         refine WX.next ?_
         refine WC.ret ?_
         refine WX.retC (vs := [_, _, _]) rfl rfl agg_28 size_28 (Blk.cellsL hB2) ?_
         have e : h = t := by
           cases t with
           | v x => exact hd_none (look_no (hno x rfl)) hh
           | c f ks => exact hd_con f.2 hh
         subst e
         exact ⟨_, _, _, rfl, (ht.upd hU (fun _ _ _ h => h)).mono fun k hk => hk.1, hU⟩
  | succ n ih =>
    intro F w a b c t h hI ht hh
    replace hI := hI.bound
    replace ht := ht.bound
    have hhd := hI.hd
    have hrv := hI.vs.rd (by have := hI.le; omega)
    have hro := hI.of_.rd (by have := hI.le; omega)
    have htv := hI.tv
    obtain ⟨m, A0, k0, xk, rfl, rfl, rfl, hm, hr, hl, hb, hk⟩ := ht.open
    refine enterRet (vs := [_, _]) (N := 40) Try.func34 rfl rfl rfl ?_
    have hU := Upd.refl No w
    refine WC.keep [(0, _), (1, _)] ⟨rfl, rfl, trivial⟩ ?_
    refine WC.seq ?_
    refine WC.region ?_
    refine WL.cons (SO.alloc rfl rfl rfl rfl (r_boxAgg rfl (ev_t rfl)) ?_)
    intro w1 hu1 hB1 hz1
    have hs1 := hu1.size
    replace hU := hU.transA hu1
    refine WL.cons (SO.alloc rfl rfl rfl rfl (r_alloc rfl zero_28) ?_)
    intro w2 hu2 hB2 hz2
    have hs2 := hu2.size
    replace hU := hU.transA hu2
    replace hB1 := hB1.updA hu2
    refine WL.nil ?_
    refine WX.keep [(0, _), (3, _), (4, _)] ⟨rfl, rfl, rfl, trivial⟩ ?_
    refine WX.next ?_
    refine WC.seq ?_
    refine WC.seq ?_
    refine WC.region ?_
    refine WL.val rfl rfl rfl rfl (r_assign rfl ev_c) ?_
    refine WL.nil ?_
    refine WX.keep [(0, _), (3, _), (4, _), (5, _)] ⟨rfl, rfl, rfl, rfl, trivial⟩ ?_
    refine WX.next ?_
    refine WC.block ?_
    -- loop 1: live [0, 3, 4, 5]
    refine WC.keep [(0, _), (3, _), (4, _), (5, _)] ⟨rfl, rfl, rfl, rfl, trivial⟩ ?_
    refine WC.loop (fun q E w' => ∃ (i : Nat), i ≤ σ.length ∧ q = σ.length - i ∧ Upd No w w' ∧ w.heap.size + 2 ≤ w'.heap.size ∧ Blk w' w.heap.size #[.string ⟨t.nm.toArray⟩, .int .i64 m, .slice A0 t.kids.length k0] typ ∧ Blk w' w1.heap.size #[.string ⟨#[]⟩, .int .i64 0, .slice none 0 0] typ ∧ (∀ x, t = .v x → ∀ j, j < i → (σ.map (·.1))[j]? ≠ some x) ∧   E = [(0, .pointer (some ⟨p, 0, none⟩)), (3, .pointer (some ⟨w.heap.size, 0, none⟩)), (4, .pointer (some ⟨w1.heap.size, 0, none⟩)), (5, .int .i64 (i : Int))]) (σ.length) ?_ ?_
    · exact ⟨0, by omega, by omega, hU, by omega, hB1, hB2, fun x _ j h => by omega, rfl⟩
    · clear hU hB1 hB2
      rintro q E w' ⟨i, hi, rfl, hU, hws, hB1, hB2, hno, rfl⟩
      have hle := hI.le
      refine WC.seq ?_
      refine WC.seq ?_
      refine WC.region ?_
      refine WL.val rfl rfl rfl rfl (r_move rfl (ev_t rfl)) ?_
      refine WL.val rfl rfl rfl rfl (r_move rfl (ev_t rfl)) ?_
      refine WL.val rfl rfl rfl rfl (r_nilCheck rfl (ev_t rfl)) ?_
      first | refine WL.val rfl rfl rfl rfl (r_field0 rfl (ev_t rfl) fld_46_1) ?_ | refine WL.val rfl rfl rfl rfl (r_fieldAt rfl (ev_t rfl) fld_46_1) ?_
      refine WL.val rfl rfl rfl rfl (r_load rfl (ev_t rfl) flat_33 (Blk.cell (hhd.upd hU (fun h => h)) rfl)) ?_
      refine WL.val rfl rfl rfl rfl (r_lenSlice (ts := #[]) rfl (ev_t rfl) elem_33) ?_
      refine WL.val rfl rfl rfl rfl (r_lss rfl (ev_t rfl) (ev_t rfl)) ?_
      refine WL.nil ?_
      refine WX.keep [(0, _), (3, _), (4, _), (5, _), (12, _)] ⟨rfl, rfl, rfl, rfl, rfl, trivial⟩ ?_
      refine WX.next ?_
      refine WC.cond rfl (ev_t rfl) (fun hc2 => ?_) (fun hc2 => ?_)
      · try (exfalso; first | (simp at hc2; done) | (simp only [decide_eq_true_eq, decide_eq_false_iff_not, Bool.not_eq_true', Bool.not_eq_false', Bool.not_eq_true, Bool.not_eq_false] at hc2; omega) | omega)
        all_goals
         try simp only [decide_eq_true_eq, decide_eq_false_iff_not, Bool.not_eq_true', Bool.not_eq_false', Bool.not_eq_true, Bool.not_eq_false, Option.isNone_none, Option.isNone_some, Option.isSome_none, Option.isSome_some, ne_eq, Decidable.not_not] at hc2
         have hi' : i < σ.length := by omega
         obtain ⟨bv0, offv, hAv, _⟩ := (show Rd w Gv (.slice Av σ.length cv) σ.length 1 ((σ.map (·.1)).map I6) from hrv).open (by omega)
         subst hAv
         obtain ⟨ki, hki⟩ := get_ex (l := σ.map (·.1)) (i := i) (by simpa using hi')
         refine WC.skip ?_
         refine WX.next ?_
         refine WC.seq ?_
         refine WC.block ?_
         refine WC.seq ?_
         refine WC.draws' (fun u0_ u1_ => Upd No u0_ u1_) (fun j => [0, 1, 0, 0, 0, 0, 0, 0, 0, 0, 0, 0, 1, 0, 0].getD j 0) (.calm 0 (.one 1 (.calm 2 (.calm 3 (.calm 4 (.calm 5 (.calm 6 (.calm 8 (.calm 11 (.held 7 (.calm 9 (.held 10 (.one 12 (.calm 13 (.calm 14 (.done)))))))))))))))) mixed (by kernel_rfl) (by repeat (first | with_reducible exact Deaf.body | with_reducible apply Deaf.then | with_reducible apply Deaf.block)) ?_
         intro w3 hu3
         have hz3 := congrArg Array.size hu3.2.2.2
         replace hu3 := Upd.of_draw hu3
         have hs3 := hu3.size
         replace hU := hU.transA hu3
         replace hB1 := hB1.updA hu3
         replace hB2 := hB2.upd hu3 (by first | exact (fun h => h) | (simp only [At]; omega))
         have hS4 := Upd.refl No w3
         first | refine WN.calm _ rfl rfl rfl rfl rfl (fun _ => r_field0 rfl (ev_t rfl) fld_28_0) ?_ | refine WN.calm _ rfl rfl rfl rfl rfl (fun _ => r_fieldAt rfl (ev_t rfl) fld_28_0) ?_
         refine WN.step _ rfl (SO.val rfl rfl rfl rfl (r_load rfl (ev_t rfl) flat_9 (Blk.cell hB1 rfl)) ?_)
         refine ⟨hS4, ?_⟩
         refine WN.calm _ rfl rfl rfl rfl rfl (fun _ => r_eqlStrL rfl (ev_t rfl) ev_c) ?_
         refine WN.calm _ rfl rfl rfl rfl rfl (fun _ => r_move rfl (ev_t rfl)) ?_
         refine WN.cases 18 rfl (fun hb4_3 => ?_) (fun hb4_3 => ?_)
         · try (exfalso; first | (simp at hb4_3; done) | (simp only [decide_eq_true_eq, decide_eq_false_iff_not, Bool.not_eq_true', Bool.not_eq_false', Bool.not_eq_true, Bool.not_eq_false] at hb4_3; omega) | omega)
           all_goals
            try simp only [decide_eq_true_eq, decide_eq_false_iff_not, Bool.not_eq_true', Bool.not_eq_false', Bool.not_eq_true, Bool.not_eq_false, Option.isNone_none, Option.isNone_some, Option.isSome_none, Option.isSome_some, ne_eq, Decidable.not_not] at hb4_3
            obtain ⟨x, rfl⟩ := Ty.nm_nil.1 hb4_3
            obtain rfl := (hm x rfl).symm
            refine WN.calm _ rfl rfl rfl rfl rfl (fun _ => r_move rfl (ev_t rfl)) ?_
            refine WN.calm _ rfl rfl rfl rfl rfl (fun _ => r_nilCheck rfl (ev_t rfl)) ?_
            first | refine WN.calm _ rfl rfl rfl rfl rfl (fun _ => r_field0 rfl (ev_t rfl) fld_46_1) ?_ | refine WN.calm _ rfl rfl rfl rfl rfl (fun _ => r_fieldAt rfl (ev_t rfl) fld_46_1) ?_
            refine WN.calm _ rfl rfl rfl rfl rfl (fun _ => r_move rfl (ev_t rfl)) ?_
            first | refine WN.calm _ rfl rfl rfl rfl rfl (fun _ => r_field0 rfl (ev_t rfl) fld_28_1) ?_ | refine WN.calm _ rfl rfl rfl rfl rfl (fun _ => r_fieldAt rfl (ev_t rfl) fld_28_1) ?_
            refine WN.held _ rfl rfl rfl rfl rfl hS4 (fun w' hS => r_load rfl (ev_t rfl) flat_33 (Blk.cell ((hhd.upd hU (fun h => h)).upd hS (fun h => h)) rfl)) ?_
            refine WN.calm _ rfl rfl rfl rfl rfl (fun _ => r_indexAddr rfl (ev_t rfl) (ev_t rfl) elem_33 size_3 (by omega) (by omega)) ?_
            refine WN.held _ rfl rfl rfl rfl rfl hS4 (fun w' hS => r_load rfl (ev_t rfl) flat_3 (Rd.cell ((hrv.upd hU (fun _ _ _ h => h)).upd hS (fun _ _ _ h => h)) (j := i) (u := I6 ki) (by omega) (by rw [List.getElem?_map, hki]; rfl))) ?_
            refine WN.step _ rfl (SO.val rfl rfl rfl rfl (r_load rfl (ev_t rfl) flat_3 (Blk.cell hB1 rfl)) ?_)
            refine ⟨hS4, ?_⟩
            refine WN.calm _ rfl rfl rfl rfl rfl (fun _ => r_eql rfl (ev_t rfl) (ev_t rfl)) ?_
            refine WN.calm _ rfl rfl rfl rfl rfl (fun _ => r_pickT rfl (ev_t rfl) (ev_t rfl)) ?_
            refine WN.done ?_
            refine WX.keep [(0, _), (3, _), (4, _), (5, _), (29, _)] ⟨rfl, rfl, rfl, rfl, rfl, trivial⟩ ?_
            refine WX.next ?_
            refine WC.cond rfl (ev_t rfl) (fun hc4 => ?_) (fun hc4 => ?_)
            · try (exfalso; first | (simp at hc4; done) | (simp only [decide_eq_true_eq, decide_eq_false_iff_not, Bool.not_eq_true', Bool.not_eq_false', Bool.not_eq_true, Bool.not_eq_false] at hc4; omega) | omega)
              all_goals
               try simp only [decide_eq_true_eq, decide_eq_false_iff_not, Bool.not_eq_true', Bool.not_eq_false', Bool.not_eq_true, Bool.not_eq_false, Option.isNone_none, Option.isNone_some, Option.isSome_none, Option.isSome_some, ne_eq, Decidable.not_not] at hc4
               obtain rfl : ki = x := by simpa using hc4
               obtain ⟨bo0, offo, hAo, _⟩ := (show Rd w Go (.slice Ao σ.length co) σ.length 3 (xs.flatMap c3) from hro).open (by omega)
               subst hAo
               obtain ⟨ui, hui⟩ := get_ex (l := σ.map (·.2)) (i := i) (by simpa using hi')
               have hlk := look_at hki (hno _ rfl) hui
               have hxl : i < xs.length := by rw [hI.tlen]; exact hi'
               have hxi : xs[i]? = some xs[i] := List.getElem?_eq_getElem hxl
               have hti := htv.2 i _ _ hxi hui
               generalize xs[i] = ci at *
               obtain ⟨c1, c2, c3'⟩ := ci
               simp only [hdF, hlk] at hh
               refine WC.seq ?_
               refine WC.region ?_
               refine WL.val rfl rfl rfl rfl (r_move rfl (ev_t rfl)) ?_
               refine WL.val rfl rfl rfl rfl (r_move rfl (ev_t rfl)) ?_
               refine WL.val rfl rfl rfl rfl (r_nilCheck rfl (ev_t rfl)) ?_
               first | refine WL.val rfl rfl rfl rfl (r_field0 rfl (ev_t rfl) fld_46_2) ?_ | refine WL.val rfl rfl rfl rfl (r_fieldAt rfl (ev_t rfl) fld_46_2) ?_
               refine WL.val rfl rfl rfl rfl (r_load rfl (ev_t rfl) flat_26 (Blk.cell (hhd.upd hU (fun h => h)) rfl)) ?_
               refine WL.val rfl rfl rfl rfl (r_move rfl (ev_t rfl)) ?_
               refine WL.val rfl rfl rfl rfl (r_indexAddr rfl (ev_t rfl) (ev_t rfl) elem_26 size_28 (by omega) (by omega)) ?_
               refine WL.val rfl rfl rfl rfl (r_loadAgg (vs := [_, _, _]) rfl (ev_t rfl) agg_28 size_28 (kid_cells (hro.upd hU (fun _ _ _ h => h)) hxi rfl)) ?_
               refine WL.cons (SO.call (ih _ _ _ _ _ ui h (hI.updN hU) (hti.upd hU (fun _ _ _ h => h)) hh) rfl body_34 ⟨(ev_t rfl), (ev_t rfl), trivial⟩ rfl rfl rfl rfl ?_)
               rintro v w4 ⟨d1, d2, d3, rfl, hd, hu4⟩
               obtain ⟨md, Ad', kd, xkd, rfl, rfl, rfl, _⟩ := hd.open
               have hs4 := hu4.size
               replace hU := hU.transA hu4
               replace hB1 := hB1.updA hu4
               replace hB2 := hB2.upd hu4 (by first | exact (fun h => h) | (simp only [At]; omega))
               refine WL.cons (SO.storeAll (us := [_, _, _]) rfl (ev_t rfl) (ev_t rfl) size_28 hB2 rfl rfl rfl rfl rfl ?_)
               intro w5 hu5 hB2 hz5
               have hs5 := hu5.size
               replace hU := hU.transA hu5
               replace hB1 := hB1.updA hu5
               replace hd := hd.upd hu5 (fun k hk hl hS => by first | exact (show False from hS).elim | (simp only [At] at hS; omega))
               refine WL.nil ?_
               refine WX.keep [(4, _)] ⟨rfl, trivial⟩ ?_
               refine WX.next ?_
               refine WC.ret ?_
               refine WX.blockRet ?_
               refine WX.thenRet ?_
               refine WX.thenRet ?_
               refine WX.blockRet ?_
               refine WX.thenRet ?_
               refine WX.retC (vs := [_, _, _]) rfl rfl agg_28 size_28 (Blk.cellsL hB2) ?_
               exact ⟨_, _, _, rfl, hd.mono fun k hk => hk.1, hU⟩
            · try (exfalso; first | (simp at hc4; done) | (simp only [decide_eq_true_eq, decide_eq_false_iff_not, Bool.not_eq_true', Bool.not_eq_false', Bool.not_eq_true, Bool.not_eq_false] at hc4; omega) | omega)
              all_goals
               try simp only [decide_eq_true_eq, decide_eq_false_iff_not, Bool.not_eq_true', Bool.not_eq_false', Bool.not_eq_true, Bool.not_eq_false, Option.isNone_none, Option.isNone_some, Option.isSome_none, Option.isSome_some, ne_eq, Decidable.not_not] at hc4
               refine WC.skip ?_
               refine WX.blockNormal ?_
               refine WX.next ?_
               refine WC.region ?_
               refine WL.val rfl rfl rfl rfl (r_move rfl (ev_t rfl)) ?_
               first | refine WL.val rfl rfl rfl rfl (r_addN rfl (ev_t rfl) ev_c (by simp only [inK]; omega)) ?_ | refine WL.val rfl rfl rfl rfl (r_add rfl (ev_t rfl) ev_c) ?_
               refine WL.val rfl rfl rfl rfl (r_assign rfl (ev_t rfl)) ?_
               refine WL.nil ?_
               refine WX.keep [(0, _), (3, _), (4, _), (5, _)] ⟨rfl, rfl, rfl, rfl, trivial⟩ ?_
               refine WX.meet [(0, _), (3, _), (4, _), (5, _)] ⟨rfl, rfl, rfl, rfl, trivial⟩ ?_
               refine ⟨σ.length - (i + 1), by omega, i + 1, by omega, rfl, hU, by omega, hB1, hB2, fun x hx j hj => ?_, by simp⟩
               rcases Nat.lt_or_ge j i with h | h
               · exact hno x hx j h
               · obtain rfl : j = i := by omega
                 rw [hki]
                 intro e
                 injection e with e
                 first
                   | (injection hx with hx; subst hx; exact absurd hc4 (by simp [e]))
                   | (subst hx; exact absurd rfl hb4_3)
         · try (exfalso; first | (simp at hb4_3; done) | (simp only [decide_eq_true_eq, decide_eq_false_iff_not, Bool.not_eq_true', Bool.not_eq_false', Bool.not_eq_true, Bool.not_eq_false] at hb4_3; omega) | omega)
           all_goals
            try simp only [decide_eq_true_eq, decide_eq_false_iff_not, Bool.not_eq_true', Bool.not_eq_false', Bool.not_eq_true, Bool.not_eq_false, Option.isNone_none, Option.isNone_some, Option.isSome_none, Option.isSome_some, ne_eq, Decidable.not_not] at hb4_3
            refine WN.skip _ rfl rfl rfl rfl ?_
            refine WN.skip _ rfl rfl rfl rfl ?_
            refine WN.skip _ rfl rfl rfl rfl ?_
            refine WN.skip _ rfl rfl rfl rfl ?_
            refine WN.skip _ rfl rfl rfl rfl ?_
            refine WN.heldSkip _ rfl rfl rfl rfl hS4 ?_
            refine WN.skip _ rfl rfl rfl rfl ?_
            refine WN.heldSkip _ rfl rfl rfl rfl hS4 ?_
            refine WN.step _ rfl (SO.skip rfl rfl rfl ?_)
            refine ⟨hS4, ?_⟩
            refine WN.skip _ rfl rfl rfl rfl ?_
            refine WN.calm _ rfl rfl rfl rfl rfl (fun _ => r_pickF rfl (ev_t rfl) ev_c) ?_
            refine WN.done ?_
            refine WX.keep [(0, _), (3, _), (4, _), (5, _), (29, _)] ⟨rfl, rfl, rfl, rfl, rfl, trivial⟩ ?_
            refine WX.next ?_
            refine WC.cond_false rfl (ev_t rfl) ?_
            refine WC.skip ?_
            refine WX.blockNormal ?_
            refine WX.next ?_
            refine WC.region ?_
            refine WL.val rfl rfl rfl rfl (r_move rfl (ev_t rfl)) ?_
            first | refine WL.val rfl rfl rfl rfl (r_addN rfl (ev_t rfl) ev_c (by simp only [inK]; omega)) ?_ | refine WL.val rfl rfl rfl rfl (r_add rfl (ev_t rfl) ev_c) ?_
            refine WL.val rfl rfl rfl rfl (r_assign rfl (ev_t rfl)) ?_
            refine WL.nil ?_
            refine WX.keep [(0, _), (3, _), (4, _), (5, _)] ⟨rfl, rfl, rfl, rfl, trivial⟩ ?_
            refine WX.meet [(0, _), (3, _), (4, _), (5, _)] ⟨rfl, rfl, rfl, rfl, trivial⟩ ?_
            refine ⟨σ.length - (i + 1), by omega, i + 1, by omega, rfl, hU, by omega, hB1, hB2, fun x hx j hj => ?_, by simp⟩
            rcases Nat.lt_or_ge j i with h | h
            · exact hno x hx j h
            · obtain rfl : j = i := by omega
              rw [hki]
              intro e
              injection e with e
              first
                | (injection hx with hx; subst hx; exact absurd hc4 (by simp [e]))
                | (subst hx; exact absurd rfl hb4_3)
      · try (exfalso; first | (simp at hc2; done) | (simp only [decide_eq_true_eq, decide_eq_false_iff_not, Bool.not_eq_true', Bool.not_eq_false', Bool.not_eq_true, Bool.not_eq_false] at hc2; omega) | omega)
        all_goals
         try simp only [decide_eq_true_eq, decide_eq_false_iff_not, Bool.not_eq_true', Bool.not_eq_false', Bool.not_eq_true, Bool.not_eq_false, Option.isNone_none, Option.isNone_some, Option.isSome_none, Option.isSome_some, ne_eq, Decidable.not_not] at hc2
         obtain rfl : i = σ.length := by omega
         refine WC.exit ?_
         refine WX.thenExit ?_
         refine WX.thenExit ?_
         refine WX.blockHere ?_
         refine WX.next ?_
         refine WC.seq ?_
         refine WC.region ?_
         refine WL.val rfl rfl rfl rfl (r_loadAgg (vs := [_, _, _]) rfl (ev_t rfl) agg_28 size_28 (Blk.cellsL hB1)) ?_
         refine WL.cons (SO.storeAll (us := [_, _, _]) rfl (ev_t rfl) (ev_t rfl) size_28 hB2 rfl rfl rfl rfl rfl ?_)
         intro w6 hu6 hB2 hz6
         have hs6 := hu6.size
         replace hU := hU.transA hu6
         replace hB1 := hB1.updA hu6
         refine WL.nil ?_
         refine WX.keep [(4, _)] ⟨rfl, trivial⟩ ?_
         refine WX.next ?_
         refine WC.ret ?_
         refine WX.retC (vs := [_, _, _]) rfl rfl agg_28 size_28 (Blk.cellsL hB2) ?_
         have e : h = t := by
           cases t with
           | v x => exact hd_none (look_no (hno x rfl)) hh
           | c f ks => exact hd_con f.2 hh
         subst e
         exact ⟨_, _, _, rfl, (ht.upd hU (fun _ _ _ h => h)).mono fun k hk => hk.1, hU⟩

set_option maxHeartbeats 2000000 in
theorem rsize_ok {Gv Go Gd : Nat → Prop} {p : Nat} {σ : Sg} {D : Dn} {nn : Int} {xs : List C3} {Av Ao Ad : Option Addr} {cv co cd : Nat} (hw : WF σ) : ∀ (N : Nat) (F : Nat → Prop) (w : World) (a b c : Value) (t : Ty) (most : Nat), sz (ext (th σ) t) ≤ N → IsRf w F Gv Go Gd p σ D nn xs Av Ao Ad cv co cd → TV w F (a, b, c) t → 1 ≤ most → most ≤ 1000000000 →
    Ret Try.prog 21 #[.pointer (some ⟨p, 0, none⟩), .agg #[a, b, c], .int .i64 (most : Int)] w fun v w' => v = .int .i64 ((min (sz (ext (th σ) t)) most : Nat) : Int) ∧ Upd No w w' := by
  intro N
  induction N with
  | zero =>
    intro F w a b c t most hN
    have := sz_pos (ext (th σ) t)
    omega
  | succ N ih =>
    intro F w a b c t most hN hI ht h1 h2
    replace hI := hI.bound
    replace ht := ht.bound
    obtain ⟨h, hh⟩ := hw.hd t
    obtain ⟨fu, hfu⟩ := hh.fuel
    have hsz := head_sz hw hh
    obtain ⟨m0, A9, k9, xk9, rfl, rfl, rfl, _⟩ := ht.open
    refine enterRet (vs := [_, _, _]) (N := 37) Try.func21 rfl rfl rfl ?_
    have hU := Upd.refl No w
    refine WC.keep [(0, _), (1, _), (2, _)] ⟨rfl, rfl, rfl, trivial⟩ ?_
    refine WC.seq ?_
    refine WC.region ?_
    refine WL.cons (SO.alloc rfl rfl rfl rfl (r_boxAgg rfl (ev_t rfl)) ?_)
    intro w1 hu1 hB1 hz1
    have hs1 := hu1.size
    replace hU := hU.transA hu1
    refine WL.val rfl rfl rfl rfl (r_assign rfl ev_c) ?_
    refine WL.nil ?_
    refine WX.keep [(0, _), (2, _), (4, _)] ⟨rfl, rfl, rfl, trivial⟩ ?_
    refine WX.next ?_
    refine WC.seq ?_
    refine WC.region ?_
    refine WL.val rfl rfl rfl rfl (r_move rfl (ev_t rfl)) ?_
    refine WL.val rfl rfl rfl rfl (r_loadAgg (vs := [_, _, _]) rfl (ev_t rfl) agg_28 size_28 (Blk.cellsL hB1)) ?_
    refine WL.cons (SO.call (rhead_ok _ _ _ _ _ _ _ _ (hI.updN hU) (ht.upd hU (fun _ _ _ h => h)) (hfu fu (Nat.le_refl _))) rfl body_34 ⟨(ev_t rfl), (ev_t rfl), trivial⟩ rfl rfl rfl rfl ?_)
    rintro v w2 ⟨a', b', c', rfl, hth, hu2⟩
    obtain ⟨m, A0, k0, xk, rfl, rfl, rfl, hm, hr, hl, hb, hk⟩ := hth.open
    have hks : TVs w2 _ xk h.kids := ⟨hl, hk⟩
    have hs2 := hu2.size
    replace hU := hU.transA hu2
    replace hB1 := hB1.updA hu2
    refine WL.cons (SO.storeAll (us := [_, _, _]) rfl (ev_t rfl) (ev_t rfl) size_28 hB1 rfl rfl rfl rfl rfl ?_)
    intro w3 hu3 hB1 hz3
    have hs3 := hu3.size
    replace hU := hU.transA hu3
    replace hr := hr.updA hu3
    replace hks := hks.updA hu3
    refine WL.nil ?_
    refine WX.keep [(0, _), (2, _), (4, _)] ⟨rfl, rfl, rfl, trivial⟩ ?_
    refine WX.next ?_
    refine WC.seq ?_
    refine WC.region ?_
    refine WL.val rfl rfl rfl rfl (r_assign rfl ev_c) ?_
    refine WL.nil ?_
    refine WX.keep [(0, _), (2, _), (4, _), (7, _)] ⟨rfl, rfl, rfl, rfl, trivial⟩ ?_
    refine WX.next ?_
    refine WC.seq ?_
    refine WC.seq ?_
    refine WC.region ?_
    refine WL.val rfl rfl rfl rfl (r_assign rfl ev_c) ?_
    refine WL.nil ?_
    refine WX.keep [(0, _), (2, _), (4, _), (7, _), (8, _)] ⟨rfl, rfl, rfl, rfl, rfl, trivial⟩ ?_
    refine WX.next ?_
    refine WC.block ?_
    -- loop 1: live [0, 2, 4, 7, 8]
    refine WC.keep [(0, _), (2, _), (4, _), (7, _), (8, _)] ⟨rfl, rfl, rfl, rfl, rfl, trivial⟩ ?_
    refine WC.loop (fun q E w' => ∃ (i n : Nat), i ≤ h.kids.length ∧ q = h.kids.length - i ∧ Upd No w w' ∧ Blk w' w.heap.size #[.string ⟨h.nm.toArray⟩, .int .i64 m, .slice A0 h.kids.length k0] typ ∧ Rd w' (fun k => F k ∧ k < w.heap.size) (.slice A0 h.kids.length k0) h.kids.length 3 (xk.flatMap c3) ∧ TVs w' (fun k => F k ∧ k < w.heap.size) xk h.kids ∧ n = min (1 + ((h.kids.take i).map fun k => sz (ext (th σ) k)).sum) most ∧   E = [(0, .pointer (some ⟨p, 0, none⟩)), (2, .int .i64 (most : Int)), (4, .pointer (some ⟨w.heap.size, 0, none⟩)), (7, .int .i64 (n : Int)), (8, .int .i64 (i : Int))]) (h.kids.length) ?_ ?_
    · exact ⟨0, 1, by omega, by omega, hU, hB1, hr, hks, by simp; omega, rfl⟩
    · clear hU hB1 hr hks
      rintro q E w' ⟨i, n, hi, rfl, hU, hB1, hr, hks, hn, rfl⟩
      have hs0 := hU.size
      refine WC.seq ?_
      -- cut r4: live [0, 2, 4, 7, 8, 21]
      refine WC.cut (fun E wA => ∃ bb : Bool, w' = wA ∧ (bb = true ↔ (i < h.kids.length ∧ n < most)) ∧ E = [(0, .pointer (some ⟨p, 0, none⟩)), (2, .int .i64 (most : Int)), (4, .pointer (some ⟨w.heap.size, 0, none⟩)), (7, .int .i64 (n : Int)), (8, .int .i64 (i : Int)), (21, .bool bb)]) ?_ ?_
      · refine WC.region ?_
        refine WL.val rfl rfl rfl rfl (r_move rfl (ev_t rfl)) ?_
        first | refine WL.val rfl rfl rfl rfl (r_field0 rfl (ev_t rfl) fld_28_2) ?_ | refine WL.val rfl rfl rfl rfl (r_fieldAt rfl (ev_t rfl) fld_28_2) ?_
        refine WL.val rfl rfl rfl rfl (r_load rfl (ev_t rfl) flat_26 (Blk.cell hB1 rfl)) ?_
        refine WL.val rfl rfl rfl rfl (r_lenSlice (ts := #[]) rfl (ev_t rfl) elem_26) ?_
        refine WL.val rfl rfl rfl rfl (r_lss rfl (ev_t rfl) (ev_t rfl)) ?_
        refine WL.val rfl rfl rfl rfl (r_move rfl (ev_t rfl)) ?_
        refine WL.cases 17 rfl (fun hb4_5 => ?_) (fun hb4_5 => ?_)
        · try (exfalso; first | (simp at hb4_5; done) | (simp only [decide_eq_true_eq, decide_eq_false_iff_not, Bool.not_eq_true', Bool.not_eq_false', Bool.not_eq_true, Bool.not_eq_false] at hb4_5; omega) | omega)
          all_goals
           try simp only [decide_eq_true_eq, decide_eq_false_iff_not, Bool.not_eq_true', Bool.not_eq_false', Bool.not_eq_true, Bool.not_eq_false, Option.isNone_none, Option.isNone_some, Option.isSome_none, Option.isSome_some, ne_eq, Decidable.not_not] at hb4_5
           refine WL.val rfl rfl rfl rfl (r_move rfl (ev_t rfl)) ?_
           refine WL.val rfl rfl rfl rfl (r_move rfl (ev_t rfl)) ?_
           refine WL.val rfl rfl rfl rfl (r_lss rfl (ev_t rfl) (ev_t rfl)) ?_
           refine WL.val rfl rfl rfl rfl (r_pickT rfl (ev_t rfl) (ev_t rfl)) ?_
           refine WL.nil ?_
           refine WX.keep [(0, _), (2, _), (4, _), (7, _), (8, _), (21, _)] ⟨rfl, rfl, rfl, rfl, rfl, rfl, trivial⟩ ?_
           refine WX.meet [(0, _), (2, _), (4, _), (7, _), (8, _), (21, _)] ⟨rfl, rfl, rfl, rfl, rfl, rfl, trivial⟩ ?_
           refine ⟨_, rfl, ?_, rfl⟩
           first
             | (rw [decide_eq_true_eq]; omega)
             | (exact ⟨fun h => Bool.noConfusion h, fun h => by omega⟩)
        · try (exfalso; first | (simp at hb4_5; done) | (simp only [decide_eq_true_eq, decide_eq_false_iff_not, Bool.not_eq_true', Bool.not_eq_false', Bool.not_eq_true, Bool.not_eq_false] at hb4_5; omega) | omega)
          all_goals
           try simp only [decide_eq_true_eq, decide_eq_false_iff_not, Bool.not_eq_true', Bool.not_eq_false', Bool.not_eq_true, Bool.not_eq_false, Option.isNone_none, Option.isNone_some, Option.isSome_none, Option.isSome_some, ne_eq, Decidable.not_not] at hb4_5
           refine WL.skip rfl rfl rfl ?_
           refine WL.skip rfl rfl rfl ?_
           refine WL.skip rfl rfl rfl ?_
           refine WL.val rfl rfl rfl rfl (r_pickF rfl (ev_t rfl) ev_c) ?_
           refine WL.nil ?_
           refine WX.keep [(0, _), (2, _), (4, _), (7, _), (8, _), (21, _)] ⟨rfl, rfl, rfl, rfl, rfl, rfl, trivial⟩ ?_
           refine WX.meet [(0, _), (2, _), (4, _), (7, _), (8, _), (21, _)] ⟨rfl, rfl, rfl, rfl, rfl, rfl, trivial⟩ ?_
           refine ⟨_, rfl, ?_, rfl⟩
           first
             | (rw [decide_eq_true_eq]; omega)
             | (exact ⟨fun h => Bool.noConfusion h, fun h => by omega⟩)
      · rintro E wA ⟨bb, rfl, hbb, rfl⟩
        refine WC.cond rfl (ev_t rfl) (fun hc4 => ?_) (fun hc4 => ?_)
        · try (exfalso; first | (simp at hc4; done) | (simp only [decide_eq_true_eq, decide_eq_false_iff_not, Bool.not_eq_true', Bool.not_eq_false', Bool.not_eq_true, Bool.not_eq_false] at hc4; omega) | omega)
          all_goals
           try simp only [decide_eq_true_eq, decide_eq_false_iff_not, Bool.not_eq_true', Bool.not_eq_false', Bool.not_eq_true, Bool.not_eq_false, Option.isNone_none, Option.isNone_some, Option.isSome_none, Option.isSome_some, ne_eq, Decidable.not_not] at hc4
           obtain ⟨hi', hnm⟩ := hbb.1 hc4
           obtain ⟨b0, off, rfl, _⟩ := hr.open (by omega)
           have hlx : i < xk.length := by have := hks.1; omega
           have hxi : xk[i]? = some xk[i] := List.getElem?_eq_getElem hlx
           have hki : h.kids[i]? = some h.kids[i] := List.getElem?_eq_getElem hi'
           have htk := hks.2 i _ _ hxi hki
           have hsum := take_sum_succ (f := fun k => sz (ext (th σ) k)) hi'
           have hkl := kid_lt (σ := σ) hi'
           generalize xk[i] = ck at *
           generalize h.kids[i] = kk at *
           obtain ⟨ca, cb, cc⟩ := ck
           refine WC.skip ?_
           refine WX.next ?_
           refine WC.seq ?_
           refine WC.block ?_
           refine WC.region ?_
           refine WL.val rfl rfl rfl rfl (r_move rfl (ev_t rfl)) ?_
           refine WL.val rfl rfl rfl rfl (r_move rfl (ev_t rfl)) ?_
           first | refine WL.val rfl rfl rfl rfl (r_field0 rfl (ev_t rfl) fld_28_2) ?_ | refine WL.val rfl rfl rfl rfl (r_fieldAt rfl (ev_t rfl) fld_28_2) ?_
           refine WL.val rfl rfl rfl rfl (r_load rfl (ev_t rfl) flat_26 (Blk.cell hB1 rfl)) ?_
           refine WL.val rfl rfl rfl rfl (r_move rfl (ev_t rfl)) ?_
           refine WL.val rfl rfl rfl rfl (r_indexAddr rfl (ev_t rfl) (ev_t rfl) elem_26 size_28 (by omega) (by omega)) ?_
           refine WL.val rfl rfl rfl rfl (r_loadAgg (vs := [_, _, _]) rfl (ev_t rfl) agg_28 size_28 (kid_cells hr hxi rfl)) ?_
           refine WL.val rfl rfl rfl rfl (r_move rfl (ev_t rfl)) ?_
           refine WL.val rfl rfl rfl rfl (r_move rfl (ev_t rfl)) ?_
           first | refine WL.val rfl rfl rfl rfl (r_subN rfl (ev_t rfl) (ev_t rfl) (by simp only [inK]; omega)) ?_ | refine WL.val rfl rfl rfl rfl (r_sub rfl (ev_t rfl) (ev_t rfl)) ?_
           rw [show ((most : Int) - (n : Int)) = ((most - n : Nat) : Int) by omega]
           refine WL.cons (SO.call (ih _ _ _ _ _ kk (most - n) (by omega) (hI.updN hU) htk (by omega) (by omega)) rfl body_21 ⟨(ev_t rfl), (ev_t rfl), (ev_t rfl), trivial⟩ rfl rfl rfl rfl ?_)
           rintro v w4 ⟨rfl, hu4⟩
           have hs4 := hu4.size
           replace hU := hU.transA hu4
           replace hr := hr.updA hu4
           replace hks := hks.updA hu4
           replace hB1 := hB1.updA hu4
           first | refine WL.val rfl rfl rfl rfl (r_addN rfl (ev_t rfl) (ev_t rfl) (by simp only [inK]; omega)) ?_ | refine WL.val rfl rfl rfl rfl (r_add rfl (ev_t rfl) (ev_t rfl)) ?_
           refine WL.val rfl rfl rfl rfl (r_assign rfl (ev_t rfl)) ?_
           refine WL.nil ?_
           refine WX.keep [(0, _), (2, _), (4, _), (7, _), (8, _)] ⟨rfl, rfl, rfl, rfl, rfl, trivial⟩ ?_
           refine WX.blockNormal ?_
           refine WX.next ?_
           refine WC.region ?_
           refine WL.val rfl rfl rfl rfl (r_move rfl (ev_t rfl)) ?_
           first | refine WL.val rfl rfl rfl rfl (r_addN rfl (ev_t rfl) ev_c (by simp only [inK]; omega)) ?_ | refine WL.val rfl rfl rfl rfl (r_add rfl (ev_t rfl) ev_c) ?_
           refine WL.val rfl rfl rfl rfl (r_assign rfl (ev_t rfl)) ?_
           refine WL.nil ?_
           refine WX.keep [(0, _), (2, _), (4, _), (7, _), (8, _)] ⟨rfl, rfl, rfl, rfl, rfl, trivial⟩ ?_
           refine WX.meet [(0, _), (2, _), (4, _), (7, _), (8, _)] ⟨rfl, rfl, rfl, rfl, rfl, trivial⟩ ?_
           exact ⟨h.kids.length - (i + 1), by omega, i + 1, n + min (sz (ext (th σ) kk)) (most - n), by omega, rfl, hU, hB1, hr, hks, by rw [hsum]; omega, by simp⟩
        · try (exfalso; first | (simp at hc4; done) | (simp only [decide_eq_true_eq, decide_eq_false_iff_not, Bool.not_eq_true', Bool.not_eq_false', Bool.not_eq_true, Bool.not_eq_false] at hc4; omega) | omega)
          all_goals
           try simp only [decide_eq_true_eq, decide_eq_false_iff_not, Bool.not_eq_true', Bool.not_eq_false', Bool.not_eq_true, Bool.not_eq_false, Option.isNone_none, Option.isNone_some, Option.isSome_none, Option.isSome_some, ne_eq, Decidable.not_not] at hc4
           have hno : ¬ (i < h.kids.length ∧ n < most) := fun h => by rw [hbb.2 h] at hc4; cases hc4
           have hle := take_sum_le (l := h.kids) (f := fun k => sz (ext (th σ) k)) (i := i)
           refine WC.exit ?_
           refine WX.thenExit ?_
           refine WX.thenExit ?_
           refine WX.blockHere ?_
           refine WX.next ?_
           refine WC.seq ?_
           refine WC.region ?_
           refine WL.val rfl rfl rfl rfl (r_move rfl (ev_t rfl)) ?_
           refine WL.val rfl rfl rfl rfl (r_assign rfl (ev_t rfl)) ?_
           refine WL.nil ?_
           refine WX.keep [(6, _)] ⟨rfl, trivial⟩ ?_
           refine WX.next ?_
           refine WC.ret ?_
           refine WX.retE1 rfl rfl ?_
           refine ⟨?_, hU⟩
           rw [hsz]
           congr 2
           by_cases hi' : i < h.kids.length
           · omega
           · have : h.kids.take i = h.kids := List.take_of_length_le (by omega)
             rw [this] at hn
             exact hn
end Go.Proofs.Ytncakfcafkfmfaa

/-
  Bounds: what is looked at, and which pairs were made one. No program in sight.
-/
namespace Go.Proofs.Ytncakfcafkfmfaa
open Go
set_option linter.unusedSimpArgs false
set_option linter.unusedVariables false

theorem nodupG_len {α : Type} [DecidableEq α] : ∀ {l U : List α}, l.Nodup → (∀ y ∈ l, y ∈ U) → l.length ≤ U.length
  | [], U, _, _ => Nat.zero_le _
  | a :: l, U, hn, hs => by
    have ha : a ∈ U := hs a (by simp)
    have hn' := List.nodup_cons.1 hn
    have h1 := nodupG_len (l := l) (U := U.erase a) hn'.2 fun y hy => (List.mem_erase_of_ne (fun (e : y = a) => hn'.1 (e ▸ hy))).2 (hs y (List.mem_cons_of_mem _ hy))
    have h2 := List.length_erase_of_mem ha
    have h3 : 0 < U.length := List.length_pos_of_mem ha
    simp only [List.length_cons]
    omega
/-! ### which variables were looked at -/
def FrI (σ : Sg) (s : FrS) : Prop := s.2.Nodup ∧ s.2.length ≤ s.1.length + (s.2.filter fun y => (look σ y).isSome).length
theorem FrI.nil (σ : Sg) : FrI σ ([], []) := ⟨List.nodup_nil, Nat.zero_le _⟩
theorem FrI.len {σ : Sg} {s : FrS} (h : FrI σ s) : s.2.length ≤ s.1.length + σ.length := by
  have : (s.2.filter fun y => (look σ y).isSome).length ≤ (σ.map (·.1)).length := nodupG_len (h.1.filter _) fun y hy => by
    have := (List.mem_filter.1 hy).2
    obtain ⟨u, hu⟩ := Option.isSome_iff_exists.1 this
    exact List.mem_map.2 ⟨_, look_mem hu, rfl⟩
  rw [List.length_map] at this
  have := h.2
  omega
structure FrP (σ : Sg) (s s' : FrS) : Prop where
  i : FrI σ s → FrI σ s'
  l1 : s.1.length ≤ s'.1.length
  l2 : s.2.length ≤ s'.2.length
theorem FrP.rfl {σ : Sg} {s : FrS} : FrP σ s s := ⟨fun h => h, Nat.le_refl _, Nat.le_refl _⟩
theorem FrP.trans {σ : Sg} {s t u : FrS} (h : FrP σ s t) (k : FrP σ t u) : FrP σ s u := ⟨fun i => k.i (h.i i), Nat.le_trans h.l1 k.l1, Nat.le_trans h.l2 k.l2⟩
theorem frL_FrP {σ : Sg} {f : Ty → FrS → Option FrS} (hf : ∀ t s s', f t s = some s' → FrP σ s s') : ∀ {ks : List Ty} {s s' : FrS}, frL f ks s = some s' → FrP σ s s'
  | [], s, s', h => by simp only [frL] at h; injection h with h; subst h; exact FrP.rfl
  | k :: ks, s, s', h => by
    simp only [frL] at h
    split at h
    · cases h
    · rename_i s1 h1
      exact (hf _ _ _ h1).trans (frL_FrP hf h)
theorem frF_FrP {σ : Sg} : ∀ {n : Nat} {t : Ty} {s s' : FrS}, frF σ n t s = some s' → FrP σ s s'
  | 0, t, s, s', h => by simp [frF] at h
  | n + 1, .v x, s, s', h => by
    simp only [frF] at h
    split at h
    · injection h with h; subst h; exact FrP.rfl
    · rename_i hx
      have hnod : s.2.Nodup → (s.2 ++ [x]).Nodup := fun hn => by
        rw [List.nodup_append]
        refine ⟨hn, by simp, fun a ha b hb => ?_⟩
        simp at hb
        subst hb
        exact fun e => hx (e ▸ ha)
      split at h
      · rename_i hl
        injection h with h
        subst h
        refine ⟨fun i => ⟨hnod i.1, ?_⟩, by simp, by simp⟩
        have := i.2
        simp only [List.length_append, List.length_singleton, List.filter_append]
        omega
      · rename_i u hl
        have ih := frF_FrP h
        refine ⟨fun i => ih.i ⟨hnod i.1, ?_⟩, ih.l1, Nat.le_trans (by simp) ih.l2⟩
        have := i.2
        simp only [List.length_append, List.length_singleton, List.filter_append, List.filter_cons, hl, Option.isSome_some, if_true, List.filter_nil]
        omega
  | n + 1, .c f ks, s, s', h => by
    simp only [frF] at h
    exact frL_FrP (fun t s s' h => frF_FrP h) h
/-! ### which pairs were made one -/
structure DU (U : List Int) (σ : Sg) (D : Dn) : Prop where
  s : ∀ x u, look σ x = some u → ∀ y ∈ vars u, y ∈ U
  n : D.Nodup
  d : ∀ p ∈ D, p.1 ∈ U ∧ p.2 ∈ U
theorem IsHd.inD {U : List Int} {σ : Sg} {t h : Ty} (g : ∀ x u, look σ x = some u → ∀ y ∈ vars u, y ∈ U) (i : IsHd σ t h) (ht : ∀ y ∈ vars t, y ∈ U) : ∀ y ∈ vars h, y ∈ U := by
  induction i with
  | con => exact ht
  | var => exact ht
  | step hl _ ih => exact ih (g _ _ hl)
theorem DU.nil (U : List Int) : DU U [] [] := ⟨fun x u h => by simp [look] at h, List.nodup_nil, fun p h => by cases h⟩
theorem look_none_append {σ : Sg} {x y : Int} {u t : Ty} (h : look (σ ++ [(x, t)]) y = some u) : look σ y = some u ∨ u = t := by
  rw [look_append] at h
  cases hl : look σ y with
  | some v => rw [hl] at h; simp at h; exact .inl (by rw [h])
  | none =>
    rw [hl] at h
    simp only [Option.orElse, look] at h
    split at h
    · injection h with h; exact .inr h.symm
    · cases h
theorem bdF_DU {U : List Int} {n : Nat} {σ : Sg} {D : Dn} {x : Int} {t : Ty} {r : Bool} {σ' : Sg} {D' : Dn} (h : bdF n σ D x t = some (r, σ', D')) (g : DU U σ D) (ht : ∀ y ∈ vars t, y ∈ U) : DU U σ' D' := by
  simp only [bdF] at h
  split at h
  · cases h
  · split at h
    · cases h
    · split at h
      · injection h with h; injection h with _ h; injection h with h1 h2; subst h1; subst h2; exact g
      · injection h with h; injection h with _ h; injection h with h1 h2; subst h1; subst h2
        refine ⟨fun y u hy => ?_, g.n, g.d⟩
        rcases look_none_append hy with h | h
        · exact g.s _ _ h
        · rw [h]; exact ht
theorem unL_DU {U : List Int} {f : Sg → Dn → Ty → Ty → Option UnS} (hf : ∀ σ D a b r σ' D', f σ D a b = some (r, σ', D') → DU U σ D → (∀ y ∈ vars a, y ∈ U) → (∀ y ∈ vars b, y ∈ U) → DU U σ' D') :
    ∀ {as_ bs : List Ty} {σ : Sg} {D : Dn} {r : Bool} {σ' : Sg} {D' : Dn}, unL f as_ bs σ D = some (r, σ', D') → DU U σ D → (∀ a ∈ as_, ∀ y ∈ vars a, y ∈ U) → (∀ a ∈ bs, ∀ y ∈ vars a, y ∈ U) → DU U σ' D'
  | [], _, σ, D, r, σ', D', h, g, _, _ => by simp only [unL] at h; injection h with h; injection h with _ h; injection h with h1 h2; subst h1; subst h2; exact g
  | _ :: _, [], σ, D, r, σ', D', h, g, _, _ => by simp only [unL] at h; injection h with h; injection h with _ h; injection h with h1 h2; subst h1; subst h2; exact g
  | a :: as_, b :: bs, σ, D, r, σ', D', h, g, ha, hb => by
    simp only [unL] at h
    split at h
    · cases h
    · rename_i s1 d1 he
      have := hf _ _ _ _ _ _ _ he g (ha a (by simp)) (hb b (by simp))
      injection h with h; injection h with _ h; injection h with h1 h2; subst h1; subst h2
      exact this
    · rename_i s1 d1 he
      have h1 := hf _ _ _ _ _ _ _ he g (ha a (by simp)) (hb b (by simp))
      exact unL_DU hf h h1 (fun c hc => ha c (List.mem_cons_of_mem _ hc)) (fun c hc => hb c (List.mem_cons_of_mem _ hc))
theorem unF_DU {U : List Int} : ∀ {n : Nat} {σ : Sg} {D : Dn} {a b : Ty} {r : Bool} {σ' : Sg} {D' : Dn}, unF n σ D a b = some (r, σ', D') → DU U σ D → (∀ y ∈ vars a, y ∈ U) → (∀ y ∈ vars b, y ∈ U) → DU U σ' D'
  | 0, σ, D, a, b, r, σ', D', h, _, _, _ => by simp [unF] at h
  | n + 1, σ, D, a, b, r, σ', D', h, g, ha, hb => by
    have hH : ∀ {D1 : Dn} {a' b' : Ty}, unH n (unF n) σ D1 a' b' = some (r, σ', D') → DU U σ D1 → (∀ y ∈ vars a', y ∈ U) → (∀ y ∈ vars b', y ∈ U) → DU U σ' D' := fun {D1 a' b'} h g1 ha' hb' => by
      cases a' <;> cases b' <;> simp only [unH] at h
      · split at h
        · injection h with h; injection h with _ h; injection h with h1 h2; subst h1; subst h2; exact g1
        · exact bdF_DU h g1 hb'
      · exact bdF_DU h g1 hb'
      · exact unF_DU h g1 hb' ha'
      · split at h
        · injection h with h; injection h with _ h; injection h with h1 h2; subst h1; subst h2; exact g1
        · exact unL_DU (fun σ D a b r σ' D' h => unF_DU h) h g1 (fun c hc y hy => ha' y (mem_vars_c.2 ⟨c, hc, hy⟩)) (fun c hc y hy => hb' y (mem_vars_c.2 ⟨c, hc, hy⟩))
    simp only [unF] at h
    split at h
    · rename_i p hp
      split at h
      · injection h with h; injection h with _ h; injection h with h1 h2; subst h1; subst h2; exact g
      · rename_i hD
        split at h
        · rename_i a' b' h1 h2
          refine hH h ⟨g.s, ?_, ?_⟩ ((hdF_isHd h1).inD g.s ha) ((hdF_isHd h2).inD g.s hb)
          · rw [List.nodup_append]
            refine ⟨g.n, by simp, fun x hx y hy => ?_⟩
            simp at hy
            subst hy
            exact fun e => hD (e ▸ hx)
          · intro q hq
            rcases List.mem_append.1 hq with hq | hq
            · exact g.d q hq
            · simp at hq
              subst hq
              cases a with
              | c f ks => simp [pairOf] at hp
              | v x =>
                cases b with
                | c f ks => simp [pairOf] at hp
                | v y =>
                  simp only [pairOf] at hp
                  injection hp with hp
                  subst hp
                  exact ⟨ha _ (by rw [vars_v]; simp), hb _ (by rw [vars_v]; simp)⟩
        · cases h
    · split at h
      · rename_i a' b' h1 h2
        exact hH h g ((hdF_isHd h1).inD g.s ha) ((hdF_isHd h2).inD g.s hb)
      · cases h
theorem DU.len {U : List Int} {σ : Sg} {D : Dn} (g : DU U σ D) : D.length ≤ U.length * U.length := by
  have h1 : D.length ≤ (U.flatMap fun x => U.map fun y => (x, y)).length := nodupG_len g.n fun p hp => by
    have := g.d p hp
    exact List.mem_flatMap.2 ⟨p.1, this.1, List.mem_map.2 ⟨p.2, this.2, rfl⟩⟩
  have h2 : ∀ l : List Int, (l.flatMap fun x => U.map fun y => (x, y)).length = l.length * U.length := by
    intro l
    induction l with
    | nil => simp
    | cons a l ih => rw [List.flatMap_cons, List.length_append, ih, List.length_map, List.length_cons, Nat.succ_mul]; omega
  rw [h2] at h1
  exact h1
theorem WF.nod {σ : Sg} (h : WF σ) : (σ.map (·.1)).Nodup := by
  induction h with
  | nil => exact List.nodup_nil
  | @snoc σ x u hw hn ho ih =>
    rw [List.map_append, List.nodup_append]
    refine ⟨ih, by simp, fun a ha b hb e => ?_⟩
    simp at hb
    subst hb
    subst e
    obtain ⟨⟨k, t⟩, hm, rfl⟩ := List.mem_map.1 ha
    have : ∀ {σ : Sg}, (k, t) ∈ σ → look σ k ≠ none := by
      intro σ
      induction σ with
      | nil => intro h; cases h
      | cons p σ ih =>
        intro h
        simp only [look]
        split
        · intro e; cases e
        · rename_i hp
          rcases List.mem_cons.1 h with h | h
          · subst h; exact absurd rfl hp
          · exact ih h
    exact this hm hn
theorem Good.len {U : List Int} {σ : Sg} (g : Good U σ) : σ.length ≤ U.length := by
  have := nodupG_len g.wf.nod (U := U) fun y hy => by
    obtain ⟨⟨k, t⟩, hm, rfl⟩ := List.mem_map.1 hy
    have : ∀ {σ : Sg}, (k, t) ∈ σ → ∃ u, look σ k = some u := by
      intro σ
      induction σ with
      | nil => intro h; cases h
      | cons p σ ih =>
        intro h
        simp only [look]
        split
        · exact ⟨_, rfl⟩
        · rename_i hp
          rcases List.mem_cons.1 h with h | h
          · subst h; exact absurd rfl hp
          · exact ih h
    obtain ⟨u, hu⟩ := this hm
    exact (g.inU _ _ hu).1
  simpa using this
end Go.Proofs.Ytncakfcafkfmfaa

/-
  Structs of numbers and strings, held against one another.
-/
namespace Go.Proofs.Ytncakfcafkfmfaa
open Go
set_option linter.unusedSimpArgs false
set_option linter.unusedVariables false

/-- the kinds of a struct's fields (none: a string), one cell each, one behind the other -/
def kindK (P : Program) (t : TypeId) : Option IntKind → Bool
  | some k => match P.underlying t with | some (.int k') => decide (k = k') | _ => false
  | none => match P.underlying t with | some .string => true | _ => false
def fieldsK (P : Program) : List Field → Nat → List (Option IntKind) → Bool
  | [], _, [] => true
  | f :: fs, i, k :: ks => f.name != "_" && f.offset == i && kindK P f.type k && fieldsK P fs (i + 1) ks
  | _, _, _ => false
/-- values of these kinds -/
def ofK : Option IntKind → Value → Prop
  | some k, v => ∃ n, v = .int k n
  | none, v => ∃ s : List UInt8, v = .string ⟨s.toArray⟩
def confK : List (Option IntKind) → List Value → Prop
  | [], [] => True
  | k :: ks, v :: vs => ofK k v ∧ confK ks vs
  | _, _ => False
def sameV : Value → Value → Bool
  | .int _ a, .int _ b => decide (a = b)
  | .string a, .string b => decide (a.toList = b.toList)
  | _, _ => false
def sameL : List Value → List Value → Bool
  | [], [] => true
  | a :: l1, b :: l2 => sameV a b && sameL l1 l2
  | _, _ => false

section
variable {P : Program}
theorem kindK_some {t : TypeId} {k : IntKind} (h : kindK P t (some k) = true) : P.underlying t = some (.int k) := by
  unfold kindK at h
  simp only at h
  split at h
  · rename_i k' hu
    rw [hu, of_decide_eq_true h]
  · cases h
theorem kindK_none {t : TypeId} (h : kindK P t none = true) : P.underlying t = some .string := by
  unfold kindK at h
  simp only at h
  split at h
  · rename_i hu; exact hu
  · cases h
theorem kindK_flat {t : TypeId} {k : Option IntKind} (h : kindK P t k = true) : flatB P t = true := by
  unfold flatB
  cases k with
  | some k => rw [kindK_some h]
  | none => rw [kindK_none h]
theorem run_equalIn_K (d : Nat) {t : TypeId} {k : Option IntKind} {a b : Value} (h : kindK P t k = true) (ha : ofK k a) (hb : ofK k b) (w : World) : (Op.equalIn (d + 1) t a b).run P w = .ok (sameV a b) w := by
  cases k with
  | some k =>
    obtain ⟨n, rfl⟩ := ha
    obtain ⟨m, rfl⟩ := hb
    rw [run_equalIn_int (P := P) w d t k k n m (kindK_some h)]
    congr 1
  | none =>
    obtain ⟨s, rfl⟩ := ha
    obtain ⟨r, rfl⟩ := hb
    rw [run_equalIn_string (P := P) w d t _ _ (kindK_none h)]
    congr 1
    simp only [sameV]
    rw [Bool.eq_iff_iff]
    simp
theorem run_part_flat {t : TypeId} {cs : Array Value} {off : Nat} {v : Value} (h : flatB P t = true) (hv : cs[off]? = some v) (w : World) : (part t cs off).run P w = .ok v w := by
  simp [part, run_isAgg_flat h, hv]
theorem run_eqFields_K (d : Nat) (w : World) : ∀ (fs : List Field) (i : Nat) (ks : List (Option IntKind)) (xs ys px py : List Value), fieldsK P fs i ks = true → confK ks xs → confK ks ys → px.length = i → py.length = i →
    (Op.eqFields (d + 1) (px ++ xs).toArray (py ++ ys).toArray fs).run P w = .ok (sameL xs ys) w
  | [], i, [], [], [], px, py, _, _, _, _, _ => by simp [Op.eqFields, sameL]
  | f :: fs, i, k :: ks, a :: xs, b :: ys, px, py, hf, hx, hy, hpx, hpy => by
    simp only [fieldsK, Bool.and_eq_true, bne_iff_ne, ne_eq, beq_iff_eq] at hf
    obtain ⟨⟨⟨h1, h2⟩, h3⟩, h4⟩ := hf
    have hfl := kindK_flat h3
    have ga : (px ++ a :: xs).toArray[f.offset]? = some a := by
      rw [h2, List.getElem?_toArray, List.getElem?_append_right (by omega), hpx, Nat.sub_self]; rfl
    have gb : (py ++ b :: ys).toArray[f.offset]? = some b := by
      rw [h2, List.getElem?_toArray, List.getElem?_append_right (by omega), hpy, Nat.sub_self]; rfl
    have e1 := run_part_flat (w := w) hfl ga
    have e2 := run_part_flat (w := w) hfl gb
    have e3 := run_equalIn_K d h3 hx.1 hy.1 w
    have ih := run_eqFields_K d w fs (i + 1) ks xs ys (px ++ [a]) (py ++ [b]) h4 hx.2 hy.2 (by simp [hpx]) (by simp [hpy])
    simp only [List.append_assoc, List.singleton_append] at ih
    simp only [Op.eqFields, ne_eq, h1, not_false_eq_true, if_true, Sem.run_bind, e1, e2, e3, Result.andThen_ok, sameL]
    cases hs : sameV a b
    · simp
    · simp [ih]
  | [], _, _ :: _, _, _, _, _, h, _, _, _, _ => by simp [fieldsK] at h
  | _ :: _, _, [], _, _, _, _, h, _, _, _, _ => by simp [fieldsK] at h
  | [], _, [], _ :: _, _, _, _, _, h, _, _, _ => h.elim
  | [], _, [], [], _ :: _, _, _, _, _, h, _, _ => h.elim
  | _ :: _, _, _ :: _, [], _, _, _, _, h, _, _, _ => h.elim
  | _ :: _, _, _ :: _, _ :: _, [], _, _, _, _, h, _, _ => h.elim

/-- a struct type of these kinds -/
structure StructK (P : Program) (t : TypeId) (ks : List (Option IntKind)) : Prop where
  und : P.underlying t = some (.struct (P.fieldsOf t))
  held : P.stoodInHeld t = false
  guard : P.eqGuardType P.depth t = false
  fields : fieldsK P (P.fieldsOf t).toList 0 ks = true

variable {ρ : Operand → Value} {o : Oper} {w : World} {x y : Operand} {t u : TypeId} {ks : List (Option IntKind)} {xs ys : List Value}
theorem r_neqStruct (ho : o.op = .binOp .neq t x y u) (hx : ρ x = .agg xs.toArray) (hy : ρ y = .agg ys.toArray) (hk : StructK P t ks) (h1 : confK ks xs) (h2 : confK ks ys) : (execOp ρ o).run P w = .ok (.value (.bool (!sameL xs ys))) w := by
  have e1 := run_eqFields_K (P := P) 9998 w (P.fieldsOf t).toList 0 ks xs ys [] [] hk.fields h1 h2 rfl rfl
  simp only [List.nil_append] at e1
  have e2 := run_equalIn_agg (P := P) w 9999 t xs.toArray ys.toArray hk.und hk.held
  rw [e1] at e2
  have e3 := run_neq_struct (P := P) w t xs.toArray ys.toArray
  rw [e2] at e3
  have e4 := run_eqGuard_agg (P := P) w .neq t x y xs.toArray ys.toArray hk.guard
  simp only [execOp, ho, hx, hy, Sem.run_bind, e4, e3, Result.andThen_ok, Sem.run_pure]
theorem r_eqlStruct (ho : o.op = .binOp .eql t x y u) (hx : ρ x = .agg xs.toArray) (hy : ρ y = .agg ys.toArray) (hk : StructK P t ks) (h1 : confK ks xs) (h2 : confK ks ys) : (execOp ρ o).run P w = .ok (.value (.bool (sameL xs ys))) w := by
  have e1 := run_eqFields_K (P := P) 9998 w (P.fieldsOf t).toList 0 ks xs ys [] [] hk.fields h1 h2 rfl rfl
  simp only [List.nil_append] at e1
  have e2 := run_equalIn_agg (P := P) w 9999 t xs.toArray ys.toArray hk.und hk.held
  rw [e1] at e2
  have e3 := run_eql_struct (P := P) w t xs.toArray ys.toArray
  rw [e2] at e3
  have e4 := run_eqGuard_agg (P := P) w .eql t x y xs.toArray ys.toArray hk.guard
  simp only [execOp, ho, hx, hy, Sem.run_bind, e4, e3, Result.andThen_ok, Sem.run_pure]
end
end Go.Proofs.Ytncakfcafkfmfaa

/-
  One element of an owned row, written over.
-/
namespace Go.Proofs.Ytncakfcafkfmfaa
open Go
set_option linter.unusedSimpArgs false
set_option linter.unusedVariables false

theorem take_put {cur us : List Value} {q s m : Nat} (hus : us.length = s) (h1 : q + s ≤ m) (h2 : m ≤ cur.length) : (cur.take q ++ us ++ cur.drop (q + s)).take m = (cur.take m).take q ++ us ++ (cur.take m).drop (q + s) := by
  have hl : (cur.take q ++ us).length = q + s := by rw [List.length_append, List.length_take, hus]; omega
  rw [List.take_append, List.take_of_length_le (by omega), hl, List.take_take, Nat.min_eq_left (by omega), List.drop_take]
section
variable {P : Program} {o : Oper} {w : World} {x y : Operand} {t : TypeId} {N : Nat} {ops : Array Oper} {Q : Exit → Act → World → Prop} {K : Env → World → Prop} {E : Env}
theorem SO.ownSet {F : Nat → Prop} {T : TypeId} {sz n i c g q : Nat} {A : Option Addr} {xs us : List Value} (h : Own w F T sz (.slice A n c) n xs) (hA : A = some ⟨g, 0, none⟩) (hi : i < n) (hq : q = i * sz) (hus : us.length = sz) (hop : o.op = .store t x y) (hx : Env.ev E x = .pointer (some ⟨g, q, none⟩)) (hy : Env.ev E y = .agg us.toArray) (hz : sizeIs P t us.length = true) (h1 : us.all Value.oneCell' = true)
    (hd : o.dst = none) (ho : opsOK E o = true) (hw : wantedE ops E o = some true)
    (k : ∀ w', Upd F w w' → Own w' F T sz (.slice A n c) n (xs.take q ++ us ++ xs.drop (q + sz)) → w'.heap.size = w.heap.size → K E w') : SO P N ops Q o K E w := by
  obtain ⟨g', cap, cur, e, hb, hF, hnc, hcm, hcs, htake⟩ := h.open (by omega)
  subst hA hq
  injection e with e1 e2 e3
  injection e1 with e1
  injection e1 with e1 _
  subst e1 e3
  have hle : i * sz + sz ≤ n * sz := by
    rw [← Nat.succ_mul]
    exact Nat.mul_le_mul_right _ hi
  have hle2 : n * sz ≤ c * sz := Nat.mul_le_mul_right _ hnc
  refine SO.storeN hop hx hy hz hb (by omega) h1 hd ho hw fun w' hu hb' hs => k w' (hu.mono fun k _ hk => by simp only [At] at hk; subst hk; exact hF) ?_ hs
  have h2 := Own.shut (sz := sz) (n := n) hb' hF hnc hcm (by simp only [List.size_toArray, List.length_append, List.length_take, List.length_drop, Array.length_toList]; omega)
  have h3 := take_put (cur := cur.toList) (q := i * sz) (m := n * sz) hus hle (by simp only [Array.length_toList]; omega)
  rw [htake] at h3
  rw [hus] at h2
  simp only at h2
  rw [h3] at h2
  exact h2
end
end Go.Proofs.Ytncakfcafkfmfaa

/-
  types: the reference's stands, done, Free, in.
-/
namespace Go.Proofs.Ytncakfcafkfmfaa
open Go
set_option linter.unusedSimpArgs false
set_option linter.unusedVariables false

theorem r_eqlArr2 {P : Program} {o : Oper} {ρ : Operand → Value} {w : World} {x y : Operand} {t e u : TypeId} {a b c d : Int} (ho : o.op = .binOp .eql t x y u) (hx : ρ x = .agg #[.int .i64 a, .int .i64 b]) (hy : ρ y = .agg #[.int .i64 c, .int .i64 d]) (h : Arr2 P t e) :
    (execOp ρ o).run P w = .ok (.value (.bool (decide (a = c) && decide (b = d)))) w := by
  have h1 : (Op.equalIn 10000 t (.agg #[.int .i64 a, .int .i64 b]) (.agg #[.int .i64 c, .int .i64 d])).run P w = .ok (decide (a = c) && decide (b = d)) w := run_eqlArr2 h w a b c d
  have e3 := run_eql_struct (P := P) w t #[.int .i64 a, .int .i64 b] #[.int .i64 c, .int .i64 d]
  rw [h1] at e3
  have e4 := run_eqGuard_agg (P := P) w .eql t x y #[.int .i64 a, .int .i64 b] #[.int .i64 c, .int .i64 d] h.guard
  simp only [execOp, ho, hx, hy, Sem.run_bind, e4, e3, Result.andThen_ok, Sem.run_pure]

theorem stands_ok {w : World} {F Gv Go Gd : Nat → Prop} {p : Nat} {σ : Sg} {D : Dn} {nn : Int} {xs : List C3} {Av Ao Ad : Option Addr} {cv co cd : Nat} {x : Int} (hI : IsRf w F Gv Go Gd p σ D nn xs Av Ao Ad cv co cd) :
    Ret Try.prog 50 #[.pointer (some ⟨p, 0, none⟩), .int .i64 x] w fun v w' => ∃ (u : Ty) (m : Int) (A : Option Addr) (k : Nat) (ok : Bool), v = .tuple #[.agg #[.string ⟨u.nm.toArray⟩, .int .i64 m, .slice A u.kids.length k], .bool ok] ∧ TV w' F (.string ⟨u.nm.toArray⟩, .int .i64 m, .slice A u.kids.length k) u ∧ (∀ x, u = .v x → m = x) ∧ (ok = true → look σ x = some u) ∧ (ok = false → look σ x = none) ∧ Upd No w w' := by
  have hhd := hI.hd
  have hrv := hI.vs.rd (by have := hI.le; omega)
  have hro := hI.of_.rd (by have := hI.le; omega)
  have htv := hI.tv
  have hlp := hhd.lt
  refine enterRet (vs := [_, _]) (N := 33) Try.func50 rfl rfl rfl ?_
  have hU := Upd.refl No w
  refine WC.keep [(0, _), (1, _)] ⟨rfl, rfl, trivial⟩ ?_
  refine WC.seq ?_
  refine WC.region ?_
  refine WL.cons (SO.alloc rfl rfl rfl rfl (r_alloc rfl zero_28) ?_)
  intro w1 hu1 hB1 hz1
  have hs1 := hu1.size
  replace hU := hU.transA hu1
  refine WL.val rfl rfl rfl rfl (r_assign rfl ev_c) ?_
  refine WL.nil ?_
  refine WX.keep [(0, _), (1, _), (4, _)] ⟨rfl, rfl, rfl, trivial⟩ ?_
  refine WX.next ?_
  refine WC.seq ?_
  refine WC.seq ?_
  refine WC.region ?_
  refine WL.val rfl rfl rfl rfl (r_assign rfl ev_c) ?_
  refine WL.nil ?_
  refine WX.keep [(0, _), (1, _), (4, _), (6, _)] ⟨rfl, rfl, rfl, rfl, trivial⟩ ?_
  refine WX.next ?_
  refine WC.block ?_
  -- loop 1: live [0, 1, 4, 6]
  refine WC.keep [(0, _), (1, _), (4, _), (6, _)] ⟨rfl, rfl, rfl, rfl, trivial⟩ ?_
  refine WC.loop (fun q E w' => ∃ (i : Nat), i ≤ σ.length ∧ q = σ.length - i ∧ Upd No w w' ∧ Blk w' w.heap.size #[.string ⟨#[]⟩, .int .i64 0, .slice none 0 0] typ ∧ (∀ j, j < i → (σ.map (·.1))[j]? ≠ some x) ∧   E = [(0, .pointer (some ⟨p, 0, none⟩)), (1, .int .i64 x), (4, .pointer (some ⟨w.heap.size, 0, none⟩)), (6, .int .i64 (i : Int))]) (σ.length) ?_ ?_
  · exact ⟨0, by omega, by omega, hU, hB1, fun j h => by omega, rfl⟩
  · clear hU hB1
    rintro q E w' ⟨i, hi, rfl, hU, hB1, hno, rfl⟩
    have hle := hI.le
    refine WC.seq ?_
    refine WC.seq ?_
    refine WC.region ?_
    refine WL.val rfl rfl rfl rfl (r_move rfl (ev_t rfl)) ?_
    refine WL.val rfl rfl rfl rfl (r_move rfl (ev_t rfl)) ?_
    refine WL.val rfl rfl rfl rfl (r_nilCheck rfl (ev_t rfl)) ?_
    first | refine WL.val rfl rfl rfl rfl (r_field0 rfl (ev_t rfl) fld_46_1) ?_ | refine WL.val rfl rfl rfl rfl (r_fieldAt rfl (ev_t rfl) fld_46_1) ?_
    refine WL.val rfl rfl rfl rfl (r_load rfl (ev_t rfl) flat_33 (Blk.cell (hhd.upd hU (fun h => h)) rfl)) ?_
    refine WL.val rfl rfl rfl rfl (r_lenSlice (ts := #[]) rfl (ev_t rfl) elem_33) ?_
    refine WL.val rfl rfl rfl rfl (r_lss rfl (ev_t rfl) (ev_t rfl)) ?_
    refine WL.nil ?_
    refine WX.keep [(0, _), (1, _), (4, _), (6, _), (13, _)] ⟨rfl, rfl, rfl, rfl, rfl, trivial⟩ ?_
    refine WX.next ?_
    refine WC.cond rfl (ev_t rfl) (fun hc2 => ?_) (fun hc2 => ?_)
    · try (exfalso; first | (simp at hc2; done) | (simp only [decide_eq_true_eq, decide_eq_false_iff_not, Bool.not_eq_true', Bool.not_eq_false', Bool.not_eq_true, Bool.not_eq_false] at hc2; omega) | omega)
      all_goals
       try simp only [decide_eq_true_eq, decide_eq_false_iff_not, Bool.not_eq_true', Bool.not_eq_false', Bool.not_eq_true, Bool.not_eq_false, Option.isNone_none, Option.isNone_some, Option.isSome_none, Option.isSome_some, ne_eq, Decidable.not_not] at hc2
       have hi' : i < σ.length := by omega
       obtain ⟨bv0, offv, hAv, _⟩ := (show Rd w Gv (.slice Av σ.length cv) σ.length 1 ((σ.map (·.1)).map I6) from hrv).open (by omega)
       subst hAv
       obtain ⟨ki, hki⟩ := get_ex (l := σ.map (·.1)) (i := i) (by simpa using hi')
       refine WC.skip ?_
       refine WX.next ?_
       refine WC.seq ?_
       refine WC.block ?_
       refine WC.seq ?_
       refine WC.region ?_
       refine WL.val rfl rfl rfl rfl (r_move rfl (ev_t rfl)) ?_
       refine WL.val rfl rfl rfl rfl (r_nilCheck rfl (ev_t rfl)) ?_
       first | refine WL.val rfl rfl rfl rfl (r_field0 rfl (ev_t rfl) fld_46_1) ?_ | refine WL.val rfl rfl rfl rfl (r_fieldAt rfl (ev_t rfl) fld_46_1) ?_
       refine WL.val rfl rfl rfl rfl (r_load rfl (ev_t rfl) flat_33 (Blk.cell (hhd.upd hU (fun h => h)) rfl)) ?_
       refine WL.val rfl rfl rfl rfl (r_move rfl (ev_t rfl)) ?_
       refine WL.val rfl rfl rfl rfl (r_indexAddr rfl (ev_t rfl) (ev_t rfl) elem_33 size_3 (by omega) (by omega)) ?_
       refine WL.val rfl rfl rfl rfl (r_load rfl (ev_t rfl) flat_3 (Rd.cell (hrv.upd hU (fun _ _ _ h => h)) (j := i) (u := I6 ki) (by omega) (by rw [List.getElem?_map, hki]; rfl))) ?_
       refine WL.val rfl rfl rfl rfl (r_move rfl (ev_t rfl)) ?_
       refine WL.val rfl rfl rfl rfl (r_eql rfl (ev_t rfl) (ev_t rfl)) ?_
       refine WL.nil ?_
       refine WX.keep [(0, _), (1, _), (4, _), (6, _), (24, _)] ⟨rfl, rfl, rfl, rfl, rfl, trivial⟩ ?_
       refine WX.next ?_
       refine WC.cond rfl (ev_t rfl) (fun hc4 => ?_) (fun hc4 => ?_)
       · try (exfalso; first | (simp at hc4; done) | (simp only [decide_eq_true_eq, decide_eq_false_iff_not, Bool.not_eq_true', Bool.not_eq_false', Bool.not_eq_true, Bool.not_eq_false] at hc4; omega) | omega)
         all_goals
          try simp only [decide_eq_true_eq, decide_eq_false_iff_not, Bool.not_eq_true', Bool.not_eq_false', Bool.not_eq_true, Bool.not_eq_false, Option.isNone_none, Option.isNone_some, Option.isSome_none, Option.isSome_some, ne_eq, Decidable.not_not] at hc4
          obtain rfl : ki = x := by simpa using hc4
          obtain ⟨bo0, offo, hAo, _⟩ := (show Rd w Go (.slice Ao σ.length co) σ.length 3 (xs.flatMap c3) from hro).open (by omega)
          subst hAo
          obtain ⟨ui, hui⟩ := get_ex (l := σ.map (·.2)) (i := i) (by simpa using hi')
          have hlk := look_at hki hno hui
          have hxl : i < xs.length := by rw [hI.tlen]; exact hi'
          have hxi : xs[i]? = some xs[i] := List.getElem?_eq_getElem hxl
          have hti := htv.2 i _ _ hxi hui
          generalize xs[i] = ci at *
          obtain ⟨c1, c2, c3'⟩ := ci
          obtain ⟨md, Ad', kd, xkd, rfl, rfl, rfl, hmd, _⟩ := hti.open
          refine WC.seq ?_
          refine WC.region ?_
          refine WL.val rfl rfl rfl rfl (r_move rfl (ev_t rfl)) ?_
          refine WL.val rfl rfl rfl rfl (r_nilCheck rfl (ev_t rfl)) ?_
          first | refine WL.val rfl rfl rfl rfl (r_field0 rfl (ev_t rfl) fld_46_2) ?_ | refine WL.val rfl rfl rfl rfl (r_fieldAt rfl (ev_t rfl) fld_46_2) ?_
          refine WL.val rfl rfl rfl rfl (r_load rfl (ev_t rfl) flat_26 (Blk.cell (hhd.upd hU (fun h => h)) rfl)) ?_
          refine WL.val rfl rfl rfl rfl (r_move rfl (ev_t rfl)) ?_
          refine WL.val rfl rfl rfl rfl (r_indexAddr rfl (ev_t rfl) (ev_t rfl) elem_26 size_28 (by omega) (by omega)) ?_
          refine WL.val rfl rfl rfl rfl (r_loadAgg (vs := [_, _, _]) rfl (ev_t rfl) agg_28 size_28 (kid_cells (hro.upd hU (fun _ _ _ h => h)) hxi rfl)) ?_
          refine WL.cons (SO.storeAll (us := [_, _, _]) rfl (ev_t rfl) (ev_t rfl) size_28 hB1 rfl rfl rfl rfl rfl ?_)
          intro w2 hu2 hB1 hz2
          have hs2 := hu2.size
          replace hU := hU.transA hu2
          refine WL.val rfl rfl rfl rfl (r_assign rfl ev_c) ?_
          refine WL.nil ?_
          refine WX.keep [(4, _), (5, _)] ⟨rfl, rfl, trivial⟩ ?_
          refine WX.next ?_
          refine WC.ret ?_
          refine WX.blockRet ?_
          refine WX.thenRet ?_
          refine WX.thenRet ?_
          refine WX.blockRet ?_
          refine WX.thenRet ?_
          refine WX.retM (l := [.cell 4 28, .tmp 5]) (vs := [_, _]) rfl ⟨⟨_, [_, _, _], rfl, agg_28, size_28, (Blk.cellsL hB1), rfl⟩, ⟨rfl, trivial⟩⟩ ?_
          exact ⟨ui, _, _, _, true, rfl, hti.upd hU (fun _ _ _ h => h), hmd, fun _ => hlk, fun h => Bool.noConfusion h, hU⟩
       · try (exfalso; first | (simp at hc4; done) | (simp only [decide_eq_true_eq, decide_eq_false_iff_not, Bool.not_eq_true', Bool.not_eq_false', Bool.not_eq_true, Bool.not_eq_false] at hc4; omega) | omega)
         all_goals
          try simp only [decide_eq_true_eq, decide_eq_false_iff_not, Bool.not_eq_true', Bool.not_eq_false', Bool.not_eq_true, Bool.not_eq_false, Option.isNone_none, Option.isNone_some, Option.isSome_none, Option.isSome_some, ne_eq, Decidable.not_not] at hc4
          refine WC.skip ?_
          refine WX.blockNormal ?_
          refine WX.next ?_
          refine WC.region ?_
          refine WL.val rfl rfl rfl rfl (r_move rfl (ev_t rfl)) ?_
          first | refine WL.val rfl rfl rfl rfl (r_addN rfl (ev_t rfl) ev_c (by simp only [inK]; omega)) ?_ | refine WL.val rfl rfl rfl rfl (r_add rfl (ev_t rfl) ev_c) ?_
          refine WL.val rfl rfl rfl rfl (r_assign rfl (ev_t rfl)) ?_
          refine WL.nil ?_
          refine WX.keep [(0, _), (1, _), (4, _), (6, _)] ⟨rfl, rfl, rfl, rfl, trivial⟩ ?_
          refine WX.meet [(0, _), (1, _), (4, _), (6, _)] ⟨rfl, rfl, rfl, rfl, trivial⟩ ?_
          refine ⟨σ.length - (i + 1), by omega, i + 1, by omega, rfl, hU, hB1, fun j hj => ?_, by simp⟩
          rcases Nat.lt_or_ge j i with h | h
          · exact hno j h
          · obtain rfl : j = i := by omega
            rw [hki]
            intro e
            injection e with e
            exact hc4 e
    · try (exfalso; first | (simp at hc2; done) | (simp only [decide_eq_true_eq, decide_eq_false_iff_not, Bool.not_eq_true', Bool.not_eq_false', Bool.not_eq_true, Bool.not_eq_false] at hc2; omega) | omega)
      all_goals
       try simp only [decide_eq_true_eq, decide_eq_false_iff_not, Bool.not_eq_true', Bool.not_eq_false', Bool.not_eq_true, Bool.not_eq_false, Option.isNone_none, Option.isNone_some, Option.isSome_none, Option.isSome_some, ne_eq, Decidable.not_not] at hc2
       obtain rfl : i = σ.length := by omega
       refine WC.exit ?_
       refine WX.thenExit ?_
       refine WX.thenExit ?_
       refine WX.blockHere ?_
       refine WX.next ?_
       refine WC.seq ?_
       refine WC.region ?_
       refine WL.val rfl rfl rfl rfl (r_build (cs := #[_, _, _]) (vs := []) rfl trivial plc_28 zero_28 rfl) ?_
       refine WL.cons (SO.storeAll (us := [_, _, _]) rfl (ev_t rfl) (ev_t rfl) size_28 hB1 rfl rfl rfl rfl rfl ?_)
       intro w3 hu3 hB1 hz3
       have hs3 := hu3.size
       replace hU := hU.transA hu3
       refine WL.val rfl rfl rfl rfl (r_assign rfl ev_c) ?_
       refine WL.nil ?_
       refine WX.keep [(4, _), (5, _)] ⟨rfl, rfl, trivial⟩ ?_
       refine WX.next ?_
       refine WC.ret ?_
       refine WX.retM (l := [.cell 4 28, .tmp 5]) (vs := [_, _]) rfl ⟨⟨_, [_, _, _], rfl, agg_28, size_28, (Blk.cellsL hB1), rfl⟩, ⟨rfl, trivial⟩⟩ ?_
       exact ⟨.v 0, _, _, _, false, rfl, TV.nil 0, fun x h => by injection h, fun h => Bool.noConfusion h, fun _ => look_no hno, hU⟩

/-- the rows and the head, apart -/
structure Sep (w : World) (F G Gv Go Gd : Nat → Prop) (p : Nat) : Prop where
  hp : G p
  v : ∀ k, Gv k → G k ∧ k ≠ p ∧ ¬ Go k ∧ ¬ Gd k
  o : ∀ k, Go k → G k ∧ k ≠ p ∧ ¬ Gd k
  d : ∀ k, Gd k → G k ∧ k ≠ p
  f : ∀ k, F k → ¬ G k
  lt : ∀ k, G k → k < w.heap.size
def RS (w : World) (F G : Nat → Prop) (p : Nat) (σ : Sg) (D : Dn) (nn : Int) : Prop := ∃ (Gv Go Gd : Nat → Prop) (xs : List C3) (Av Ao Ad : Option Addr) (cv co cd : Nat), IsRf w F Gv Go Gd p σ D nn xs Av Ao Ad cv co cd ∧ Sep w F G Gv Go Gd p
theorem RS.upd {w w' : World} {F G S : Nat → Prop} {p : Nat} {σ : Sg} {D : Dn} {nn : Int} (h : RS w F G p σ D nn) (hu : Upd S w w') (hn : ∀ k, F k ∨ G k → k < w.heap.size → ¬ S k) : RS w' F G p σ D nn := by
  obtain ⟨Gv, Go, Gd, xs, Av, Ao, Ad, cv, co, cd, h1, h2⟩ := h
  refine ⟨Gv, Go, Gd, xs, Av, Ao, Ad, cv, co, cd, h1.upd hu (hn p (.inr h2.hp) (h2.lt _ h2.hp)) (fun k hk hl => hn k ?_ hl), h2.hp, h2.v, h2.o, h2.d, h2.f, fun k hk => by have := h2.lt k hk; have := hu.size; omega⟩
  rcases hk with hk | hk | hk | hk
  · exact .inl hk
  · exact .inr (h2.v k hk).1
  · exact .inr (h2.o k hk).1
  · exact .inr (h2.d k hk).1
theorem RS.mono {w : World} {F F' G : Nat → Prop} {p : Nat} {σ : Sg} {D : Dn} {nn : Int} (h : RS w F G p σ D nn) (hF : ∀ k, F k → F' k) (hd : ∀ k, F' k → ¬ G k) : RS w F' G p σ D nn := by
  obtain ⟨Gv, Go, Gd, xs, Av, Ao, Ad, cv, co, cd, h1, h2⟩ := h
  exact ⟨Gv, Go, Gd, xs, Av, Ao, Ad, cv, co, cd, h1.mono hF, h2.hp, h2.v, h2.o, h2.d, hd, h2.lt⟩
theorem RS.lt {w : World} {F G : Nat → Prop} {p : Nat} {σ : Sg} {D : Dn} {nn : Int} (h : RS w F G p σ D nn) : ∀ k, G k → k < w.heap.size := by
  obtain ⟨Gv, Go, Gd, xs, Av, Ao, Ad, cv, co, cd, h1, h2⟩ := h
  exact h2.lt
theorem RS.f {w : World} {F G : Nat → Prop} {p : Nat} {σ : Sg} {D : Dn} {nn : Int} (h : RS w F G p σ D nn) : ∀ k, F k → ¬ G k := by
  obtain ⟨Gv, Go, Gd, xs, Av, Ao, Ad, cv, co, cd, h1, h2⟩ := h
  exact h2.f
theorem RS.le {w : World} {F G : Nat → Prop} {p : Nat} {σ : Sg} {D : Dn} {nn : Int} (h : RS w F G p σ D nn) : σ.length ≤ 1000000000 ∧ D.length ≤ 1000000000 := by
  obtain ⟨Gv, Go, Gd, xs, Av, Ao, Ad, cv, co, cd, h1, h2⟩ := h
  exact h1.le
theorem pr2_cells {w : World} {F : Nat → Prop} {b off n c q i : Nat} {D : Dn} {x : Int × Int} (hr : Rd w F (.slice (some ⟨b, off, none⟩) n c) n 2 (D.flatMap pr2)) (hx : D[i]? = some x) (hq : q = off + i * 2) : CellsAt w ⟨b, q, none⟩ [.int .i64 x.1, .int .i64 x.2] := by
  subst hq
  exact Rd.cellsL (i := i * 2) hr rfl fun j v hj => flatMap_get pr2_len hx j v hj
theorem done_ok {w : World} {F G : Nat → Prop} {p : Nat} {σ : Sg} {D : Dn} {nn : Int} {x y : Int} (hI : RS w F G p σ D nn) (hFb : ∀ k, F k → k < w.heap.size) (hD : (x, y) ∉ D → D.length + 1 ≤ 1000000000) :
    Ret Try.prog 35 #[.pointer (some ⟨p, 0, none⟩), .int .i64 x, .int .i64 y] w fun v w' => v = .bool (decide ((x, y) ∈ D)) ∧ (∃ G', RS w' F G' p σ (if (x, y) ∈ D then D else D ++ [(x, y)]) nn ∧ ∀ k, G' k → G k ∨ w.heap.size ≤ k) ∧ Upd G w w' := by
  obtain ⟨Gv, Go, Gd, xs, Av, Ao, Ad, cv, co, cd, hI, hs⟩ := hI
  have hhd := hI.hd
  have hvs := hI.vs
  have hof := hI.of_
  have hdn := hI.dn
  have htv := hI.tv
  have hlp := hhd.lt
  have hle := hI.le
  have hrd := hdn.rd (by omega)
  refine enterRet (vs := [_, _, _]) (N := 40) Try.func35 rfl rfl rfl ?_
  have hU := Upd.refl G w
  refine WC.keep [(0, _), (1, _), (2, _)] ⟨rfl, rfl, rfl, trivial⟩ ?_
  refine WC.seq ?_
  refine WC.region ?_
  refine WL.val rfl rfl rfl rfl (r_assign rfl ev_c) ?_
  refine WL.nil ?_
  refine WX.keep [(0, _), (1, _), (2, _)] ⟨rfl, rfl, rfl, trivial⟩ ?_
  refine WX.next ?_
  refine WC.seq ?_
  refine WC.seq ?_
  refine WC.region ?_
  refine WL.val rfl rfl rfl rfl (r_assign rfl ev_c) ?_
  refine WL.nil ?_
  refine WX.keep [(0, _), (1, _), (2, _), (7, _)] ⟨rfl, rfl, rfl, rfl, trivial⟩ ?_
  refine WX.next ?_
  refine WC.block ?_
  -- loop 1: live [0, 1, 2, 7]
  refine WC.keep [(0, _), (1, _), (2, _), (7, _)] ⟨rfl, rfl, rfl, rfl, trivial⟩ ?_
  refine WC.loop (fun q E w' => ∃ (i : Nat), w = w' ∧ i ≤ D.length ∧ q = D.length - i ∧ (∀ j, j < i → D[j]? ≠ some (x, y)) ∧   E = [(0, .pointer (some ⟨p, 0, none⟩)), (1, .int .i64 x), (2, .int .i64 y), (7, .int .i64 (i : Int))]) (D.length) ?_ ?_
  · exact ⟨0, rfl, by omega, by omega, fun j h => by omega, rfl⟩
  · rintro q E w' ⟨i, rfl, hi, rfl, hno, rfl⟩
    refine WC.seq ?_
    refine WC.seq ?_
    refine WC.region ?_
    refine WL.val rfl rfl rfl rfl (r_move rfl (ev_t rfl)) ?_
    refine WL.val rfl rfl rfl rfl (r_move rfl (ev_t rfl)) ?_
    refine WL.val rfl rfl rfl rfl (r_nilCheck rfl (ev_t rfl)) ?_
    first | refine WL.val rfl rfl rfl rfl (r_field0 rfl (ev_t rfl) fld_46_3) ?_ | refine WL.val rfl rfl rfl rfl (r_fieldAt rfl (ev_t rfl) fld_46_3) ?_
    refine WL.val rfl rfl rfl rfl (r_load rfl (ev_t rfl) flat_44 (Blk.cell hhd rfl)) ?_
    refine WL.val rfl rfl rfl rfl (r_lenSlice (ts := #[]) rfl (ev_t rfl) elem_44) ?_
    refine WL.val rfl rfl rfl rfl (r_lss rfl (ev_t rfl) (ev_t rfl)) ?_
    refine WL.nil ?_
    refine WX.keep [(0, _), (1, _), (2, _), (7, _), (14, _)] ⟨rfl, rfl, rfl, rfl, rfl, trivial⟩ ?_
    refine WX.next ?_
    refine WC.cond rfl (ev_t rfl) (fun hc2 => ?_) (fun hc2 => ?_)
    · try (exfalso; first | (simp at hc2; done) | (simp only [decide_eq_true_eq, decide_eq_false_iff_not, Bool.not_eq_true', Bool.not_eq_false', Bool.not_eq_true, Bool.not_eq_false] at hc2; omega) | omega)
      all_goals
       try simp only [decide_eq_true_eq, decide_eq_false_iff_not, Bool.not_eq_true', Bool.not_eq_false', Bool.not_eq_true, Bool.not_eq_false, Option.isNone_none, Option.isNone_some, Option.isSome_none, Option.isSome_some, ne_eq, Decidable.not_not] at hc2
       have hi' : i < D.length := by omega
       obtain ⟨bd0, offd, hAd, _⟩ := hrd.open (by omega)
       subst hAd
       obtain ⟨di, hdi⟩ := get_ex (l := D) (i := i) hi'
       refine WC.skip ?_
       refine WX.next ?_
       refine WC.seq ?_
       refine WC.block ?_
       refine WC.seq ?_
       refine WC.region ?_
       refine WL.val rfl rfl rfl rfl (r_move rfl (ev_t rfl)) ?_
       refine WL.val rfl rfl rfl rfl (r_nilCheck rfl (ev_t rfl)) ?_
       first | refine WL.val rfl rfl rfl rfl (r_field0 rfl (ev_t rfl) fld_46_3) ?_ | refine WL.val rfl rfl rfl rfl (r_fieldAt rfl (ev_t rfl) fld_46_3) ?_
       refine WL.val rfl rfl rfl rfl (r_load rfl (ev_t rfl) flat_44 (Blk.cell hhd rfl)) ?_
       refine WL.val rfl rfl rfl rfl (r_move rfl (ev_t rfl)) ?_
       refine WL.val rfl rfl rfl rfl (r_indexAddr rfl (ev_t rfl) (ev_t rfl) elem_44 size_60 (by omega) (by omega)) ?_
       refine WL.val rfl rfl rfl rfl (r_loadAgg (vs := [_, _]) rfl (ev_t rfl) agg_60 size_60 (pr2_cells hrd hdi rfl)) ?_
       refine WL.val rfl rfl rfl rfl (r_move rfl (ev_t rfl)) ?_
       refine WL.val rfl rfl rfl rfl (r_move rfl (ev_t rfl)) ?_
       refine WL.val rfl rfl rfl rfl (r_buildA (cs := #[_, _]) (vs := [(0, _), (1, _)]) rfl ⟨⟨rfl, (ev_t rfl)⟩, ⟨rfl, (ev_t rfl)⟩, trivial⟩ arrz_60 zero_60 rfl) ?_
       refine WL.val rfl rfl rfl rfl (r_eqlArr2 rfl (ev_t rfl) (ev_t rfl) arr2) ?_
       refine WL.nil ?_
       refine WX.keep [(0, _), (1, _), (2, _), (7, _), (27, _)] ⟨rfl, rfl, rfl, rfl, rfl, trivial⟩ ?_
       refine WX.next ?_
       refine WC.cond rfl (ev_t rfl) (fun hc4 => ?_) (fun hc4 => ?_)
       · try (exfalso; first | (simp at hc4; done) | (simp only [decide_eq_true_eq, decide_eq_false_iff_not, Bool.not_eq_true', Bool.not_eq_false', Bool.not_eq_true, Bool.not_eq_false] at hc4; omega) | omega)
         all_goals
          try simp only [decide_eq_true_eq, decide_eq_false_iff_not, Bool.not_eq_true', Bool.not_eq_false', Bool.not_eq_true, Bool.not_eq_false, Option.isNone_none, Option.isNone_some, Option.isSome_none, Option.isSome_some, ne_eq, Decidable.not_not] at hc4
          obtain rfl : di = (x, y) := by simp at hc4; exact Prod.ext hc4.1 hc4.2
          have hm : (x, y) ∈ D := List.mem_of_getElem? hdi
          refine WC.seq ?_
          refine WC.region ?_
          refine WL.val rfl rfl rfl rfl (r_assign rfl ev_c) ?_
          refine WL.nil ?_
          refine WX.keep [(6, _)] ⟨rfl, trivial⟩ ?_
          refine WX.next ?_
          refine WC.ret ?_
          refine WX.blockRet ?_
          refine WX.thenRet ?_
          refine WX.thenRet ?_
          refine WX.blockRet ?_
          refine WX.thenRet ?_
          refine WX.retE1 rfl rfl ?_
          exact ⟨by rw [decide_eq_true hm], ⟨G, by rw [if_pos hm]; exact ⟨Gv, Go, Gd, xs, Av, _, _, cv, co, cd, hI, hs⟩, fun k h => .inl h⟩, hU⟩
       · try (exfalso; first | (simp at hc4; done) | (simp only [decide_eq_true_eq, decide_eq_false_iff_not, Bool.not_eq_true', Bool.not_eq_false', Bool.not_eq_true, Bool.not_eq_false] at hc4; omega) | omega)
         all_goals
          try simp only [decide_eq_true_eq, decide_eq_false_iff_not, Bool.not_eq_true', Bool.not_eq_false', Bool.not_eq_true, Bool.not_eq_false, Option.isNone_none, Option.isNone_some, Option.isSome_none, Option.isSome_some, ne_eq, Decidable.not_not] at hc4
          refine WC.skip ?_
          refine WX.blockNormal ?_
          refine WX.next ?_
          refine WC.region ?_
          refine WL.val rfl rfl rfl rfl (r_move rfl (ev_t rfl)) ?_
          first | refine WL.val rfl rfl rfl rfl (r_addN rfl (ev_t rfl) ev_c (by simp only [inK]; omega)) ?_ | refine WL.val rfl rfl rfl rfl (r_add rfl (ev_t rfl) ev_c) ?_
          refine WL.val rfl rfl rfl rfl (r_assign rfl (ev_t rfl)) ?_
          refine WL.nil ?_
          refine WX.keep [(0, _), (1, _), (2, _), (7, _)] ⟨rfl, rfl, rfl, rfl, trivial⟩ ?_
          refine WX.meet [(0, _), (1, _), (2, _), (7, _)] ⟨rfl, rfl, rfl, rfl, trivial⟩ ?_
          refine ⟨D.length - (i + 1), by omega, i + 1, rfl, by omega, rfl, fun j hj => ?_, rfl⟩
          rcases Nat.lt_or_ge j i with h | h
          · exact hno j h
          · obtain rfl : j = i := by omega
            rw [hdi]
            intro e
            injection e with e
            subst e
            simp at hc4
    · try (exfalso; first | (simp at hc2; done) | (simp only [decide_eq_true_eq, decide_eq_false_iff_not, Bool.not_eq_true', Bool.not_eq_false', Bool.not_eq_true, Bool.not_eq_false] at hc2; omega) | omega)
      all_goals
       try simp only [decide_eq_true_eq, decide_eq_false_iff_not, Bool.not_eq_true', Bool.not_eq_false', Bool.not_eq_true, Bool.not_eq_false, Option.isNone_none, Option.isNone_some, Option.isSome_none, Option.isSome_some, ne_eq, Decidable.not_not] at hc2
       obtain rfl : i = D.length := by omega
       have hm : (x, y) ∉ D := fun h => by
         obtain ⟨j, hj⟩ := List.getElem?_of_mem h
         exact hno j ((List.getElem?_eq_some_iff.1 hj).1) hj
       refine WC.exit ?_
       refine WX.thenExit ?_
       refine WX.thenExit ?_
       refine WX.blockHere ?_
       refine WX.next ?_
       refine WC.seq ?_
       refine WC.region ?_
       refine WL.val rfl rfl rfl rfl (r_move rfl (ev_t rfl)) ?_
       refine WL.val rfl rfl rfl rfl (r_move rfl (ev_t rfl)) ?_
       refine WL.val rfl rfl rfl rfl (r_nilCheck rfl (ev_t rfl)) ?_
       first | refine WL.val rfl rfl rfl rfl (r_field0 rfl (ev_t rfl) fld_46_3) ?_ | refine WL.val rfl rfl rfl rfl (r_fieldAt rfl (ev_t rfl) fld_46_3) ?_
       refine WL.val rfl rfl rfl rfl (r_load rfl (ev_t rfl) flat_44 (Blk.cell hhd rfl)) ?_
       refine WL.val rfl rfl rfl rfl (r_move rfl (ev_t rfl)) ?_
       refine WL.val rfl rfl rfl rfl (r_move rfl (ev_t rfl)) ?_
       refine WL.val rfl rfl rfl rfl (r_buildA (cs := #[_, _]) (vs := [(0, _), (1, _)]) rfl ⟨⟨rfl, (ev_t rfl)⟩, ⟨rfl, (ev_t rfl)⟩, trivial⟩ arrz_60 zero_60 rfl) ?_
       refine WL.cons (SO.alloc rfl rfl rfl rfl (r_buildSlice (cs := #[_, _]) (vs := [(0, _)]) rfl ⟨⟨rfl, (ev_t rfl)⟩, trivial⟩ row_44 rfl rfl) ?_)
       intro w1 hu1 hB1 hz1
       have hs1 := hu1.size
       replace hU := hU.trans hu1 (by exact (fun _ _ h => h.elim))
       replace hhd := hhd.upd hu1 (fun hS => by exact (show False from hS))
       replace hvs := hvs.upd hu1 (fun k hk hl hS => by exact (show False from hS).elim)
       replace hof := hof.upd hu1 (fun k hk hl hS => by exact (show False from hS).elim)
       replace hdn := hdn.upd hu1 (fun k hk hl hS => by exact (show False from hS).elim)
       replace htv := htv.upd hu1 (fun k hk hl hS => by exact (show False from hS).elim)
       refine WL.cons (SO.append hdn (show Rd _ _ _ 1 2 [Value.int .i64 x, .int .i64 y] from Rd.of_blk (F := At _) (n := 1) (sz := 2) hB1 rfl rfl (by omega)) row_44 (by intro u hu; simp only [List.mem_cons, List.not_mem_nil, or_false] at hu; rcases hu with rfl | rfl <;> rfl) (le_maxLen (by omega)) (by omega) rfl (ev_t rfl) (ev_t rfl) rfl rfl rfl rfl ?_)
       intro v2 w2 hdn hu2
       have hs2 := hu2.size
       replace hU := hU.trans hu2 (by (intro k hl hk; first | exact (show False from hk).elim | exact (hs.d k hk).1 | (simp only [At] at hk; subst hk; exact hs.hp)))
       replace hhd := hhd.upd hu2 (fun hS => by exact (hs.d p hS).2 rfl)
       replace hvs := hvs.upd hu2 (fun k hk hl hS => by exact (hs.v k hk).2.2.2 hS)
       replace hof := hof.upd hu2 (fun k hk hl hS => by exact (hs.o k hk).2.2 hS)
       replace htv := htv.upd hu2 (fun k hk hl hS => by exact hs.f k hk (hs.d k hS).1)
       obtain ⟨A2, c2, rfl, hc2⟩ := Own.form hdn
       refine WL.val rfl rfl rfl rfl (r_nilCheck rfl (ev_t rfl)) ?_
       first | refine WL.val rfl rfl rfl rfl (r_field0 rfl (ev_t rfl) fld_46_3) ?_ | refine WL.val rfl rfl rfl rfl (r_fieldAt rfl (ev_t rfl) fld_46_3) ?_
       refine WL.cons (SO.store rfl (ev_t rfl) (ev_t rfl) size_44 hhd rfl rfl rfl rfl rfl ?_)
       intro w3 hu3 hhd hz3
       have hs3 := hu3.size
       replace hU := hU.trans hu3 (by (intro k hl hk; first | exact (show False from hk).elim | exact (hs.d k hk).1 | (simp only [At] at hk; subst hk; exact hs.hp)))
       replace hvs := hvs.upd hu3 (fun k hk hl hS => by (simp only [At] at hS; exact (hs.v k hk).2.1 hS))
       replace hof := hof.upd hu3 (fun k hk hl hS => by (simp only [At] at hS; exact (hs.o k hk).2.1 hS))
       replace hdn := hdn.upd hu3 (fun k hk hl hS => by (simp only [At] at hS; rcases hk with hk | hk; exact (hs.d k hk).2 hS; omega))
       replace htv := htv.upd hu3 (fun k hk hl hS => by (simp only [At] at hS; subst hS; exact hs.f _ hk hs.hp))
       refine WL.nil ?_
       refine WX.keep [] trivial ?_
       refine WX.next ?_
       refine WC.seq ?_
       refine WC.region ?_
       refine WL.val rfl rfl rfl rfl (r_assign rfl ev_c) ?_
       refine WL.nil ?_
       refine WX.keep [(6, _)] ⟨rfl, trivial⟩ ?_
       refine WX.next ?_
       refine WC.ret ?_
       refine WX.retE1 rfl rfl ?_
       refine ⟨by rw [decide_eq_false hm], ?_, hU⟩
       rw [if_neg hm]
       have hle2 : (D ++ [(x, y)]).length ≤ 1000000000 := by have := hD hm; simp; omega
       have eL : D.length + 1 = (D ++ [(x, y)]).length := by simp
       have eF : D.flatMap pr2 ++ [Value.int .i64 x, .int .i64 y] = (D ++ [(x, y)]).flatMap pr2 := by simp [pr2]
       have hdn2 := hdn
       rw [eL] at hhd hdn2
       rw [eF] at hdn2
       refine ⟨fun k => G k ∨ (w.heap.size ≤ k ∧ k < w3.heap.size), ⟨Gv, Go, _, xs, Av, Ao, _, cv, co, _, ⟨hhd, hvs, hof, hdn2, htv, ⟨hle.1, hle2⟩⟩, .inl hs.hp, fun k hk => ?_, fun k hk => ?_, fun k hk => ?_, fun k hk hg => ?_, fun k hk => ?_⟩, fun k hk => hk.imp (fun h => h) (fun h => h.1)⟩
       · have h := hs.v k hk
         refine ⟨.inl h.1, h.2.1, h.2.2.1, fun hk2 => ?_⟩
         rcases hk2 with h2 | h2
         · exact h.2.2.2 h2
         · have := hs.lt k h.1; omega
       · have h := hs.o k hk
         refine ⟨.inl h.1, h.2.1, fun hk2 => ?_⟩
         rcases hk2 with h2 | h2
         · exact h.2.2 h2
         · have := hs.lt k h.1; omega
       · rcases hk with h2 | h2
         · exact ⟨.inl (hs.d k h2).1, (hs.d k h2).2⟩
         · exact ⟨.inr (by omega), by omega⟩
       · rcases hg with hg | hg
         · exact hs.f k hk hg
         · have := hFb k hk; omega
       · rcases hk with hk | hk
         · have := hs.lt k hk; omega
         · omega
end Go.Proofs.Ytncakfcafkfmfaa

/-
  Types that are handed in, opened: alone, in a row, in pairs.
-/
namespace Go.Proofs.Ytncakfcafkfmfaa
open Go Go.ChangeShapes Go.WideShapes Go.ChangeAt Go.RowKit Go.Deep
set_option linter.unusedSimpArgs false
set_option linter.unusedVariables false

/-- a struct that is handed in -/
theorem open_struct_rep {H : Type} {enc : TypeId × Value → H} {P : Program} {W : World} {base : Nat} {v : Value} {d : DataW H} {ps : List MemPlace} {t : TypeId} {fs : Array Field} (ht : P.underlying t = some (.struct fs))
    (hv : Value.okWide P W .any base t v) (h : DataW.Trod enc P W 0 (fun _ => true) true t v d ps) (hw : (d.weights P t).all (· ≤ reachBytes) = true) : ∃ cs f, v = .agg cs ∧ Rep P W f t cs.toList := by
  obtain ⟨fuel, h⟩ := h
  obtain ⟨cs, rfl, hsz⟩ := okWide_struct ht hv
  exact ⟨cs, fuel, rfl, open_rep fuel t _ _ h hw⟩
theorem cellsTy : Try.prog.cellsOf typ = 3 := by kernel_rfl
theorem bytesTy : Try.prog.bytesOf typ = 48 := by kernel_rfl
theorem rep_tr {W : World} : ∀ (f : Nat) {cs : List Value}, Rep Try.prog W f typ cs → ∃ (p : C3 × Tr), cs = c3 p.1 ∧ TR W (fun k => k < W.heap.size) p.1 p.2
  | 0, cs, h => h.elim
  | f + 1, cs, h => by
    obtain ⟨g, hg, hl, hf⟩ := h.struct Try.underlying28
    obtain rfl : f = g := by omega
    obtain ⟨c0, c1, c2, rfl⟩ := len3 (hl.trans cellsTy)
    obtain ⟨s0, e0, k0⟩ := Rep.str (Rep.field hf 0 (n := 1) rfl rfl rfl (by kernel_rfl)) Try.underlying9
    obtain ⟨n1, e1, k1⟩ := Rep.int (Rep.field hf 1 (n := 1) rfl rfl rfl (by kernel_rfl)) Try.underlying3
    have hs : Rep Try.prog W f 26 [c2] := Rep.field hf 2 (n := 1) rfl rfl rfl (by kernel_rfl)
    obtain ⟨v, l, g2, _, h1, h2, h3, h4⟩ := hs.list (fun p : C3 × Tr => c3 p.1) (fun _ p => TR W (fun k => k < W.heap.size) p.1 p.2) Try.underlying26 (by show 0 < Try.prog.cellsOf typ; rw [cellsTy]; decide) (by show 0 < Try.prog.bytesOf typ; rw [bytesTy]; decide) (fun g' cs hlt hr => rep_tr g' hr)
    have f0 : c0 = .string ⟨s0.toArray⟩ := by injection e0
    have f1 : c1 = .int .i64 n1 := by injection e1
    have f2 : c2 = v := by injection h1
    subst f0 f1 f2
    have h3' : Rd W (fun k => k < W.heap.size) c2 l.length 3 (l.flatMap fun p => c3 p.1) := by
      have := h3
      rw [show Try.prog.cellsOf 28 = 3 from cellsTy] at this
      exact this
    have h2' : l.length * 48 ≤ 140737488351232 := by
      have := h2
      rw [show Try.prog.bytesOf 28 = 48 from bytesTy] at this
      exact this
    refine ⟨((.string ⟨s0.toArray⟩, .int .i64 n1, c2), .mk s0 n1 (l.map (·.2))), rfl, .mk (xs := l.map (·.1)) ?_ (by simp) (by simp; omega) k1 ?_⟩
    · rw [List.length_map, List.flatMap_map]
      exact h3'
    · intro i c k hc hk
      rw [List.getElem?_map] at hc hk
      cases hli : l[i]? with
      | none => rw [hli] at hc; cases hc
      | some p =>
        rw [hli] at hc hk
        injection hc with hc
        injection hk with hk
        subst hc hk
        exact h4 p (List.mem_of_getElem? hli)
theorem arg_tr {H : Type} {enc : TypeId × Value → H} {W : World} {base : Nat} {v : Value} {d : DataW H} {ps : List MemPlace} (hv : Value.okWide Try.prog W .any base typ v) (h : DataW.Trod enc Try.prog W 0 (fun _ => true) true typ v d ps) (hw : (d.weights Try.prog typ).all (· ≤ reachBytes) = true) :
    ∃ a b c t, v = .agg #[a, b, c] ∧ TR W (fun k => k < W.heap.size) (a, b, c) t := by
  obtain ⟨cs, f, rfl, hr⟩ := open_struct_rep Try.underlying28 hv h hw
  obtain ⟨⟨⟨a, b, c⟩, t⟩, h1, h2⟩ := rep_tr f hr
  refine ⟨a, b, c, t, ?_, h2⟩
  have : cs = #[a, b, c] := Array.ext' h1
  rw [this]
theorem rep_trs {W : World} {v : Value} (h : ∃ f, Rep Try.prog W f 26 [v]) : ∃ xs ts, ts.length * 48 ≤ 140737488351232 ∧ Rd W (fun k => k < W.heap.size) v ts.length 3 (xs.flatMap c3) ∧ TRs W (fun k => k < W.heap.size) xs ts := by
  obtain ⟨f, hs⟩ := h
  obtain ⟨v', l, g2, _, h1, h2, h3, h4⟩ := hs.list (fun p : C3 × Tr => c3 p.1) (fun _ p => TR W (fun k => k < W.heap.size) p.1 p.2) Try.underlying26 (by show 0 < Try.prog.cellsOf typ; rw [cellsTy]; decide) (by show 0 < Try.prog.bytesOf typ; rw [bytesTy]; decide) (fun g' cs hlt hr => rep_tr g' hr)
  have f2 : v = v' := by injection h1
  subst f2
  have h3' : Rd W (fun k => k < W.heap.size) v l.length 3 (l.flatMap fun p => c3 p.1) := by
    have := h3
    rw [show Try.prog.cellsOf 28 = 3 from cellsTy] at this
    exact this
  have h2' : l.length * 48 ≤ 140737488351232 := by
    have := h2
    rw [show Try.prog.bytesOf 28 = 48 from bytesTy] at this
    exact this
  refine ⟨l.map (·.1), l.map (·.2), by simpa using h2', ?_, by simp, fun i c k hc hk => ?_⟩
  · rw [List.length_map, List.flatMap_map]
    exact h3'
  · rw [List.getElem?_map] at hc hk
    cases hli : l[i]? with
    | none => rw [hli] at hc; cases hc
    | some p =>
      rw [hli] at hc hk
      injection hc with hc
      injection hk with hk
      subst hc hk
      exact h4 p (List.mem_of_getElem? hli)
end Go.Proofs.Ytncakfcafkfmfaa

/-
  Pairs of types that are handed in; canon keeps the size; rows of pairs, flat.
-/
namespace Go.Proofs.Ytncakfcafkfmfaa
open Go Go.ChangeShapes Go.WideShapes Go.ChangeAt Go.RowKit Go.Deep
set_option linter.unusedSimpArgs false
set_option linter.unusedVariables false

def c6 (p : C3 × C3) : List Value := c3 p.1 ++ c3 p.2
theorem c6_len (p : C3 × C3) : (c6 p).length = 6 := rfl
/-- pairs in a row, as they may come in -/
def PRs (w : World) (F : Nat → Prop) (xs : List (C3 × C3)) (ts : List (Tr × Tr)) : Prop := xs.length = ts.length ∧ ∀ (i : Nat) c t, xs[i]? = some c → ts[i]? = some t → TR w F c.1 t.1 ∧ TR w F c.2 t.2
theorem PRs.upd {w w' : World} {F S : Nat → Prop} {xs : List (C3 × C3)} {ts : List (Tr × Tr)} (h : PRs w F xs ts) (hu : Upd S w w') (hn : ∀ k, F k → k < w.heap.size → ¬ S k) : PRs w' F xs ts := ⟨h.1, fun i c t h1 h2 => ⟨(h.2 i c t h1 h2).1.upd hu hn, (h.2 i c t h1 h2).2.upd hu hn⟩⟩
theorem PRs.updA {w w' : World} {F S : Nat → Prop} {xs : List (C3 × C3)} {ts : List (Tr × Tr)} (h : PRs w F xs ts) (hu : Upd S w w') (hn : ∀ k, F k → k < w.heap.size → ¬ S k := by first | exact (fun _ _ _ h => h) | with_reducible assumption | (intro k hk hl hS; simp only [At] at hS; subst hS; contradiction) | (intro k hk hl hS; (try simp only [At, From, No, Grow, New] at hk hS); omega)) : PRs w' F xs ts := h.upd hu hn
theorem PRs.tv {w : World} {F : Nat → Prop} {xs : List (C3 × C3)} {ts : List (Tr × Tr)} (h : PRs w F xs ts) {i : Nat} (hi : i < ts.length) : ∃ (p : C3 × C3), xs[i]? = some p ∧ TR w F p.1 ts[i].1 ∧ TR w F p.2 ts[i].2 := by
  have hl : i < xs.length := by have := h.1; omega
  have hx : xs[i]? = some xs[i] := List.getElem?_eq_getElem hl
  exact ⟨_, hx, h.2 i _ _ hx (List.getElem?_eq_getElem hi)⟩
theorem pair_cells {w : World} {F : Nat → Prop} {b off n c q i : Nat} {xs : List (C3 × C3)} {x : C3 × C3} (hr : Rd w F (.slice (some ⟨b, off, none⟩) n c) n 6 (xs.flatMap c6)) (hx : xs[i]? = some x) (hq : q = off + i * 6) : CellsAt w ⟨b, q, none⟩ [x.1.1, x.1.2.1, x.1.2.2] := by
  subst hq
  exact Rd.cellsL (i := i * 6) hr rfl fun j v hj => by
    have hj3 : j < 3 := by
      rcases Nat.lt_or_ge j 3 with h | h
      · exact h
      · rw [List.getElem?_eq_none (by simpa using h)] at hj; cases hj
    refine flatMap_get c6_len hx j v ?_
    unfold c6
    rw [List.getElem?_append_left (by simpa [c3] using hj3)]
    exact hj
theorem pair_cells2 {w : World} {F : Nat → Prop} {b off n c q i : Nat} {xs : List (C3 × C3)} {x : C3 × C3} (hr : Rd w F (.slice (some ⟨b, off, none⟩) n c) n 6 (xs.flatMap c6)) (hx : xs[i]? = some x) (hq : q = off + i * 6 + 3) : CellsAt w ⟨b, q, none⟩ [x.2.1, x.2.2.1, x.2.2.2] := by
  subst hq
  rw [Nat.add_assoc]
  exact Rd.cellsL (i := i * 6 + 3) hr rfl fun j v hj => by
    have := flatMap_get c6_len hx (3 + j) v (by
      unfold c6
      rw [List.getElem?_append_right (by simp [c3])]
      simpa [c3] using hj)
    rwa [← Nat.add_assoc] at this

theorem cellsP6 : Try.prog.cellsOf 39 = 6 := by kernel_rfl
theorem bytesP6 : Try.prog.bytesOf 39 = 96 := by kernel_rfl
theorem rep_pair {W : World} {f : Nat} {cs : List Value} (h : Rep Try.prog W f 39 cs) : ∃ (p : (C3 × C3) × (Tr × Tr)), cs = c6 p.1 ∧ TR W (fun k => k < W.heap.size) p.1.1 p.2.1 ∧ TR W (fun k => k < W.heap.size) p.1.2 p.2.2 := by
  obtain ⟨g, hg, hl, hf⟩ := h.struct Try.underlying39
  have hA : Rep Try.prog W g typ ((cs.drop 0).take 3) := Rep.field hf 0 (n := 3) rfl rfl rfl (by kernel_rfl)
  have hB : Rep Try.prog W g typ ((cs.drop 3).take 3) := Rep.field hf 1 (n := 3) rfl rfl rfl (by kernel_rfl)
  obtain ⟨⟨a, s⟩, e1, t1⟩ := rep_tr g hA
  obtain ⟨⟨b, t⟩, e2, t2⟩ := rep_tr g hB
  refine ⟨((a, b), (s, t)), ?_, t1, t2⟩
  rw [cellsP6] at hl
  show cs = c3 a ++ c3 b
  rw [← e1, ← e2, List.take_of_length_le (l := cs.drop 3) (by simp; omega), List.drop_zero, List.take_append_drop]
theorem rep_pairs {W : World} {v : Value} (h : ∃ f, Rep Try.prog W f 37 [v]) : ∃ xs ts, ts.length * 96 ≤ 140737488351232 ∧ Rd W (fun k => k < W.heap.size) v ts.length 6 (xs.flatMap c6) ∧ PRs W (fun k => k < W.heap.size) xs ts := by
  obtain ⟨f, hs⟩ := h
  obtain ⟨v', l, g2, _, h1, h2, h3, h4⟩ := hs.list (fun p : (C3 × C3) × (Tr × Tr) => c6 p.1) (fun _ p => TR W (fun k => k < W.heap.size) p.1.1 p.2.1 ∧ TR W (fun k => k < W.heap.size) p.1.2 p.2.2) Try.underlying37 (by rw [cellsP6]; decide) (by rw [bytesP6]; decide) (fun g' cs hlt hr => rep_pair hr)
  have f2 : v = v' := by injection h1
  subst f2
  rw [cellsP6] at h3
  rw [bytesP6] at h2
  refine ⟨l.map (·.1), l.map (·.2), by simpa using h2, ?_, by simp, fun i c k hc hk => ?_⟩
  · rw [List.length_map, List.flatMap_map]
    exact h3
  · rw [List.getElem?_map] at hc hk
    cases hli : l[i]? with
    | none => rw [hli] at hc; cases hc
    | some p =>
      rw [hli] at hc hk
      injection hc with hc
      injection hk with hk
      subst hc hk
      exact h4 p (List.mem_of_getElem? hli)

/-! ### sizes -/
theorem vars_sz (t : Ty) : (vars t).length ≤ sz t := by
  induction t using Ty.ind with
  | hv x => rw [vars_v, sz_v]; simp
  | hc n ks ih =>
    rw [vars_c, sz_c, List.length_flatten, List.map_map]
    have : (ks.map (List.length ∘ vars)).sum ≤ (ks.map sz).sum := by
      induction ks with
      | nil => simp
      | cons k ks ih2 =>
        simp only [List.map_cons, List.sum_cons, Function.comp]
        have h1 := ih k (by simp)
        have h2 := ih2 fun k hk => ih k (List.mem_cons_of_mem _ hk)
        omega
    omega
theorem sz_ren {f : Int → Ty} (hf : ∀ x, ∃ y, f x = .v y) (t : Ty) : sz (ext f t) = sz t := by
  induction t using Ty.ind with
  | hv x => rw [ext_v]; obtain ⟨y, e⟩ := hf x; rw [e, sz_v, sz_v]
  | hc n ks ih =>
    rw [ext_c, sz_c, sz_c, List.map_map]
    congr 2
    exact List.map_congr_left fun k hk => ih k hk
theorem sz_canon (t : Ty) : sz (canon t) = sz t := by
  unfold canon
  refine sz_ren (fun x => ?_) t
  rcases putT_cases (varsOf t) ((onesL (varsOf t).length).map Ty.v) x with h | h
  · obtain ⟨y, _, e⟩ := List.mem_map.1 h
    exact ⟨y, e.symm⟩
  · exact ⟨x, h.1⟩
theorem sz_star {l : List Ty} {b : Nat} (h : ∀ t ∈ l, sz t ≤ b) : sz (.c nStar l) ≤ 1 + l.length * b := by
  rw [sz_c]
  have : (l.map sz).sum ≤ l.length * b := by
    induction l with
    | nil => simp
    | cons a l ih =>
      have h1 := h a (by simp)
      have h2 := ih fun t ht => h t (List.mem_cons_of_mem _ ht)
      rw [List.map_cons, List.sum_cons, List.length_cons, Nat.succ_mul]
      omega
  omega
theorem canon_bound {a b : Ty} {n : Nat} (h : canon a = canon b) (hs : sz a ≤ n) : (vars a).length ≤ n ∧ (vars b).length ≤ n := by
  have h1 := vars_sz a
  have h2 := vars_sz b
  have h3 := sz_canon a
  have h4 := sz_canon b
  rw [h] at h3
  omega

/-! ### pairs, flat -/
def flat2 (ps : List (Ty × Ty)) : List Ty := ps.flatMap fun p => [p.1, p.2]
theorem flat2_len (ps : List (Ty × Ty)) : (flat2 ps).length = 2 * ps.length := by
  induction ps with
  | nil => rfl
  | cons p ps ih => simp only [flat2, List.flatMap_cons, List.length_append, List.length_cons, List.length_nil] at ih ⊢; omega
theorem flat2_snoc (ps : List (Ty × Ty)) (a b : Ty) : flat2 (ps ++ [(a, b)]) = flat2 ps ++ [a] ++ [b] := by simp [flat2]
theorem flat2_get {ps : List (Ty × Ty)} {j : Nat} {p : Ty × Ty} (h : ps[j]? = some p) : (flat2 ps)[2 * j]? = some p.1 ∧ (flat2 ps)[2 * j + 1]? = some p.2 := by
  induction ps generalizing j with
  | nil => simp at h
  | cons q ps ih =>
    cases j with
    | zero => simp at h; subst h; simp [flat2]
    | succ j =>
      have := ih (j := j) (by simpa using h)
      have e : flat2 (q :: ps) = q.1 :: q.2 :: flat2 ps := rfl
      rw [e, show 2 * (j + 1) = 2 * j + 1 + 1 by omega, List.getElem?_cons_succ, List.getElem?_cons_succ, List.getElem?_cons_succ]
      exact ⟨this.1, by rw [show 2 * j + 1 + 1 = (2 * j + 1) + 1 by omega]; exact this.2⟩
theorem mem_flat2 {ps : List (Ty × Ty)} {t : Ty} (h : t ∈ flat2 ps) : ∃ p ∈ ps, t = p.1 ∨ t = p.2 := by
  simp only [flat2, List.mem_flatMap, List.mem_cons, List.not_mem_nil, or_false] at h
  exact h
/-- the last i pairs, the last first, turned about -/
def backT (ps : List (Ty × Ty)) (i : Nat) : List (Ty × Ty) := (ps.reverse.take i).map fun p => (p.2, p.1)
theorem backT_succ {ps : List (Ty × Ty)} {i j : Nat} {p : Ty × Ty} (hi : i < ps.length) (hj : j = ps.length - 1 - i) (h : ps[j]? = some p) : backT ps (i + 1) = backT ps i ++ [(p.2, p.1)] := by
  subst hj
  unfold backT
  have hr : i < ps.reverse.length := by simpa using hi
  rw [List.take_succ_eq_append_getElem hr, List.map_append]
  congr 1
  have h2 : ps.reverse[i] = p := by
    rw [List.getElem_reverse]
    rw [List.getElem?_eq_getElem (by omega)] at h
    injection h
  rw [h2]
  rfl
theorem backT_all {ps : List (Ty × Ty)} (q : Ty × Ty) : q ∈ backT ps ps.length ↔ (q.2, q.1) ∈ ps := by
  unfold backT
  rw [List.take_of_length_le (by simp), List.mem_map]
  constructor
  · rintro ⟨p, hp, rfl⟩
    exact List.mem_reverse.1 hp
  · intro h
    exact ⟨_, List.mem_reverse.2 h, rfl⟩
/-! ### a row of trees, one written over -/
theorem TVs.get {w : World} {F : Nat → Prop} {xs : List C3} {ts : List Ty} (h : TVs w F xs ts) {i : Nat} {t : Ty} (ht : ts[i]? = some t) : ∃ c : C3, xs[i]? = some c ∧ TV w F c t := by
  have hi : i < ts.length := by
    rcases Nat.lt_or_ge i ts.length with h9 | h9
    · exact h9
    · rw [List.getElem?_eq_none h9] at ht; cases ht
  have hl : i < xs.length := by have := h.1; omega
  have hx : xs[i]? = some xs[i] := List.getElem?_eq_getElem hl
  exact ⟨_, hx, h.2 i _ _ hx ht⟩
theorem TVs.set {w : World} {F : Nat → Prop} {xs : List C3} {ts : List Ty} {i : Nat} {c : C3} {t : Ty} (h : TVs w F xs ts) (hc : TV w F c t) : TVs w F (xs.set i c) (ts.set i t) := by
  refine ⟨by simp [h.1], fun j c' t' h1 h2 => ?_⟩
  rw [List.getElem?_set] at h1 h2
  have hl := h.1
  by_cases hij : i = j
  · subst hij
    simp only [if_true] at h1 h2
    split at h1
    · rename_i h9
      rw [if_pos (by omega)] at h2
      injection h1 with h1
      injection h2 with h2
      subst h1 h2
      exact hc
    · cases h1
  · simp only [hij, if_false] at h1 h2
    exact h.2 j c' t' h1 h2
theorem set_flat {xs : List C3} {i : Nat} {c : C3} (hi : i < xs.length) : (xs.set i c).flatMap c3 = (xs.flatMap c3).take (i * 3) ++ c3 c ++ (xs.flatMap c3).drop (i * 3 + 3) := by
  induction xs generalizing i with
  | nil => simp at hi
  | cons x xs ih =>
    cases i with
    | zero => simp [c3]
    | succ i =>
      have := ih (i := i) (by simpa using hi)
      rw [List.set_cons_succ, List.flatMap_cons, List.flatMap_cons, this, show (i + 1) * 3 = i * 3 + 1 + 1 + 1 by omega, show i * 3 + 1 + 1 + 1 + 3 = (i * 3 + 3) + 1 + 1 + 1 by omega]
      simp [c3]
/-- the first i replaced -/
def mixT (f : Ty → Ty) (l : List Ty) (i : Nat) : List Ty := (l.take i).map f ++ l.drop i
theorem mixT_succ {f : Ty → Ty} {l : List Ty} {i : Nat} {t : Ty} (h : l[i]? = some t) : (mixT f l i).set i (f t) = mixT f l (i + 1) := by
  induction l generalizing i with
  | nil => simp at h
  | cons a l ih =>
    cases i with
    | zero => simp at h; subst h; simp [mixT]
    | succ i =>
      have := ih (i := i) (by simpa using h)
      simp only [mixT, List.take_succ_cons, List.map_cons, List.drop_succ_cons, List.cons_append, List.set_cons_succ] at this ⊢
      rw [this]
theorem mixT_get {f : Ty → Ty} {l : List Ty} {i : Nat} {t : Ty} (h : l[i]? = some t) : (mixT f l i)[i]? = some t := by
  have hi : i < l.length := by
    rcases Nat.lt_or_ge i l.length with h9 | h9
    · exact h9
    · rw [List.getElem?_eq_none h9] at h; cases h
  unfold mixT
  rw [List.getElem?_append_right (by simp; omega)]
  simp only [List.length_map, List.length_take, Nat.min_eq_left (Nat.le_of_lt hi), Nat.sub_self, List.getElem?_drop, Nat.add_zero]
  exact h
theorem mixT_len {f : Ty → Ty} (l : List Ty) (i : Nat) : (mixT f l i).length = l.length := by simp [mixT]; omega
theorem mixT_all {f : Ty → Ty} (l : List Ty) : mixT f l l.length = l.map f := by simp [mixT]
end Go.Proofs.Ytncakfcafkfmfaa
