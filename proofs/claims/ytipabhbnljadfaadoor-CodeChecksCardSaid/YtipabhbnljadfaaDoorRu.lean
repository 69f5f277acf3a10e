/-
  octet.Reader.Uint: the next number.
-/
import Derived.Test.YtipabhbnljadfaaDoorRd
import Derived.Test.YtipabhbnljadfaaDoorOctP
namespace Go.Proofs.YtipabhbnljadfaaDoor
open Go
set_option linter.unusedSimpArgs false
set_option linter.unusedVariables false

theorem fail_blk {w : World} {A : Option Addr} {n c g : Nat} {b : Bool} (hb : Blk w g #[.slice A n c, .bool b] 57) (F : Nat → Prop) :
    Ret Tryd.prog 42 #[.pointer (some ⟨g, 0, none⟩)] w fun _ w' => IsR w' F g none ∧ Upd (At g) w w' := by
  refine enterRet (vs := [_]) (N := 7) Tryd.func42 rfl rfl rfl ?_
  refine WC.keep [(0, _)] ⟨rfl, trivial⟩ ?_
  refine WC.seq ?_
  refine WC.region ?_
  refine WL.val rfl rfl rfl rfl (r_move rfl (ev_t rfl)) ?_
  refine WL.val rfl rfl rfl rfl (r_neqPtrNil rfl (ev_t rfl) ev_c ptr_31) ?_
  refine WL.nil ?_
  refine WX.keep [(0, _), (3, _)] ⟨rfl, rfl, trivial⟩ ?_
  refine WX.next ?_
  refine WC.cond rfl (ev_t rfl) (fun hc0 => ?_) (fun hc0 => ?_)
  · try (exfalso; first | (simp at hc0; done) | (simp only [decide_eq_true_eq, decide_eq_false_iff_not, Bool.not_eq_true', Bool.not_eq_false', Bool.not_eq_true, Bool.not_eq_false] at hc0; omega) | omega)
    all_goals
     try simp only [decide_eq_true_eq, decide_eq_false_iff_not, Bool.not_eq_true', Bool.not_eq_false', Bool.not_eq_true, Bool.not_eq_false, Option.isNone_none, Option.isNone_some, Option.isSome_none, Option.isSome_some, ne_eq, Decidable.not_not] at hc0
     refine WC.region ?_
     refine WL.val rfl rfl rfl rfl (r_move rfl (ev_t rfl)) ?_
     refine WL.val rfl rfl rfl rfl (r_nilCheck rfl (ev_t rfl)) ?_
     first | refine WL.val rfl rfl rfl rfl (r_field0 rfl (ev_t rfl) fld_57_1) ?_ | refine WL.val rfl rfl rfl rfl (r_fieldAt rfl (ev_t rfl) fld_57_1) ?_
     refine WL.cons (SO.store rfl (ev_t rfl) ev_c size_4 hb rfl rfl rfl rfl rfl ?_)
     intro w1 hu1 hb hz1
     have hs1 := hu1.size
     refine WL.nil ?_
     refine WX.keep [] trivial ?_
     refine WX.endE (l := []) (vs := []) rfl trivial ?_
     exact ⟨⟨A, n, c, hb⟩, hu1⟩
  · try (exfalso; first | (simp at hc0; done) | (simp only [decide_eq_true_eq, decide_eq_false_iff_not, Bool.not_eq_true', Bool.not_eq_false', Bool.not_eq_true, Bool.not_eq_false] at hc0; omega) | omega)
    all_goals
     try simp only [decide_eq_true_eq, decide_eq_false_iff_not, Bool.not_eq_true', Bool.not_eq_false', Bool.not_eq_true, Bool.not_eq_false, Option.isNone_none, Option.isNone_some, Option.isSome_none, Option.isSome_some, ne_eq, Decidable.not_not] at hc0
     refine WC.skip ?_
     refine WX.endE (l := []) (vs := []) rfl trivial ?_
     exact ⟨⟨A, n, c, hb⟩, (Upd.refl _ _)⟩

theorem ruint_bad {w : World} {F : Nat → Prop} {A : Option Addr} {n c g : Nat} {b : Bool} (hb : Blk w g #[.slice A n c, .bool b] 57) (h : b = true ∨ (n : Int) = 0) :
    Ret Tryd.prog 41 #[.pointer (some ⟨g, 0, none⟩)] w fun v w' => v = .int .u64 0 ∧ IsR w' F g none ∧ Upd (At g) w w' := by
  refine enterRet (vs := [_]) (N := 88) Tryd.func41 rfl rfl rfl ?_
  refine WC.keep [(0, _)] ⟨rfl, trivial⟩ ?_
  refine WC.seq ?_
  refine WC.region ?_
  refine WL.val rfl rfl rfl rfl (r_assign rfl ev_c) ?_
  refine WL.nil ?_
  refine WX.keep [(0, _)] ⟨rfl, trivial⟩ ?_
  refine WX.next ?_
  refine WC.seq ?_
  refine WC.seq ?_
  refine WC.region ?_
  refine WL.val rfl rfl rfl rfl (r_move rfl (ev_t rfl)) ?_
  refine WL.val rfl rfl rfl rfl (r_eqlPtrNil rfl (ev_t rfl) ev_c ptr_31) ?_
  refine WL.val rfl rfl rfl rfl (r_move rfl (ev_t rfl)) ?_
  refine WL.cases 9 rfl (fun hb1_2 => ?_) (fun hb1_2 => ?_)
  · try (exfalso; first | (simp at hb1_2; done) | (simp only [decide_eq_true_eq, decide_eq_false_iff_not, Bool.not_eq_true', Bool.not_eq_false', Bool.not_eq_true, Bool.not_eq_false] at hb1_2; omega) | omega)
    all_goals
     try simp only [decide_eq_true_eq, decide_eq_false_iff_not, Bool.not_eq_true', Bool.not_eq_false', Bool.not_eq_true, Bool.not_eq_false, Option.isNone_none, Option.isNone_some, Option.isSome_none, Option.isSome_some, ne_eq, Decidable.not_not] at hb1_2
     refine WL.skip rfl rfl rfl ?_
     refine WL.skip rfl rfl rfl ?_
     refine WL.skip rfl rfl rfl ?_
     refine WL.skip rfl rfl rfl ?_
     refine WL.val rfl rfl rfl rfl (r_pickT rfl (ev_t rfl) ev_c) ?_
     refine WL.val rfl rfl rfl rfl (r_move rfl (ev_t rfl)) ?_
     refine WL.skip rfl rfl rfl ?_
     refine WL.skip rfl rfl rfl ?_
     refine WL.skip rfl rfl rfl ?_
     refine WL.skip rfl rfl rfl ?_
     refine WL.skip rfl rfl rfl ?_
     refine WL.skip rfl rfl rfl ?_
     refine WL.val rfl rfl rfl rfl (r_pickT rfl (ev_t rfl) ev_c) ?_
     refine WL.nil ?_
     refine WX.keep [(0, _), (22, _)] ⟨rfl, rfl, trivial⟩ ?_
     refine WX.next ?_
     refine WC.cond_true rfl (ev_t rfl) ?_
     refine WC.seq ?_
     refine WC.region ?_
     refine WL.val rfl rfl rfl rfl (r_move rfl (ev_t rfl)) ?_
     refine WL.cons (SO.call (fail_blk hb F) rfl body_42 ⟨(ev_t rfl), trivial⟩ rfl rfl rfl rfl ?_)
     rintro v1 w1 ⟨hR, hu1⟩
     refine WL.nil ?_
     refine WX.keep [] trivial ?_
     refine WX.next ?_
     refine WC.seq ?_
     refine WC.region ?_
     refine WL.val rfl rfl rfl rfl (r_assign rfl ev_c) ?_
     refine WL.nil ?_
     refine WX.keep [(2, _)] ⟨rfl, trivial⟩ ?_
     refine WX.next ?_
     refine WC.ret ?_
     refine WX.thenRet ?_
     refine WX.retE1 rfl rfl ?_
     exact ⟨rfl, hR, hu1⟩
  · try (exfalso; first | (simp at hb1_2; done) | (simp only [decide_eq_true_eq, decide_eq_false_iff_not, Bool.not_eq_true', Bool.not_eq_false', Bool.not_eq_true, Bool.not_eq_false] at hb1_2; omega) | omega)
    all_goals
     try simp only [decide_eq_true_eq, decide_eq_false_iff_not, Bool.not_eq_true', Bool.not_eq_false', Bool.not_eq_true, Bool.not_eq_false, Option.isNone_none, Option.isNone_some, Option.isSome_none, Option.isSome_some, ne_eq, Decidable.not_not] at hb1_2
     refine WL.val rfl rfl rfl rfl (r_move rfl (ev_t rfl)) ?_
     refine WL.val rfl rfl rfl rfl (r_nilCheck rfl (ev_t rfl)) ?_
     first | refine WL.val rfl rfl rfl rfl (r_field0 rfl (ev_t rfl) fld_57_1) ?_ | refine WL.val rfl rfl rfl rfl (r_fieldAt rfl (ev_t rfl) fld_57_1) ?_
     refine WL.val rfl rfl rfl rfl (r_load rfl (ev_t rfl) flat_4 (Blk.cell hb rfl)) ?_
     refine WL.val rfl rfl rfl rfl (r_pickF rfl (ev_t rfl) (ev_t rfl)) ?_
     refine WL.val rfl rfl rfl rfl (r_move rfl (ev_t rfl)) ?_
     refine WL.cases 15 rfl (fun hb1_8 => ?_) (fun hb1_8 => ?_)
     · try (exfalso; first | (simp at hb1_8; done) | (simp only [decide_eq_true_eq, decide_eq_false_iff_not, Bool.not_eq_true', Bool.not_eq_false', Bool.not_eq_true, Bool.not_eq_false] at hb1_8; omega) | omega)
       all_goals
        try simp only [decide_eq_true_eq, decide_eq_false_iff_not, Bool.not_eq_true', Bool.not_eq_false', Bool.not_eq_true, Bool.not_eq_false, Option.isNone_none, Option.isNone_some, Option.isSome_none, Option.isSome_some, ne_eq, Decidable.not_not] at hb1_8
        refine WL.skip rfl rfl rfl ?_
        refine WL.skip rfl rfl rfl ?_
        refine WL.skip rfl rfl rfl ?_
        refine WL.skip rfl rfl rfl ?_
        refine WL.skip rfl rfl rfl ?_
        refine WL.skip rfl rfl rfl ?_
        refine WL.val rfl rfl rfl rfl (r_pickT rfl (ev_t rfl) ev_c) ?_
        refine WL.nil ?_
        refine WX.keep [(0, _), (22, _)] ⟨rfl, rfl, trivial⟩ ?_
        refine WX.next ?_
        refine WC.cond_true rfl (ev_t rfl) ?_
        refine WC.seq ?_
        refine WC.region ?_
        refine WL.val rfl rfl rfl rfl (r_move rfl (ev_t rfl)) ?_
        refine WL.cons (SO.call (fail_blk hb F) rfl body_42 ⟨(ev_t rfl), trivial⟩ rfl rfl rfl rfl ?_)
        rintro v1 w2 ⟨hR, hu2⟩
        refine WL.nil ?_
        refine WX.keep [] trivial ?_
        refine WX.next ?_
        refine WC.seq ?_
        refine WC.region ?_
        refine WL.val rfl rfl rfl rfl (r_assign rfl ev_c) ?_
        refine WL.nil ?_
        refine WX.keep [(2, _)] ⟨rfl, trivial⟩ ?_
        refine WX.next ?_
        refine WC.ret ?_
        refine WX.thenRet ?_
        refine WX.retE1 rfl rfl ?_
        exact ⟨rfl, hR, hu2⟩
     · try (exfalso; first | (simp at hb1_8; done) | (simp only [decide_eq_true_eq, decide_eq_false_iff_not, Bool.not_eq_true', Bool.not_eq_false', Bool.not_eq_true, Bool.not_eq_false] at hb1_8; omega) | omega)
       all_goals
        try simp only [decide_eq_true_eq, decide_eq_false_iff_not, Bool.not_eq_true', Bool.not_eq_false', Bool.not_eq_true, Bool.not_eq_false, Option.isNone_none, Option.isNone_some, Option.isSome_none, Option.isSome_some, ne_eq, Decidable.not_not] at hb1_8
        refine WL.val rfl rfl rfl rfl (r_move rfl (ev_t rfl)) ?_
        refine WL.val rfl rfl rfl rfl (r_nilCheck rfl (ev_t rfl)) ?_
        first | refine WL.val rfl rfl rfl rfl (r_field0 rfl (ev_t rfl) fld_57_0) ?_ | refine WL.val rfl rfl rfl rfl (r_fieldAt rfl (ev_t rfl) fld_57_0) ?_
        refine WL.val rfl rfl rfl rfl (r_load rfl (ev_t rfl) flat_30 (Blk.cell hb rfl)) ?_
        refine WL.val rfl rfl rfl rfl (r_lenSlice (ts := #[]) rfl (ev_t rfl) elem_30) ?_
        refine WL.val rfl rfl rfl rfl (r_eql rfl (ev_t rfl) ev_c) ?_
        refine WL.val rfl rfl rfl rfl (r_pickF rfl (ev_t rfl) (ev_t rfl)) ?_
        refine WL.nil ?_
        refine WX.keep [(0, _), (22, _)] ⟨rfl, rfl, trivial⟩ ?_
        refine WX.next ?_
        refine WC.cond rfl (ev_t rfl) (fun hc1 => ?_) (fun hc1 => ?_)
        · try (exfalso; first | (simp at hc1; done) | (simp only [decide_eq_true_eq, decide_eq_false_iff_not, Bool.not_eq_true', Bool.not_eq_false', Bool.not_eq_true, Bool.not_eq_false] at hc1; omega) | omega)
          all_goals
           try simp only [decide_eq_true_eq, decide_eq_false_iff_not, Bool.not_eq_true', Bool.not_eq_false', Bool.not_eq_true, Bool.not_eq_false, Option.isNone_none, Option.isNone_some, Option.isSome_none, Option.isSome_some, ne_eq, Decidable.not_not] at hc1
           refine WC.seq ?_
           refine WC.region ?_
           refine WL.val rfl rfl rfl rfl (r_move rfl (ev_t rfl)) ?_
           refine WL.cons (SO.call (fail_blk hb F) rfl body_42 ⟨(ev_t rfl), trivial⟩ rfl rfl rfl rfl ?_)
           rintro v1 w3 ⟨hR, hu3⟩
           refine WL.nil ?_
           refine WX.keep [] trivial ?_
           refine WX.next ?_
           refine WC.seq ?_
           refine WC.region ?_
           refine WL.val rfl rfl rfl rfl (r_assign rfl ev_c) ?_
           refine WL.nil ?_
           refine WX.keep [(2, _)] ⟨rfl, trivial⟩ ?_
           refine WX.next ?_
           refine WC.ret ?_
           refine WX.thenRet ?_
           refine WX.retE1 rfl rfl ?_
           exact ⟨rfl, hR, hu3⟩
        · try simp only [decide_eq_true_eq, decide_eq_false_iff_not, Bool.not_eq_true', Bool.not_eq_false', Bool.not_eq_true, Bool.not_eq_false, Option.isNone_none, Option.isNone_some, Option.isSome_none, Option.isSome_some, ne_eq, Decidable.not_not] at hc1
          exfalso
          exfalso; simp_all

theorem decU_none {k : UInt8} {r : List UInt8} (h : 8 < k.toNat ∨ r.length < k.toNat ∨ (0 < k.toNat ∧ r.head? = some 0)) : decU (k :: r) = none := by
  simp only [decU]
  rw [if_neg]
  rintro ⟨h1, h2, h3⟩
  rcases h with h | h | ⟨h, h'⟩
  · omega
  · omega
  · rcases h3 with h3 | h3
    · omega
    · exact h3 h'
theorem decU_some {k : UInt8} {r : List UInt8} (h1 : k.toNat ≤ 8) (h2 : k.toNat ≤ r.length) (h3 : k.toNat = 0 ∨ r.head? ≠ some 0) : decU (k :: r) = some (beN (r.take k.toNat), r.drop k.toNat) := by
  simp only [decU]
  rw [if_pos ⟨h1, h2, h3⟩]

theorem rd_len {w : World} {F : Nat → Prop} {v : Value} {n : Nat} {l : List UInt8} (h : Rd w F v n 1 (l.map U8)) : l.length = n := by
  have := h.len
  simpa using this

theorem ruint_cons {w : World} {F : Nat → Prop} {b off n c g : Nat} {k : UInt8} {r : List UInt8} (hb : Blk w g #[.slice (some ⟨b, off, none⟩) n c, .bool false] 57)
    (hr : Rd w F (.slice (some ⟨b, off, none⟩) n c) n 1 ((k :: r).map U8)) (hFg : ¬ F g) :
    Ret Tryd.prog 41 #[.pointer (some ⟨g, 0, none⟩)] w fun v w' => v = .int .u64 (uintR (some (k :: r))).1 ∧ IsR w' F g (uintR (some (k :: r))).2 ∧ Upd (At g) w w' := by
  have hn : n = r.length + 1 := by have := rd_len hr; simp at this; omega
  have hle := hr.le
  have hcap := hr.cap
  have hk := k.toNat_lt
  have hbad : 8 < k.toNat ∨ r.length < k.toNat ∨ (0 < k.toNat ∧ r.head? = some 0) → uintR (some (k :: r)) = (0, none) := fun h => by simp only [uintR, decU_none h]
  have hgood : k.toNat ≤ 8 → k.toNat ≤ r.length → (k.toNat = 0 ∨ r.head? ≠ some 0) → uintR (some (k :: r)) = (beN (r.take k.toNat), some (r.drop k.toNat)) := fun h1 h2 h3 => by simp only [uintR, decU_some h1 h2 h3]
  refine enterRet (vs := [_]) (N := 88) Tryd.func41 rfl rfl rfl ?_
  refine WC.keep [(0, _)] ⟨rfl, trivial⟩ ?_
  refine WC.seq ?_
  refine WC.region ?_
  refine WL.val rfl rfl rfl rfl (r_assign rfl ev_c) ?_
  refine WL.nil ?_
  refine WX.keep [(0, _)] ⟨rfl, trivial⟩ ?_
  refine WX.next ?_
  refine WC.seq ?_
  refine WC.seq ?_
  refine WC.region ?_
  refine WL.val rfl rfl rfl rfl (r_move rfl (ev_t rfl)) ?_
  refine WL.val rfl rfl rfl rfl (r_eqlPtrNil rfl (ev_t rfl) ev_c ptr_31) ?_
  refine WL.val rfl rfl rfl rfl (r_move rfl (ev_t rfl)) ?_
  refine WL.cases 9 rfl (fun hb1_2 => ?_) (fun hb1_2 => ?_)
  · exact absurd hb1_2 (by simp)
  · try (exfalso; first | (simp at hb1_2; done) | (simp only [decide_eq_true_eq, decide_eq_false_iff_not, Bool.not_eq_true', Bool.not_eq_false', Bool.not_eq_true, Bool.not_eq_false] at hb1_2; omega) | omega)
    all_goals
     try simp only [decide_eq_true_eq, decide_eq_false_iff_not, Bool.not_eq_true', Bool.not_eq_false', Bool.not_eq_true, Bool.not_eq_false, Option.isNone_none, Option.isNone_some, Option.isSome_none, Option.isSome_some, ne_eq, Decidable.not_not] at hb1_2
     refine WL.val rfl rfl rfl rfl (r_move rfl (ev_t rfl)) ?_
     refine WL.val rfl rfl rfl rfl (r_nilCheck rfl (ev_t rfl)) ?_
     first | refine WL.val rfl rfl rfl rfl (r_field0 rfl (ev_t rfl) fld_57_1) ?_ | refine WL.val rfl rfl rfl rfl (r_fieldAt rfl (ev_t rfl) fld_57_1) ?_
     refine WL.val rfl rfl rfl rfl (r_load rfl (ev_t rfl) flat_4 (Blk.cell hb rfl)) ?_
     refine WL.val rfl rfl rfl rfl (r_pickF rfl (ev_t rfl) (ev_t rfl)) ?_
     refine WL.val rfl rfl rfl rfl (r_move rfl (ev_t rfl)) ?_
     refine WL.cases 15 rfl (fun hb1_8 => ?_) (fun hb1_8 => ?_)
     · exact absurd hb1_8 (by simp)
     · try (exfalso; first | (simp at hb1_8; done) | (simp only [decide_eq_true_eq, decide_eq_false_iff_not, Bool.not_eq_true', Bool.not_eq_false', Bool.not_eq_true, Bool.not_eq_false] at hb1_8; omega) | omega)
       all_goals
        try simp only [decide_eq_true_eq, decide_eq_false_iff_not, Bool.not_eq_true', Bool.not_eq_false', Bool.not_eq_true, Bool.not_eq_false, Option.isNone_none, Option.isNone_some, Option.isSome_none, Option.isSome_some, ne_eq, Decidable.not_not] at hb1_8
        refine WL.val rfl rfl rfl rfl (r_move rfl (ev_t rfl)) ?_
        refine WL.val rfl rfl rfl rfl (r_nilCheck rfl (ev_t rfl)) ?_
        first | refine WL.val rfl rfl rfl rfl (r_field0 rfl (ev_t rfl) fld_57_0) ?_ | refine WL.val rfl rfl rfl rfl (r_fieldAt rfl (ev_t rfl) fld_57_0) ?_
        refine WL.val rfl rfl rfl rfl (r_load rfl (ev_t rfl) flat_30 (Blk.cell hb rfl)) ?_
        refine WL.val rfl rfl rfl rfl (r_lenSlice (ts := #[]) rfl (ev_t rfl) elem_30) ?_
        refine WL.val rfl rfl rfl rfl (r_eql rfl (ev_t rfl) ev_c) ?_
        refine WL.val rfl rfl rfl rfl (r_pickF rfl (ev_t rfl) (ev_t rfl)) ?_
        refine WL.nil ?_
        refine WX.keep [(0, _), (22, _)] ⟨rfl, rfl, trivial⟩ ?_
        refine WX.next ?_
        refine WC.cond rfl (ev_t rfl) (fun hc1 => ?_) (fun hc1 => ?_)
        · try simp only [decide_eq_true_eq, decide_eq_false_iff_not, Bool.not_eq_true', Bool.not_eq_false', Bool.not_eq_true, Bool.not_eq_false, Option.isNone_none, Option.isNone_some, Option.isSome_none, Option.isSome_some, ne_eq, Decidable.not_not] at hc1
          exfalso
          exfalso; omega
        · try (exfalso; first | (simp at hc1; done) | (simp only [decide_eq_true_eq, decide_eq_false_iff_not, Bool.not_eq_true', Bool.not_eq_false', Bool.not_eq_true, Bool.not_eq_false] at hc1; omega) | omega)
          all_goals
           try simp only [decide_eq_true_eq, decide_eq_false_iff_not, Bool.not_eq_true', Bool.not_eq_false', Bool.not_eq_true, Bool.not_eq_false, Option.isNone_none, Option.isNone_some, Option.isSome_none, Option.isSome_some, ne_eq, Decidable.not_not] at hc1
           refine WC.skip ?_
           refine WX.next ?_
           refine WC.seq ?_
           refine WC.region ?_
           refine WL.val rfl rfl rfl rfl (r_move rfl (ev_t rfl)) ?_
           refine WL.val rfl rfl rfl rfl (r_nilCheck rfl (ev_t rfl)) ?_
           first | refine WL.val rfl rfl rfl rfl (r_field0 rfl (ev_t rfl) fld_57_0) ?_ | refine WL.val rfl rfl rfl rfl (r_fieldAt rfl (ev_t rfl) fld_57_0) ?_
           refine WL.val rfl rfl rfl rfl (r_load rfl (ev_t rfl) flat_30 (Blk.cell hb rfl)) ?_
           refine WL.val rfl rfl rfl rfl (r_indexAddr rfl (ev_t rfl) ev_c elem_30 size_5 (by omega) (by omega)) ?_
           refine WL.val rfl rfl rfl rfl (r_load rfl (ev_t rfl) flat_5 (hr.cell (j := 0) (by omega) rfl)) ?_
           first | refine WL.val rfl rfl rfl rfl (r_convN rfl (ev_t rfl) some_5 int_3 (by simp only [inK]; omega)) ?_ | refine WL.val rfl rfl rfl rfl (r_conv rfl (ev_t rfl) some_5 int_3) ?_
           refine WL.val rfl rfl rfl rfl (r_assign rfl (ev_t rfl)) ?_
           refine WL.nil ?_
           refine WX.keep [(0, _), (3, _)] ⟨rfl, rfl, trivial⟩ ?_
           refine WX.next ?_
           refine WC.seq ?_
           refine WC.seq ?_
           refine WC.region ?_
           refine WL.val rfl rfl rfl rfl (r_move rfl (ev_t rfl)) ?_
           refine WL.val rfl rfl rfl rfl (r_gtr rfl (ev_t rfl) ev_c) ?_
           refine WL.val rfl rfl rfl rfl (r_move rfl (ev_t rfl)) ?_
           refine WL.cases 34 rfl (fun hb5_2 => ?_) (fun hb5_2 => ?_)
           · try (exfalso; first | (simp at hb5_2; done) | (simp only [decide_eq_true_eq, decide_eq_false_iff_not, Bool.not_eq_true', Bool.not_eq_false', Bool.not_eq_true, Bool.not_eq_false] at hb5_2; omega) | omega)
             all_goals
              try simp only [decide_eq_true_eq, decide_eq_false_iff_not, Bool.not_eq_true', Bool.not_eq_false', Bool.not_eq_true, Bool.not_eq_false, Option.isNone_none, Option.isNone_some, Option.isSome_none, Option.isSome_some, ne_eq, Decidable.not_not] at hb5_2
              refine WL.skip rfl rfl rfl ?_
              refine WL.skip rfl rfl rfl ?_
              refine WL.skip rfl rfl rfl ?_
              refine WL.skip rfl rfl rfl ?_
              refine WL.skip rfl rfl rfl ?_
              refine WL.skip rfl rfl rfl ?_
              refine WL.skip rfl rfl rfl ?_
              refine WL.skip rfl rfl rfl ?_
              refine WL.val rfl rfl rfl rfl (r_pickT rfl (ev_t rfl) ev_c) ?_
              refine WL.val rfl rfl rfl rfl (r_move rfl (ev_t rfl)) ?_
              refine WL.skip rfl rfl rfl ?_
              refine WL.skip rfl rfl rfl ?_
              refine WL.skip rfl rfl rfl ?_
              refine WL.skip rfl rfl rfl ?_
              refine WL.skip rfl rfl rfl ?_
              refine WL.skip rfl rfl rfl ?_
              refine WL.skip rfl rfl rfl ?_
              refine WL.skip rfl rfl rfl ?_
              refine WL.skip rfl rfl rfl ?_
              refine WL.skip rfl rfl rfl ?_
              refine WL.skip rfl rfl rfl ?_
              refine WL.val rfl rfl rfl rfl (r_pickT rfl (ev_t rfl) ev_c) ?_
              refine WL.nil ?_
              refine WX.keep [(0, _), (3, _), (56, _)] ⟨rfl, rfl, rfl, trivial⟩ ?_
              refine WX.next ?_
              refine WC.cond_true rfl (ev_t rfl) ?_
              refine WC.seq ?_
              refine WC.region ?_
              refine WL.val rfl rfl rfl rfl (r_move rfl (ev_t rfl)) ?_
              refine WL.cons (SO.call (fail_blk hb F) rfl body_42 ⟨(ev_t rfl), trivial⟩ rfl rfl rfl rfl ?_)
              rintro v1 w1 ⟨hR, hu1⟩
              refine WL.nil ?_
              refine WX.keep [] trivial ?_
              refine WX.next ?_
              refine WC.seq ?_
              refine WC.region ?_
              refine WL.val rfl rfl rfl rfl (r_assign rfl ev_c) ?_
              refine WL.nil ?_
              refine WX.keep [(2, _)] ⟨rfl, trivial⟩ ?_
              refine WX.next ?_
              refine WC.ret ?_
              refine WX.thenRet ?_
              refine WX.retE1 rfl rfl ?_
              have hbb : 8 < k.toNat ∨ r.length < k.toNat ∨ (0 < k.toNat ∧ r.head? = some 0) := by
                first
                | (left; omega)
                | (right; left; omega)
                | (right; right; refine ⟨by omega, ?_⟩; rw [hx2, show x1 = 0 from UInt8.toNat_inj.1 (by simp only [UInt8.toNat_zero]; omega)])
              rw [hbad hbb]
              exact ⟨rfl, hR, hu1⟩
           · try (exfalso; first | (simp at hb5_2; done) | (simp only [decide_eq_true_eq, decide_eq_false_iff_not, Bool.not_eq_true', Bool.not_eq_false', Bool.not_eq_true, Bool.not_eq_false] at hb5_2; omega) | omega)
             all_goals
              try simp only [decide_eq_true_eq, decide_eq_false_iff_not, Bool.not_eq_true', Bool.not_eq_false', Bool.not_eq_true, Bool.not_eq_false, Option.isNone_none, Option.isNone_some, Option.isSome_none, Option.isSome_some, ne_eq, Decidable.not_not] at hb5_2
              refine WL.val rfl rfl rfl rfl (r_move rfl (ev_t rfl)) ?_
              refine WL.val rfl rfl rfl rfl (r_nilCheck rfl (ev_t rfl)) ?_
              first | refine WL.val rfl rfl rfl rfl (r_field0 rfl (ev_t rfl) fld_57_0) ?_ | refine WL.val rfl rfl rfl rfl (r_fieldAt rfl (ev_t rfl) fld_57_0) ?_
              refine WL.val rfl rfl rfl rfl (r_load rfl (ev_t rfl) flat_30 (Blk.cell hb rfl)) ?_
              refine WL.val rfl rfl rfl rfl (r_lenSlice (ts := #[]) rfl (ev_t rfl) elem_30) ?_
              refine WL.val rfl rfl rfl rfl (r_move rfl (ev_t rfl)) ?_
              first | refine WL.val rfl rfl rfl rfl (r_addN rfl ev_c (ev_t rfl) (by simp only [inK]; omega)) ?_ | refine WL.val rfl rfl rfl rfl (r_add rfl ev_c (ev_t rfl)) ?_
              refine WL.val rfl rfl rfl rfl (r_lss rfl (ev_t rfl) (ev_t rfl)) ?_
              refine WL.val rfl rfl rfl rfl (r_pickF rfl (ev_t rfl) (ev_t rfl)) ?_
              refine WL.val rfl rfl rfl rfl (r_move rfl (ev_t rfl)) ?_
              refine WL.cases 44 rfl (fun hb5_12 => ?_) (fun hb5_12 => ?_)
              · try (exfalso; first | (simp at hb5_12; done) | (simp only [decide_eq_true_eq, decide_eq_false_iff_not, Bool.not_eq_true', Bool.not_eq_false', Bool.not_eq_true, Bool.not_eq_false] at hb5_12; omega) | omega)
                all_goals
                 try simp only [decide_eq_true_eq, decide_eq_false_iff_not, Bool.not_eq_true', Bool.not_eq_false', Bool.not_eq_true, Bool.not_eq_false, Option.isNone_none, Option.isNone_some, Option.isSome_none, Option.isSome_some, ne_eq, Decidable.not_not] at hb5_12
                 refine WL.skip rfl rfl rfl ?_
                 refine WL.skip rfl rfl rfl ?_
                 refine WL.skip rfl rfl rfl ?_
                 refine WL.skip rfl rfl rfl ?_
                 refine WL.skip rfl rfl rfl ?_
                 refine WL.skip rfl rfl rfl ?_
                 refine WL.skip rfl rfl rfl ?_
                 refine WL.skip rfl rfl rfl ?_
                 refine WL.skip rfl rfl rfl ?_
                 refine WL.skip rfl rfl rfl ?_
                 refine WL.skip rfl rfl rfl ?_
                 refine WL.val rfl rfl rfl rfl (r_pickT rfl (ev_t rfl) ev_c) ?_
                 refine WL.nil ?_
                 refine WX.keep [(0, _), (3, _), (56, _)] ⟨rfl, rfl, rfl, trivial⟩ ?_
                 refine WX.next ?_
                 refine WC.cond_true rfl (ev_t rfl) ?_
                 refine WC.seq ?_
                 refine WC.region ?_
                 refine WL.val rfl rfl rfl rfl (r_move rfl (ev_t rfl)) ?_
                 refine WL.cons (SO.call (fail_blk hb F) rfl body_42 ⟨(ev_t rfl), trivial⟩ rfl rfl rfl rfl ?_)
                 rintro v1 w2 ⟨hR, hu2⟩
                 refine WL.nil ?_
                 refine WX.keep [] trivial ?_
                 refine WX.next ?_
                 refine WC.seq ?_
                 refine WC.region ?_
                 refine WL.val rfl rfl rfl rfl (r_assign rfl ev_c) ?_
                 refine WL.nil ?_
                 refine WX.keep [(2, _)] ⟨rfl, trivial⟩ ?_
                 refine WX.next ?_
                 refine WC.ret ?_
                 refine WX.thenRet ?_
                 refine WX.retE1 rfl rfl ?_
                 have hbb : 8 < k.toNat ∨ r.length < k.toNat ∨ (0 < k.toNat ∧ r.head? = some 0) := by
                   first
                   | (left; omega)
                   | (right; left; omega)
                   | (right; right; refine ⟨by omega, ?_⟩; rw [hx2, show x1 = 0 from UInt8.toNat_inj.1 (by simp only [UInt8.toNat_zero]; omega)])
                 rw [hbad hbb]
                 exact ⟨rfl, hR, hu2⟩
              · try (exfalso; first | (simp at hb5_12; done) | (simp only [decide_eq_true_eq, decide_eq_false_iff_not, Bool.not_eq_true', Bool.not_eq_false', Bool.not_eq_true, Bool.not_eq_false] at hb5_12; omega) | omega)
                all_goals
                 try simp only [decide_eq_true_eq, decide_eq_false_iff_not, Bool.not_eq_true', Bool.not_eq_false', Bool.not_eq_true, Bool.not_eq_false, Option.isNone_none, Option.isNone_some, Option.isSome_none, Option.isSome_some, ne_eq, Decidable.not_not] at hb5_12
                 refine WL.val rfl rfl rfl rfl (r_move rfl (ev_t rfl)) ?_
                 refine WL.val rfl rfl rfl rfl (r_gtr rfl (ev_t rfl) ev_c) ?_
                 refine WL.val rfl rfl rfl rfl (r_move rfl (ev_t rfl)) ?_
                 refine WL.cases 47 rfl (fun hb5_15 => ?_) (fun hb5_15 => ?_)
                 · try (exfalso; first | (simp at hb5_15; done) | (simp only [decide_eq_true_eq, decide_eq_false_iff_not, Bool.not_eq_true', Bool.not_eq_false', Bool.not_eq_true, Bool.not_eq_false] at hb5_15; omega) | omega)
                   all_goals
                    try simp only [decide_eq_true_eq, decide_eq_false_iff_not, Bool.not_eq_true', Bool.not_eq_false', Bool.not_eq_true, Bool.not_eq_false, Option.isNone_none, Option.isNone_some, Option.isSome_none, Option.isSome_some, ne_eq, Decidable.not_not] at hb5_15
                    have hx1 : ∃ x, ((k :: r).map U8)[1]? = some (U8 x) ∧ r.head? = some x := by
                      cases r with
                      | nil => simp at hn; omega
                      | cons x r => exact ⟨x, rfl, rfl⟩
                    obtain ⟨x1, hx1, hx2⟩ := hx1
                    refine WL.val rfl rfl rfl rfl (r_move rfl (ev_t rfl)) ?_
                    refine WL.val rfl rfl rfl rfl (r_nilCheck rfl (ev_t rfl)) ?_
                    first | refine WL.val rfl rfl rfl rfl (r_field0 rfl (ev_t rfl) fld_57_0) ?_ | refine WL.val rfl rfl rfl rfl (r_fieldAt rfl (ev_t rfl) fld_57_0) ?_
                    refine WL.val rfl rfl rfl rfl (r_load rfl (ev_t rfl) flat_30 (Blk.cell hb rfl)) ?_
                    refine WL.val rfl rfl rfl rfl (r_indexAddr rfl (ev_t rfl) ev_c elem_30 size_5 (by omega) (by omega)) ?_
                    refine WL.val rfl rfl rfl rfl (r_load rfl (ev_t rfl) flat_5 (hr.cell (j := 1) (by omega) hx1)) ?_
                    refine WL.val rfl rfl rfl rfl (r_eql rfl (ev_t rfl) ev_c) ?_
                    refine WL.val rfl rfl rfl rfl (r_pickT rfl (ev_t rfl) (ev_t rfl)) ?_
                    refine WL.val rfl rfl rfl rfl (r_pickF rfl (ev_t rfl) (ev_t rfl)) ?_
                    refine WL.nil ?_
                    refine WX.keep [(0, _), (3, _), (56, _)] ⟨rfl, rfl, rfl, trivial⟩ ?_
                    refine WX.next ?_
                    refine WC.cond rfl (ev_t rfl) (fun hc5 => ?_) (fun hc5 => ?_)
                    · try (exfalso; first | (simp at hc5; done) | (simp only [decide_eq_true_eq, decide_eq_false_iff_not, Bool.not_eq_true', Bool.not_eq_false', Bool.not_eq_true, Bool.not_eq_false] at hc5; omega) | omega)
                      all_goals
                       try simp only [decide_eq_true_eq, decide_eq_false_iff_not, Bool.not_eq_true', Bool.not_eq_false', Bool.not_eq_true, Bool.not_eq_false, Option.isNone_none, Option.isNone_some, Option.isSome_none, Option.isSome_some, ne_eq, Decidable.not_not] at hc5
                       refine WC.seq ?_
                       refine WC.region ?_
                       refine WL.val rfl rfl rfl rfl (r_move rfl (ev_t rfl)) ?_
                       refine WL.cons (SO.call (fail_blk hb F) rfl body_42 ⟨(ev_t rfl), trivial⟩ rfl rfl rfl rfl ?_)
                       rintro v1 w3 ⟨hR, hu3⟩
                       refine WL.nil ?_
                       refine WX.keep [] trivial ?_
                       refine WX.next ?_
                       refine WC.seq ?_
                       refine WC.region ?_
                       refine WL.val rfl rfl rfl rfl (r_assign rfl ev_c) ?_
                       refine WL.nil ?_
                       refine WX.keep [(2, _)] ⟨rfl, trivial⟩ ?_
                       refine WX.next ?_
                       refine WC.ret ?_
                       refine WX.thenRet ?_
                       refine WX.retE1 rfl rfl ?_
                       have hbb : 8 < k.toNat ∨ r.length < k.toNat ∨ (0 < k.toNat ∧ r.head? = some 0) := by
                         first
                         | (left; omega)
                         | (right; left; omega)
                         | (right; right; refine ⟨by omega, ?_⟩; rw [hx2, show x1 = 0 from UInt8.toNat_inj.1 (by simp only [UInt8.toNat_zero]; omega)])
                       rw [hbad hbb]
                       exact ⟨rfl, hR, hu3⟩
                    · try (exfalso; first | (simp at hc5; done) | (simp only [decide_eq_true_eq, decide_eq_false_iff_not, Bool.not_eq_true', Bool.not_eq_false', Bool.not_eq_true, Bool.not_eq_false] at hc5; omega) | omega)
                      all_goals
                       try simp only [decide_eq_true_eq, decide_eq_false_iff_not, Bool.not_eq_true', Bool.not_eq_false', Bool.not_eq_true, Bool.not_eq_false, Option.isNone_none, Option.isNone_some, Option.isSome_none, Option.isSome_some, ne_eq, Decidable.not_not] at hc5
                       refine WC.skip ?_
                       refine WX.next ?_
                       refine WC.seq ?_
                       refine WC.region ?_
                       refine WL.val rfl rfl rfl rfl (r_assign rfl ev_c) ?_
                       refine WL.nil ?_
                       refine WX.keep [(0, _), (3, _), (4, _)] ⟨rfl, rfl, rfl, trivial⟩ ?_
                       refine WX.next ?_
                       refine WC.seq ?_
                       refine WC.seq ?_
                       refine WC.region ?_
                       refine WL.val rfl rfl rfl rfl (r_move rfl (ev_t rfl)) ?_
                       refine WL.val rfl rfl rfl rfl (r_nilCheck rfl (ev_t rfl)) ?_
                       first | refine WL.val rfl rfl rfl rfl (r_field0 rfl (ev_t rfl) fld_57_0) ?_ | refine WL.val rfl rfl rfl rfl (r_fieldAt rfl (ev_t rfl) fld_57_0) ?_
                       refine WL.val rfl rfl rfl rfl (r_load rfl (ev_t rfl) flat_30 (Blk.cell hb rfl)) ?_
                       refine WL.val rfl rfl rfl rfl (r_move rfl (ev_t rfl)) ?_
                       first | refine WL.val rfl rfl rfl rfl (r_addN rfl ev_c (ev_t rfl) (by simp only [inK]; omega)) ?_ | refine WL.val rfl rfl rfl rfl (r_add rfl ev_c (ev_t rfl)) ?_
                       refine WL.val rfl rfl rfl rfl (r_slice (l := 1) (h := 1 + k.toNat) rfl (ev_t rfl) elem_30 size_5 (bnd_some ev_c (by omega)) (bnd_some (ev_t rfl) (by omega)) (by omega) (by omega) (by omega)) ?_
                       refine WL.val rfl rfl rfl rfl (r_lenSlice (ts := #[]) rfl (ev_t rfl) elem_30) ?_
                       refine WL.val rfl rfl rfl rfl (r_move rfl ev_c) ?_
                       refine WL.nil ?_
                       refine WX.keep [(0, _), (3, _), (4, _), (65, _), (66, _), (67, _)] ⟨rfl, rfl, rfl, rfl, rfl, rfl, trivial⟩ ?_
                       have hr1 := hr.slice (l := 1) (h := 1 + k.toNat) (by omega) (by omega)
                       generalize cutA (some ⟨b, off, none⟩) c 1 1 = A1 at hr1 ⊢
                       refine WX.next ?_
                       refine WC.block ?_
                       -- loop 1: live [0, 3, 4, 65, 66, 67]
                       refine WC.keep [(0, _), (3, _), (4, _), (65, _), (66, _), (67, _)] ⟨rfl, rfl, rfl, rfl, rfl, rfl, trivial⟩ ?_
                       refine WC.loop (fun m E w' => ∃ i : Nat, i ≤ k.toNat ∧ m = k.toNat - i ∧ w' = w ∧ E = [(0, .pointer (some ⟨g, 0, none⟩)), (3, .int .i64 (k.toNat : Int)), (4, .int .u64 ((beN ((r.take k.toNat).take i) : Nat) : Int)), (65, .slice A1 (1 + k.toNat - 1) (c - 1)), (66, .int .i64 ((1 + k.toNat - 1 : Nat) : Int)), (67, .int .i64 (i : Int))]) (k.toNat) ?_ ?_
                       · exact ⟨0, by omega, by omega, rfl, rfl⟩
                       · rintro m E w' ⟨i, hi, rfl, rfl, rfl⟩
                         refine WC.seq ?_
                         refine WC.region ?_
                         refine WL.val rfl rfl rfl rfl (r_lss rfl (ev_t rfl) (ev_t rfl)) ?_
                         refine WL.nil ?_
                         refine WX.keep [(0, _), (3, _), (4, _), (65, _), (66, _), (67, _), (68, _)] ⟨rfl, rfl, rfl, rfl, rfl, rfl, rfl, trivial⟩ ?_
                         refine WX.next ?_
                         refine WC.seq ?_
                         refine WC.cond rfl (ev_t rfl) (fun hc10 => ?_) (fun hc10 => ?_)
                         · try (exfalso; first | (simp at hc10; done) | (simp only [decide_eq_true_eq, decide_eq_false_iff_not, Bool.not_eq_true', Bool.not_eq_false', Bool.not_eq_true, Bool.not_eq_false] at hc10; omega) | omega)
                           all_goals
                            try simp only [decide_eq_true_eq, decide_eq_false_iff_not, Bool.not_eq_true', Bool.not_eq_false', Bool.not_eq_true, Bool.not_eq_false, Option.isNone_none, Option.isNone_some, Option.isSome_none, Option.isSome_some, ne_eq, Decidable.not_not] at hc10
                            have hik : i < k.toNat := by omega
                            obtain ⟨b1, off1, rfl, _, _, _⟩ := hr1.open (by omega)
                            have hb8 := UInt8.toNat_lt (((r.take k.toNat)[i]'(by rw [List.length_take]; omega)))
                            have hx3 : i < (r.take k.toNat).length := by rw [List.length_take]; omega
                            have hx2 : (((k :: r).map U8).drop (1 * 1) |>.take ((1 + k.toNat - 1) * 1))[i]? = some (U8 ((r.take k.toNat)[i])) := by
                              simp [List.getElem?_take, List.getElem_take, hik]
                              exact ⟨_, List.getElem?_eq_getElem (by rw [List.length_take] at hx3; omega), rfl⟩
                            refine WC.skip ?_
                            refine WX.next ?_
                            refine WC.seq ?_
                            refine WC.block ?_
                            refine WC.seq ?_
                            refine WC.region ?_
                            refine WL.val rfl rfl rfl rfl (r_indexAddr rfl (ev_t rfl) (ev_t rfl) elem_30 size_5 (by omega) (by omega)) ?_
                            refine WL.val rfl rfl rfl rfl (r_load rfl (ev_t rfl) flat_5 (hr1.cell (j := i) (by omega) hx2)) ?_
                            refine WL.val rfl rfl rfl rfl (r_assign rfl (ev_t rfl)) ?_
                            refine WL.nil ?_
                            refine WX.keep [(0, _), (3, _), (4, _), (6, _), (65, _), (66, _), (67, _)] ⟨rfl, rfl, rfl, rfl, rfl, rfl, rfl, trivial⟩ ?_
                            refine WX.next ?_
                            refine WC.region ?_
                            refine WL.val rfl rfl rfl rfl (r_move rfl (ev_t rfl)) ?_
                            refine WL.val rfl rfl rfl rfl (r_shl rfl (ev_t rfl) ev_c (by omega) (by simp only [IntKind.bits]; omega)) ?_
                            refine WL.val rfl rfl rfl rfl (r_move rfl (ev_t rfl)) ?_
                            first | refine WL.val rfl rfl rfl rfl (r_convN rfl (ev_t rfl) some_5 int_63 (by simp only [inK]; omega)) ?_ | refine WL.val rfl rfl rfl rfl (r_conv rfl (ev_t rfl) some_5 int_63) ?_
                            refine WL.val rfl rfl rfl rfl (r_or rfl (ev_t rfl) (ev_t rfl)) ?_
                            refine WL.val rfl rfl rfl rfl (r_assign rfl (ev_t rfl)) ?_
                            refine WL.nil ?_
                            refine WX.keep [(0, _), (3, _), (4, _), (65, _), (66, _), (67, _)] ⟨rfl, rfl, rfl, rfl, rfl, rfl, trivial⟩ ?_
                            refine WX.blockNormal ?_
                            refine WX.next ?_
                            refine WC.region ?_
                            first | refine WL.val rfl rfl rfl rfl (r_addN rfl (ev_t rfl) ev_c (by simp only [inK]; omega)) ?_ | refine WL.val rfl rfl rfl rfl (r_add rfl (ev_t rfl) ev_c) ?_
                            refine WL.val rfl rfl rfl rfl (r_move rfl (ev_t rfl)) ?_
                            refine WL.nil ?_
                            refine WX.keep [(0, _), (3, _), (4, _), (65, _), (66, _), (67, _)] ⟨rfl, rfl, rfl, rfl, rfl, rfl, trivial⟩ ?_
                            refine WX.meet [(0, _), (3, _), (4, _), (65, _), (66, _), (67, _)] ⟨rfl, rfl, rfl, rfl, rfl, rfl, trivial⟩ ?_
                            refine ⟨k.toNat - (i + 1), by omega, i + 1, by omega, rfl, rfl, ?_⟩
                            rw [shl8or _ _ (beN_take_lt _ _ (by omega)), ← beN_take_succ _ _ hx3]
                            rfl
                         · try (exfalso; first | (simp at hc10; done) | (simp only [decide_eq_true_eq, decide_eq_false_iff_not, Bool.not_eq_true', Bool.not_eq_false', Bool.not_eq_true, Bool.not_eq_false] at hc10; omega) | omega)
                           all_goals
                            try simp only [decide_eq_true_eq, decide_eq_false_iff_not, Bool.not_eq_true', Bool.not_eq_false', Bool.not_eq_true, Bool.not_eq_false, Option.isNone_none, Option.isNone_some, Option.isSome_none, Option.isSome_some, ne_eq, Decidable.not_not] at hc10
                            obtain rfl : i = k.toNat := by omega
                            refine WC.exit ?_
                            refine WX.thenExit ?_
                            refine WX.thenExit ?_
                            refine WX.blockHere ?_
                            refine WX.next ?_
                            refine WC.seq ?_
                            refine WC.region ?_
                            refine WL.val rfl rfl rfl rfl (r_move rfl (ev_t rfl)) ?_
                            refine WL.val rfl rfl rfl rfl (r_move rfl (ev_t rfl)) ?_
                            refine WL.val rfl rfl rfl rfl (r_nilCheck rfl (ev_t rfl)) ?_
                            first | refine WL.val rfl rfl rfl rfl (r_field0 rfl (ev_t rfl) fld_57_0) ?_ | refine WL.val rfl rfl rfl rfl (r_fieldAt rfl (ev_t rfl) fld_57_0) ?_
                            refine WL.val rfl rfl rfl rfl (r_load rfl (ev_t rfl) flat_30 (Blk.cell hb rfl)) ?_
                            refine WL.val rfl rfl rfl rfl (r_move rfl (ev_t rfl)) ?_
                            first | refine WL.val rfl rfl rfl rfl (r_addN rfl ev_c (ev_t rfl) (by simp only [inK]; omega)) ?_ | refine WL.val rfl rfl rfl rfl (r_add rfl ev_c (ev_t rfl)) ?_
                            refine WL.val rfl rfl rfl rfl (r_slice (l := 1 + k.toNat) (h := _) rfl (ev_t rfl) elem_30 size_5 (bnd_some (ev_t rfl) (by omega)) bnd_none (by omega) (by omega) (by omega)) ?_
                            refine WL.val rfl rfl rfl rfl (r_nilCheck rfl (ev_t rfl)) ?_
                            first | refine WL.val rfl rfl rfl rfl (r_field0 rfl (ev_t rfl) fld_57_0) ?_ | refine WL.val rfl rfl rfl rfl (r_fieldAt rfl (ev_t rfl) fld_57_0) ?_
                            refine WL.cons (SO.store rfl (ev_t rfl) (ev_t rfl) size_30 hb rfl rfl rfl rfl rfl ?_)
                            intro w4 hu4 hb hz4
                            have hs4 := hu4.size
                            refine WL.nil ?_
                            refine WX.keep [(4, _)] ⟨rfl, trivial⟩ ?_
                            refine WX.next ?_
                            refine WC.seq ?_
                            refine WC.region ?_
                            refine WL.val rfl rfl rfl rfl (r_move rfl (ev_t rfl)) ?_
                            refine WL.val rfl rfl rfl rfl (r_assign rfl (ev_t rfl)) ?_
                            refine WL.nil ?_
                            refine WX.keep [(2, _)] ⟨rfl, trivial⟩ ?_
                            refine WX.next ?_
                            refine WC.ret ?_
                            refine WX.retE1 rfl rfl ?_
                            have hgg : k.toNat = 0 ∨ r.head? ≠ some 0 := by
                              first
                              | (left; omega)
                              | (right; rw [hx2]; intro e; injection e with e; subst e; simp at hc5)
                            rw [hgood (by omega) (by omega) hgg]
                            refine ⟨?_, ?_, hu4⟩
                            · rw [List.take_of_length_le (by rw [List.length_take]; omega)]
                            · have hr2 := hr.slice (l := 1 + k.toNat) (h := n) (by omega) (Nat.le_refl _)
                              have e1 : n - (1 + k.toNat) = (r.drop k.toNat).length := by rw [List.length_drop]; omega
                              have e2 : ((((k :: r).map U8).drop ((1 + k.toNat) * 1)).take ((n - (1 + k.toNat)) * 1)) = (r.drop k.toNat).map U8 := by
                                rw [List.take_of_length_le (by simp; omega), Nat.mul_one, Nat.add_comm 1, List.map_cons, List.drop_succ_cons, List.map_drop]
                              rw [e2] at hr2
                              rw [e1] at hr2 hb
                              exact ⟨_, _, hb, hr2.upd hu4 (fun q hq _ hS => by simp only [At] at hS; subst hS; exact hFg hq)⟩
                 · try (exfalso; first | (simp at hb5_15; done) | (simp only [decide_eq_true_eq, decide_eq_false_iff_not, Bool.not_eq_true', Bool.not_eq_false', Bool.not_eq_true, Bool.not_eq_false] at hb5_15; omega) | omega)
                   all_goals
                    try simp only [decide_eq_true_eq, decide_eq_false_iff_not, Bool.not_eq_true', Bool.not_eq_false', Bool.not_eq_true, Bool.not_eq_false, Option.isNone_none, Option.isNone_some, Option.isSome_none, Option.isSome_some, ne_eq, Decidable.not_not] at hb5_15
                    refine WL.skip rfl rfl rfl ?_
                    refine WL.skip rfl rfl rfl ?_
                    refine WL.skip rfl rfl rfl ?_
                    refine WL.skip rfl rfl rfl ?_
                    refine WL.skip rfl rfl rfl ?_
                    refine WL.skip rfl rfl rfl ?_
                    refine WL.skip rfl rfl rfl ?_
                    refine WL.val rfl rfl rfl rfl (r_pickF rfl (ev_t rfl) ev_c) ?_
                    refine WL.val rfl rfl rfl rfl (r_pickF rfl (ev_t rfl) (ev_t rfl)) ?_
                    refine WL.nil ?_
                    refine WX.keep [(0, _), (3, _), (56, _)] ⟨rfl, rfl, rfl, trivial⟩ ?_
                    refine WX.next ?_
                    refine WC.cond_false rfl (ev_t rfl) ?_
                    refine WC.skip ?_
                    refine WX.next ?_
                    refine WC.seq ?_
                    refine WC.region ?_
                    refine WL.val rfl rfl rfl rfl (r_assign rfl ev_c) ?_
                    refine WL.nil ?_
                    refine WX.keep [(0, _), (3, _), (4, _)] ⟨rfl, rfl, rfl, trivial⟩ ?_
                    refine WX.next ?_
                    refine WC.seq ?_
                    refine WC.seq ?_
                    refine WC.region ?_
                    refine WL.val rfl rfl rfl rfl (r_move rfl (ev_t rfl)) ?_
                    refine WL.val rfl rfl rfl rfl (r_nilCheck rfl (ev_t rfl)) ?_
                    first | refine WL.val rfl rfl rfl rfl (r_field0 rfl (ev_t rfl) fld_57_0) ?_ | refine WL.val rfl rfl rfl rfl (r_fieldAt rfl (ev_t rfl) fld_57_0) ?_
                    refine WL.val rfl rfl rfl rfl (r_load rfl (ev_t rfl) flat_30 (Blk.cell hb rfl)) ?_
                    refine WL.val rfl rfl rfl rfl (r_move rfl (ev_t rfl)) ?_
                    first | refine WL.val rfl rfl rfl rfl (r_addN rfl ev_c (ev_t rfl) (by simp only [inK]; omega)) ?_ | refine WL.val rfl rfl rfl rfl (r_add rfl ev_c (ev_t rfl)) ?_
                    refine WL.val rfl rfl rfl rfl (r_slice (l := 1) (h := 1 + k.toNat) rfl (ev_t rfl) elem_30 size_5 (bnd_some ev_c (by omega)) (bnd_some (ev_t rfl) (by omega)) (by omega) (by omega) (by omega)) ?_
                    refine WL.val rfl rfl rfl rfl (r_lenSlice (ts := #[]) rfl (ev_t rfl) elem_30) ?_
                    refine WL.val rfl rfl rfl rfl (r_move rfl ev_c) ?_
                    refine WL.nil ?_
                    refine WX.keep [(0, _), (3, _), (4, _), (65, _), (66, _), (67, _)] ⟨rfl, rfl, rfl, rfl, rfl, rfl, trivial⟩ ?_
                    have hr1 := hr.slice (l := 1) (h := 1 + k.toNat) (by omega) (by omega)
                    generalize cutA (some ⟨b, off, none⟩) c 1 1 = A1 at hr1 ⊢
                    refine WX.next ?_
                    refine WC.block ?_
                    -- loop 1: live [0, 3, 4, 65, 66, 67]
                    refine WC.keep [(0, _), (3, _), (4, _), (65, _), (66, _), (67, _)] ⟨rfl, rfl, rfl, rfl, rfl, rfl, trivial⟩ ?_
                    refine WC.loop (fun m E w' => ∃ i : Nat, i ≤ k.toNat ∧ m = k.toNat - i ∧ w' = w ∧ E = [(0, .pointer (some ⟨g, 0, none⟩)), (3, .int .i64 (k.toNat : Int)), (4, .int .u64 ((beN ((r.take k.toNat).take i) : Nat) : Int)), (65, .slice A1 (1 + k.toNat - 1) (c - 1)), (66, .int .i64 ((1 + k.toNat - 1 : Nat) : Int)), (67, .int .i64 (i : Int))]) (k.toNat) ?_ ?_
                    · exact ⟨0, by omega, by omega, rfl, rfl⟩
                    · rintro m E w' ⟨i, hi, rfl, rfl, rfl⟩
                      refine WC.seq ?_
                      refine WC.region ?_
                      refine WL.val rfl rfl rfl rfl (r_lss rfl (ev_t rfl) (ev_t rfl)) ?_
                      refine WL.nil ?_
                      refine WX.keep [(0, _), (3, _), (4, _), (65, _), (66, _), (67, _), (68, _)] ⟨rfl, rfl, rfl, rfl, rfl, rfl, rfl, trivial⟩ ?_
                      refine WX.next ?_
                      refine WC.seq ?_
                      refine WC.cond rfl (ev_t rfl) (fun hc10 => ?_) (fun hc10 => ?_)
                      · try (exfalso; first | (simp at hc10; done) | (simp only [decide_eq_true_eq, decide_eq_false_iff_not, Bool.not_eq_true', Bool.not_eq_false', Bool.not_eq_true, Bool.not_eq_false] at hc10; omega) | omega)
                        all_goals
                         try simp only [decide_eq_true_eq, decide_eq_false_iff_not, Bool.not_eq_true', Bool.not_eq_false', Bool.not_eq_true, Bool.not_eq_false, Option.isNone_none, Option.isNone_some, Option.isSome_none, Option.isSome_some, ne_eq, Decidable.not_not] at hc10
                         have hik : i < k.toNat := by omega
                         obtain ⟨b1, off1, rfl, _, _, _⟩ := hr1.open (by omega)
                         have hb8 := UInt8.toNat_lt (((r.take k.toNat)[i]'(by rw [List.length_take]; omega)))
                         have hx3 : i < (r.take k.toNat).length := by rw [List.length_take]; omega
                         have hx2 : (((k :: r).map U8).drop (1 * 1) |>.take ((1 + k.toNat - 1) * 1))[i]? = some (U8 ((r.take k.toNat)[i])) := by
                           simp [List.getElem?_take, List.getElem_take, hik]
                           exact ⟨_, List.getElem?_eq_getElem (by rw [List.length_take] at hx3; omega), rfl⟩
                         refine WC.skip ?_
                         refine WX.next ?_
                         refine WC.seq ?_
                         refine WC.block ?_
                         refine WC.seq ?_
                         refine WC.region ?_
                         refine WL.val rfl rfl rfl rfl (r_indexAddr rfl (ev_t rfl) (ev_t rfl) elem_30 size_5 (by omega) (by omega)) ?_
                         refine WL.val rfl rfl rfl rfl (r_load rfl (ev_t rfl) flat_5 (hr1.cell (j := i) (by omega) hx2)) ?_
                         refine WL.val rfl rfl rfl rfl (r_assign rfl (ev_t rfl)) ?_
                         refine WL.nil ?_
                         refine WX.keep [(0, _), (3, _), (4, _), (6, _), (65, _), (66, _), (67, _)] ⟨rfl, rfl, rfl, rfl, rfl, rfl, rfl, trivial⟩ ?_
                         refine WX.next ?_
                         refine WC.region ?_
                         refine WL.val rfl rfl rfl rfl (r_move rfl (ev_t rfl)) ?_
                         refine WL.val rfl rfl rfl rfl (r_shl rfl (ev_t rfl) ev_c (by omega) (by simp only [IntKind.bits]; omega)) ?_
                         refine WL.val rfl rfl rfl rfl (r_move rfl (ev_t rfl)) ?_
                         first | refine WL.val rfl rfl rfl rfl (r_convN rfl (ev_t rfl) some_5 int_63 (by simp only [inK]; omega)) ?_ | refine WL.val rfl rfl rfl rfl (r_conv rfl (ev_t rfl) some_5 int_63) ?_
                         refine WL.val rfl rfl rfl rfl (r_or rfl (ev_t rfl) (ev_t rfl)) ?_
                         refine WL.val rfl rfl rfl rfl (r_assign rfl (ev_t rfl)) ?_
                         refine WL.nil ?_
                         refine WX.keep [(0, _), (3, _), (4, _), (65, _), (66, _), (67, _)] ⟨rfl, rfl, rfl, rfl, rfl, rfl, trivial⟩ ?_
                         refine WX.blockNormal ?_
                         refine WX.next ?_
                         refine WC.region ?_
                         first | refine WL.val rfl rfl rfl rfl (r_addN rfl (ev_t rfl) ev_c (by simp only [inK]; omega)) ?_ | refine WL.val rfl rfl rfl rfl (r_add rfl (ev_t rfl) ev_c) ?_
                         refine WL.val rfl rfl rfl rfl (r_move rfl (ev_t rfl)) ?_
                         refine WL.nil ?_
                         refine WX.keep [(0, _), (3, _), (4, _), (65, _), (66, _), (67, _)] ⟨rfl, rfl, rfl, rfl, rfl, rfl, trivial⟩ ?_
                         refine WX.meet [(0, _), (3, _), (4, _), (65, _), (66, _), (67, _)] ⟨rfl, rfl, rfl, rfl, rfl, rfl, trivial⟩ ?_
                         refine ⟨k.toNat - (i + 1), by omega, i + 1, by omega, rfl, rfl, ?_⟩
                         rw [shl8or _ _ (beN_take_lt _ _ (by omega)), ← beN_take_succ _ _ hx3]
                         rfl
                      · try (exfalso; first | (simp at hc10; done) | (simp only [decide_eq_true_eq, decide_eq_false_iff_not, Bool.not_eq_true', Bool.not_eq_false', Bool.not_eq_true, Bool.not_eq_false] at hc10; omega) | omega)
                        all_goals
                         try simp only [decide_eq_true_eq, decide_eq_false_iff_not, Bool.not_eq_true', Bool.not_eq_false', Bool.not_eq_true, Bool.not_eq_false, Option.isNone_none, Option.isNone_some, Option.isSome_none, Option.isSome_some, ne_eq, Decidable.not_not] at hc10
                         obtain rfl : i = k.toNat := by omega
                         refine WC.exit ?_
                         refine WX.thenExit ?_
                         refine WX.thenExit ?_
                         refine WX.blockHere ?_
                         refine WX.next ?_
                         refine WC.seq ?_
                         refine WC.region ?_
                         refine WL.val rfl rfl rfl rfl (r_move rfl (ev_t rfl)) ?_
                         refine WL.val rfl rfl rfl rfl (r_move rfl (ev_t rfl)) ?_
                         refine WL.val rfl rfl rfl rfl (r_nilCheck rfl (ev_t rfl)) ?_
                         first | refine WL.val rfl rfl rfl rfl (r_field0 rfl (ev_t rfl) fld_57_0) ?_ | refine WL.val rfl rfl rfl rfl (r_fieldAt rfl (ev_t rfl) fld_57_0) ?_
                         refine WL.val rfl rfl rfl rfl (r_load rfl (ev_t rfl) flat_30 (Blk.cell hb rfl)) ?_
                         refine WL.val rfl rfl rfl rfl (r_move rfl (ev_t rfl)) ?_
                         first | refine WL.val rfl rfl rfl rfl (r_addN rfl ev_c (ev_t rfl) (by simp only [inK]; omega)) ?_ | refine WL.val rfl rfl rfl rfl (r_add rfl ev_c (ev_t rfl)) ?_
                         refine WL.val rfl rfl rfl rfl (r_slice (l := 1 + k.toNat) (h := _) rfl (ev_t rfl) elem_30 size_5 (bnd_some (ev_t rfl) (by omega)) bnd_none (by omega) (by omega) (by omega)) ?_
                         refine WL.val rfl rfl rfl rfl (r_nilCheck rfl (ev_t rfl)) ?_
                         first | refine WL.val rfl rfl rfl rfl (r_field0 rfl (ev_t rfl) fld_57_0) ?_ | refine WL.val rfl rfl rfl rfl (r_fieldAt rfl (ev_t rfl) fld_57_0) ?_
                         refine WL.cons (SO.store rfl (ev_t rfl) (ev_t rfl) size_30 hb rfl rfl rfl rfl rfl ?_)
                         intro w5 hu5 hb hz5
                         have hs5 := hu5.size
                         refine WL.nil ?_
                         refine WX.keep [(4, _)] ⟨rfl, trivial⟩ ?_
                         refine WX.next ?_
                         refine WC.seq ?_
                         refine WC.region ?_
                         refine WL.val rfl rfl rfl rfl (r_move rfl (ev_t rfl)) ?_
                         refine WL.val rfl rfl rfl rfl (r_assign rfl (ev_t rfl)) ?_
                         refine WL.nil ?_
                         refine WX.keep [(2, _)] ⟨rfl, trivial⟩ ?_
                         refine WX.next ?_
                         refine WC.ret ?_
                         refine WX.retE1 rfl rfl ?_
                         have hgg : k.toNat = 0 ∨ r.head? ≠ some 0 := by
                           first
                           | (left; omega)
                           | (right; rw [hx2]; intro e; injection e with e; subst e; simp at hc5)
                         rw [hgood (by omega) (by omega) hgg]
                         refine ⟨?_, ?_, hu5⟩
                         · rw [List.take_of_length_le (by rw [List.length_take]; omega)]
                         · have hr2 := hr.slice (l := 1 + k.toNat) (h := n) (by omega) (Nat.le_refl _)
                           have e1 : n - (1 + k.toNat) = (r.drop k.toNat).length := by rw [List.length_drop]; omega
                           have e2 : ((((k :: r).map U8).drop ((1 + k.toNat) * 1)).take ((n - (1 + k.toNat)) * 1)) = (r.drop k.toNat).map U8 := by
                             rw [List.take_of_length_le (by simp; omega), Nat.mul_one, Nat.add_comm 1, List.map_cons, List.drop_succ_cons, List.map_drop]
                           rw [e2] at hr2
                           rw [e1] at hr2 hb
                           exact ⟨_, _, hb, hr2.upd hu5 (fun q hq _ hS => by simp only [At] at hS; subst hS; exact hFg hq)⟩
end Go.Proofs.YtipabhbnljadfaaDoor
