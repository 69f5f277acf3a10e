/-
  Several texts put together: Ru, Fh, Flo, Fi, Fj, Fk, Fl, Fm, Fn, Fo, Cl, Rr, Rs, Wr, Ws, Sum, Seal, Fp, Fq, Fr.
-/
import Derived.Laws.ComplexArith
import Derived.Laws.StructEq
import Derived.Laws.MakeOwn
import Derived.Laws.Small
import Derived.Laws.CopyRow
import Derived.Lib.AppendZerosOnto
import Derived.Lib.Overlaps
import Derived.Test.YtnjfhmlfpfkllaaZa
/-
  octet.Reader.Uint: the next number.
-/
namespace Go.Proofs.Ytnjfhmlfpfkllaa
open Go
set_option linter.unusedSimpArgs false
set_option linter.unusedVariables false

theorem fail_blk {w : World} {A : Option Addr} {n c g : Nat} {b : Bool} (hb : Blk w g #[.slice A n c, .bool b] 99) (F : Nat → Prop) :
    Ret Try.prog 51 #[.pointer (some ⟨g, 0, none⟩)] w fun _ w' => IsR w' F g none ∧ Upd (At g) w w' := by
  refine enterRet (vs := [_]) (N := 7) Try.func51 rfl rfl rfl ?_
  refine WC.keep [(0, _)] ⟨rfl, trivial⟩ ?_
  refine WC.seq ?_
  refine WC.region ?_
  refine WL.val rfl rfl rfl rfl (r_move rfl (ev_t rfl)) ?_
  refine WL.val rfl rfl rfl rfl (r_neqPtrNil rfl (ev_t rfl) ev_c ptr_88) ?_
  refine WL.nil ?_
  refine WX.keep [(0, _), (3, _)] ⟨rfl, rfl, trivial⟩ ?_
  refine WX.next ?_
  refine WC.cond rfl (ev_t rfl) (fun hc0 => ?_) (fun hc0 => ?_)
  · try (exfalso; first | (simp at hc0; done) | (simp only [decide_eq_true_eq, decide_eq_false_iff_not, Bool.not_eq_true', Bool.not_eq_false', Bool.not_eq_true, Bool.not_eq_false] at hc0; omega) | omega)
    all_goals
     try simp only [decide_eq_true_eq, decide_eq_false_iff_not, Bool.not_eq_true', Bool.not_eq_false', Bool.not_eq_true, Bool.not_eq_false, Option.isNone_none, Option.isNone_some, Option.isSome_none, Option.isSome_some, ne_eq, Decidable.not_not] at hc0
     refine WC.region ?_
     refine WL.val rfl rfl rfl rfl (r_move rfl (ev_t rfl)) ?_
     refine WL.val rfl rfl rfl rfl (r_nilCheck rfl (ev_t rfl)) ?_
     first | refine WL.val rfl rfl rfl rfl (r_field0 rfl (ev_t rfl) fld_99_1) ?_ | refine WL.val rfl rfl rfl rfl (r_fieldAt rfl (ev_t rfl) fld_99_1) ?_
     refine WL.cons (SO.store rfl (ev_t rfl) ev_c size_4 hb rfl rfl rfl rfl rfl ?_)
     intro w1 hu1 hb hz1
     have hs1 := hu1.size
     refine WL.nil ?_
     refine WX.keep [] trivial ?_
     refine WX.endE (l := []) (vs := []) rfl trivial ?_
     exact ⟨⟨A, n, c, hb⟩, hu1⟩
  · try (exfalso; first | (simp at hc0; done) | (simp only [decide_eq_true_eq, decide_eq_false_iff_not, Bool.not_eq_true', Bool.not_eq_false', Bool.not_eq_true, Bool.not_eq_false] at hc0; omega) | omega)
    all_goals
     try simp only [decide_eq_true_eq, decide_eq_false_iff_not, Bool.not_eq_true', Bool.not_eq_false', Bool.not_eq_true, Bool.not_eq_false, Option.isNone_none, Option.isNone_some, Option.isSome_none, Option.isSome_some, ne_eq, Decidable.not_not] at hc0
     refine WC.skip ?_
     refine WX.endE (l := []) (vs := []) rfl trivial ?_
     exact ⟨⟨A, n, c, hb⟩, (Upd.refl _ _)⟩

theorem ruint_bad {w : World} {F : Nat → Prop} {A : Option Addr} {n c g : Nat} {b : Bool} (hb : Blk w g #[.slice A n c, .bool b] 99) (h : b = true ∨ (n : Int) = 0) :
    Ret Try.prog 45 #[.pointer (some ⟨g, 0, none⟩)] w fun v w' => v = .int .u64 0 ∧ IsR w' F g none ∧ Upd (At g) w w' := by
  refine enterRet (vs := [_]) (N := 88) Try.func45 rfl rfl rfl ?_
  refine WC.keep [(0, _)] ⟨rfl, trivial⟩ ?_
  refine WC.seq ?_
  refine WC.region ?_
  refine WL.val rfl rfl rfl rfl (r_assign rfl ev_c) ?_
  refine WL.nil ?_
  refine WX.keep [(0, _)] ⟨rfl, trivial⟩ ?_
  refine WX.next ?_
  refine WC.seq ?_
  refine WC.seq ?_
  refine WC.region ?_
  refine WL.val rfl rfl rfl rfl (r_move rfl (ev_t rfl)) ?_
  refine WL.val rfl rfl rfl rfl (r_eqlPtrNil rfl (ev_t rfl) ev_c ptr_88) ?_
  refine WL.val rfl rfl rfl rfl (r_move rfl (ev_t rfl)) ?_
  refine WL.cases 9 rfl (fun hb1_2 => ?_) (fun hb1_2 => ?_)
  · try (exfalso; first | (simp at hb1_2; done) | (simp only [decide_eq_true_eq, decide_eq_false_iff_not, Bool.not_eq_true', Bool.not_eq_false', Bool.not_eq_true, Bool.not_eq_false] at hb1_2; omega) | omega)
    all_goals
     try simp only [decide_eq_true_eq, decide_eq_false_iff_not, Bool.not_eq_true', Bool.not_eq_false', Bool.not_eq_true, Bool.not_eq_false, Option.isNone_none, Option.isNone_some, Option.isSome_none, Option.isSome_some, ne_eq, Decidable.not_not] at hb1_2
     refine WL.skip rfl rfl rfl ?_
     refine WL.skip rfl rfl rfl ?_
     refine WL.skip rfl rfl rfl ?_
     refine WL.skip rfl rfl rfl ?_
     refine WL.val rfl rfl rfl rfl (r_pickT rfl (ev_t rfl) ev_c) ?_
     refine WL.val rfl rfl rfl rfl (r_move rfl (ev_t rfl)) ?_
     refine WL.skip rfl rfl rfl ?_
     refine WL.skip rfl rfl rfl ?_
     refine WL.skip rfl rfl rfl ?_
     refine WL.skip rfl rfl rfl ?_
     refine WL.skip rfl rfl rfl ?_
     refine WL.skip rfl rfl rfl ?_
     refine WL.val rfl rfl rfl rfl (r_pickT rfl (ev_t rfl) ev_c) ?_
     refine WL.nil ?_
     refine WX.keep [(0, _), (22, _)] ⟨rfl, rfl, trivial⟩ ?_
     refine WX.next ?_
     refine WC.cond_true rfl (ev_t rfl) ?_
     refine WC.seq ?_
     refine WC.region ?_
     refine WL.val rfl rfl rfl rfl (r_move rfl (ev_t rfl)) ?_
     refine WL.cons (SO.call (fail_blk hb F) rfl body_51 ⟨(ev_t rfl), trivial⟩ rfl rfl rfl rfl ?_)
     rintro v1 w1 ⟨hR, hu1⟩
     refine WL.nil ?_
     refine WX.keep [] trivial ?_
     refine WX.next ?_
     refine WC.seq ?_
     refine WC.region ?_
     refine WL.val rfl rfl rfl rfl (r_assign rfl ev_c) ?_
     refine WL.nil ?_
     refine WX.keep [(2, _)] ⟨rfl, trivial⟩ ?_
     refine WX.next ?_
     refine WC.ret ?_
     refine WX.thenRet ?_
     refine WX.retE1 rfl rfl ?_
     exact ⟨rfl, hR, hu1⟩
  · try (exfalso; first | (simp at hb1_2; done) | (simp only [decide_eq_true_eq, decide_eq_false_iff_not, Bool.not_eq_true', Bool.not_eq_false', Bool.not_eq_true, Bool.not_eq_false] at hb1_2; omega) | omega)
    all_goals
     try simp only [decide_eq_true_eq, decide_eq_false_iff_not, Bool.not_eq_true', Bool.not_eq_false', Bool.not_eq_true, Bool.not_eq_false, Option.isNone_none, Option.isNone_some, Option.isSome_none, Option.isSome_some, ne_eq, Decidable.not_not] at hb1_2
     refine WL.val rfl rfl rfl rfl (r_move rfl (ev_t rfl)) ?_
     refine WL.val rfl rfl rfl rfl (r_nilCheck rfl (ev_t rfl)) ?_
     first | refine WL.val rfl rfl rfl rfl (r_field0 rfl (ev_t rfl) fld_99_1) ?_ | refine WL.val rfl rfl rfl rfl (r_fieldAt rfl (ev_t rfl) fld_99_1) ?_
     refine WL.val rfl rfl rfl rfl (r_load rfl (ev_t rfl) flat_4 (Blk.cell hb rfl)) ?_
     refine WL.val rfl rfl rfl rfl (r_pickF rfl (ev_t rfl) (ev_t rfl)) ?_
     refine WL.val rfl rfl rfl rfl (r_move rfl (ev_t rfl)) ?_
     refine WL.cases 15 rfl (fun hb1_8 => ?_) (fun hb1_8 => ?_)
     · try (exfalso; first | (simp at hb1_8; done) | (simp only [decide_eq_true_eq, decide_eq_false_iff_not, Bool.not_eq_true', Bool.not_eq_false', Bool.not_eq_true, Bool.not_eq_false] at hb1_8; omega) | omega)
       all_goals
        try simp only [decide_eq_true_eq, decide_eq_false_iff_not, Bool.not_eq_true', Bool.not_eq_false', Bool.not_eq_true, Bool.not_eq_false, Option.isNone_none, Option.isNone_some, Option.isSome_none, Option.isSome_some, ne_eq, Decidable.not_not] at hb1_8
        refine WL.skip rfl rfl rfl ?_
        refine WL.skip rfl rfl rfl ?_
        refine WL.skip rfl rfl rfl ?_
        refine WL.skip rfl rfl rfl ?_
        refine WL.skip rfl rfl rfl ?_
        refine WL.skip rfl rfl rfl ?_
        refine WL.val rfl rfl rfl rfl (r_pickT rfl (ev_t rfl) ev_c) ?_
        refine WL.nil ?_
        refine WX.keep [(0, _), (22, _)] ⟨rfl, rfl, trivial⟩ ?_
        refine WX.next ?_
        refine WC.cond_true rfl (ev_t rfl) ?_
        refine WC.seq ?_
        refine WC.region ?_
        refine WL.val rfl rfl rfl rfl (r_move rfl (ev_t rfl)) ?_
        refine WL.cons (SO.call (fail_blk hb F) rfl body_51 ⟨(ev_t rfl), trivial⟩ rfl rfl rfl rfl ?_)
        rintro v1 w2 ⟨hR, hu2⟩
        refine WL.nil ?_
        refine WX.keep [] trivial ?_
        refine WX.next ?_
        refine WC.seq ?_
        refine WC.region ?_
        refine WL.val rfl rfl rfl rfl (r_assign rfl ev_c) ?_
        refine WL.nil ?_
        refine WX.keep [(2, _)] ⟨rfl, trivial⟩ ?_
        refine WX.next ?_
        refine WC.ret ?_
        refine WX.thenRet ?_
        refine WX.retE1 rfl rfl ?_
        exact ⟨rfl, hR, hu2⟩
     · try (exfalso; first | (simp at hb1_8; done) | (simp only [decide_eq_true_eq, decide_eq_false_iff_not, Bool.not_eq_true', Bool.not_eq_false', Bool.not_eq_true, Bool.not_eq_false] at hb1_8; omega) | omega)
       all_goals
        try simp only [decide_eq_true_eq, decide_eq_false_iff_not, Bool.not_eq_true', Bool.not_eq_false', Bool.not_eq_true, Bool.not_eq_false, Option.isNone_none, Option.isNone_some, Option.isSome_none, Option.isSome_some, ne_eq, Decidable.not_not] at hb1_8
        refine WL.val rfl rfl rfl rfl (r_move rfl (ev_t rfl)) ?_
        refine WL.val rfl rfl rfl rfl (r_nilCheck rfl (ev_t rfl)) ?_
        first | refine WL.val rfl rfl rfl rfl (r_field0 rfl (ev_t rfl) fld_99_0) ?_ | refine WL.val rfl rfl rfl rfl (r_fieldAt rfl (ev_t rfl) fld_99_0) ?_
        refine WL.val rfl rfl rfl rfl (r_load rfl (ev_t rfl) flat_22 (Blk.cell hb rfl)) ?_
        refine WL.val rfl rfl rfl rfl (r_lenSlice (ts := #[]) rfl (ev_t rfl) elem_22) ?_
        refine WL.val rfl rfl rfl rfl (r_eql rfl (ev_t rfl) ev_c) ?_
        refine WL.val rfl rfl rfl rfl (r_pickF rfl (ev_t rfl) (ev_t rfl)) ?_
        refine WL.nil ?_
        refine WX.keep [(0, _), (22, _)] ⟨rfl, rfl, trivial⟩ ?_
        refine WX.next ?_
        refine WC.cond rfl (ev_t rfl) (fun hc1 => ?_) (fun hc1 => ?_)
        · try (exfalso; first | (simp at hc1; done) | (simp only [decide_eq_true_eq, decide_eq_false_iff_not, Bool.not_eq_true', Bool.not_eq_false', Bool.not_eq_true, Bool.not_eq_false] at hc1; omega) | omega)
          all_goals
           try simp only [decide_eq_true_eq, decide_eq_false_iff_not, Bool.not_eq_true', Bool.not_eq_false', Bool.not_eq_true, Bool.not_eq_false, Option.isNone_none, Option.isNone_some, Option.isSome_none, Option.isSome_some, ne_eq, Decidable.not_not] at hc1
           refine WC.seq ?_
           refine WC.region ?_
           refine WL.val rfl rfl rfl rfl (r_move rfl (ev_t rfl)) ?_
           refine WL.cons (SO.call (fail_blk hb F) rfl body_51 ⟨(ev_t rfl), trivial⟩ rfl rfl rfl rfl ?_)
           rintro v1 w3 ⟨hR, hu3⟩
           refine WL.nil ?_
           refine WX.keep [] trivial ?_
           refine WX.next ?_
           refine WC.seq ?_
           refine WC.region ?_
           refine WL.val rfl rfl rfl rfl (r_assign rfl ev_c) ?_
           refine WL.nil ?_
           refine WX.keep [(2, _)] ⟨rfl, trivial⟩ ?_
           refine WX.next ?_
           refine WC.ret ?_
           refine WX.thenRet ?_
           refine WX.retE1 rfl rfl ?_
           exact ⟨rfl, hR, hu3⟩
        · try simp only [decide_eq_true_eq, decide_eq_false_iff_not, Bool.not_eq_true', Bool.not_eq_false', Bool.not_eq_true, Bool.not_eq_false, Option.isNone_none, Option.isNone_some, Option.isSome_none, Option.isSome_some, ne_eq, Decidable.not_not] at hc1
          exfalso
          exfalso; simp_all

theorem decU_none {k : UInt8} {r : List UInt8} (h : 8 < k.toNat ∨ r.length < k.toNat ∨ (0 < k.toNat ∧ r.head? = some 0)) : decU (k :: r) = none := by
  simp only [decU]
  rw [if_neg]
  rintro ⟨h1, h2, h3⟩
  rcases h with h | h | ⟨h, h'⟩
  · omega
  · omega
  · rcases h3 with h3 | h3
    · omega
    · exact h3 h'
theorem decU_some {k : UInt8} {r : List UInt8} (h1 : k.toNat ≤ 8) (h2 : k.toNat ≤ r.length) (h3 : k.toNat = 0 ∨ r.head? ≠ some 0) : decU (k :: r) = some (beN (r.take k.toNat), r.drop k.toNat) := by
  simp only [decU]
  rw [if_pos ⟨h1, h2, h3⟩]

theorem rd_len {w : World} {F : Nat → Prop} {v : Value} {n : Nat} {l : List UInt8} (h : Rd w F v n 1 (l.map U8)) : l.length = n := by
  have := h.len
  simpa using this

theorem ruint_cons {w : World} {F : Nat → Prop} {b off n c g : Nat} {k : UInt8} {r : List UInt8} (hb : Blk w g #[.slice (some ⟨b, off, none⟩) n c, .bool false] 99)
    (hr : Rd w F (.slice (some ⟨b, off, none⟩) n c) n 1 ((k :: r).map U8)) (hFg : ¬ F g) :
    Ret Try.prog 45 #[.pointer (some ⟨g, 0, none⟩)] w fun v w' => v = .int .u64 (uintR (some (k :: r))).1 ∧ IsR w' F g (uintR (some (k :: r))).2 ∧ Upd (At g) w w' := by
  have hn : n = r.length + 1 := by have := rd_len hr; simp at this; omega
  have hle := hr.le
  have hcap := hr.cap
  have hk := k.toNat_lt
  have hbad : 8 < k.toNat ∨ r.length < k.toNat ∨ (0 < k.toNat ∧ r.head? = some 0) → uintR (some (k :: r)) = (0, none) := fun h => by simp only [uintR, decU_none h]
  have hgood : k.toNat ≤ 8 → k.toNat ≤ r.length → (k.toNat = 0 ∨ r.head? ≠ some 0) → uintR (some (k :: r)) = (beN (r.take k.toNat), some (r.drop k.toNat)) := fun h1 h2 h3 => by simp only [uintR, decU_some h1 h2 h3]
  refine enterRet (vs := [_]) (N := 88) Try.func45 rfl rfl rfl ?_
  refine WC.keep [(0, _)] ⟨rfl, trivial⟩ ?_
  refine WC.seq ?_
  refine WC.region ?_
  refine WL.val rfl rfl rfl rfl (r_assign rfl ev_c) ?_
  refine WL.nil ?_
  refine WX.keep [(0, _)] ⟨rfl, trivial⟩ ?_
  refine WX.next ?_
  refine WC.seq ?_
  refine WC.seq ?_
  refine WC.region ?_
  refine WL.val rfl rfl rfl rfl (r_move rfl (ev_t rfl)) ?_
  refine WL.val rfl rfl rfl rfl (r_eqlPtrNil rfl (ev_t rfl) ev_c ptr_88) ?_
  refine WL.val rfl rfl rfl rfl (r_move rfl (ev_t rfl)) ?_
  refine WL.cases 9 rfl (fun hb1_2 => ?_) (fun hb1_2 => ?_)
  · exact absurd hb1_2 (by simp)
  · try (exfalso; first | (simp at hb1_2; done) | (simp only [decide_eq_true_eq, decide_eq_false_iff_not, Bool.not_eq_true', Bool.not_eq_false', Bool.not_eq_true, Bool.not_eq_false] at hb1_2; omega) | omega)
    all_goals
     try simp only [decide_eq_true_eq, decide_eq_false_iff_not, Bool.not_eq_true', Bool.not_eq_false', Bool.not_eq_true, Bool.not_eq_false, Option.isNone_none, Option.isNone_some, Option.isSome_none, Option.isSome_some, ne_eq, Decidable.not_not] at hb1_2
     refine WL.val rfl rfl rfl rfl (r_move rfl (ev_t rfl)) ?_
     refine WL.val rfl rfl rfl rfl (r_nilCheck rfl (ev_t rfl)) ?_
     first | refine WL.val rfl rfl rfl rfl (r_field0 rfl (ev_t rfl) fld_99_1) ?_ | refine WL.val rfl rfl rfl rfl (r_fieldAt rfl (ev_t rfl) fld_99_1) ?_
     refine WL.val rfl rfl rfl rfl (r_load rfl (ev_t rfl) flat_4 (Blk.cell hb rfl)) ?_
     refine WL.val rfl rfl rfl rfl (r_pickF rfl (ev_t rfl) (ev_t rfl)) ?_
     refine WL.val rfl rfl rfl rfl (r_move rfl (ev_t rfl)) ?_
     refine WL.cases 15 rfl (fun hb1_8 => ?_) (fun hb1_8 => ?_)
     · exact absurd hb1_8 (by simp)
     · try (exfalso; first | (simp at hb1_8; done) | (simp only [decide_eq_true_eq, decide_eq_false_iff_not, Bool.not_eq_true', Bool.not_eq_false', Bool.not_eq_true, Bool.not_eq_false] at hb1_8; omega) | omega)
       all_goals
        try simp only [decide_eq_true_eq, decide_eq_false_iff_not, Bool.not_eq_true', Bool.not_eq_false', Bool.not_eq_true, Bool.not_eq_false, Option.isNone_none, Option.isNone_some, Option.isSome_none, Option.isSome_some, ne_eq, Decidable.not_not] at hb1_8
        refine WL.val rfl rfl rfl rfl (r_move rfl (ev_t rfl)) ?_
        refine WL.val rfl rfl rfl rfl (r_nilCheck rfl (ev_t rfl)) ?_
        first | refine WL.val rfl rfl rfl rfl (r_field0 rfl (ev_t rfl) fld_99_0) ?_ | refine WL.val rfl rfl rfl rfl (r_fieldAt rfl (ev_t rfl) fld_99_0) ?_
        refine WL.val rfl rfl rfl rfl (r_load rfl (ev_t rfl) flat_22 (Blk.cell hb rfl)) ?_
        refine WL.val rfl rfl rfl rfl (r_lenSlice (ts := #[]) rfl (ev_t rfl) elem_22) ?_
        refine WL.val rfl rfl rfl rfl (r_eql rfl (ev_t rfl) ev_c) ?_
        refine WL.val rfl rfl rfl rfl (r_pickF rfl (ev_t rfl) (ev_t rfl)) ?_
        refine WL.nil ?_
        refine WX.keep [(0, _), (22, _)] ⟨rfl, rfl, trivial⟩ ?_
        refine WX.next ?_
        refine WC.cond rfl (ev_t rfl) (fun hc1 => ?_) (fun hc1 => ?_)
        · try simp only [decide_eq_true_eq, decide_eq_false_iff_not, Bool.not_eq_true', Bool.not_eq_false', Bool.not_eq_true, Bool.not_eq_false, Option.isNone_none, Option.isNone_some, Option.isSome_none, Option.isSome_some, ne_eq, Decidable.not_not] at hc1
          exfalso
          exfalso; omega
        · try (exfalso; first | (simp at hc1; done) | (simp only [decide_eq_true_eq, decide_eq_false_iff_not, Bool.not_eq_true', Bool.not_eq_false', Bool.not_eq_true, Bool.not_eq_false] at hc1; omega) | omega)
          all_goals
           try simp only [decide_eq_true_eq, decide_eq_false_iff_not, Bool.not_eq_true', Bool.not_eq_false', Bool.not_eq_true, Bool.not_eq_false, Option.isNone_none, Option.isNone_some, Option.isSome_none, Option.isSome_some, ne_eq, Decidable.not_not] at hc1
           refine WC.skip ?_
           refine WX.next ?_
           refine WC.seq ?_
           refine WC.region ?_
           refine WL.val rfl rfl rfl rfl (r_move rfl (ev_t rfl)) ?_
           refine WL.val rfl rfl rfl rfl (r_nilCheck rfl (ev_t rfl)) ?_
           first | refine WL.val rfl rfl rfl rfl (r_field0 rfl (ev_t rfl) fld_99_0) ?_ | refine WL.val rfl rfl rfl rfl (r_fieldAt rfl (ev_t rfl) fld_99_0) ?_
           refine WL.val rfl rfl rfl rfl (r_load rfl (ev_t rfl) flat_22 (Blk.cell hb rfl)) ?_
           refine WL.val rfl rfl rfl rfl (r_indexAddr rfl (ev_t rfl) ev_c elem_22 size_5 (by omega) (by omega)) ?_
           refine WL.val rfl rfl rfl rfl (r_load rfl (ev_t rfl) flat_5 (hr.cell (j := 0) (by omega) rfl)) ?_
           first | refine WL.val rfl rfl rfl rfl (r_convN rfl (ev_t rfl) some_5 int_3 (by simp only [inK]; omega)) ?_ | refine WL.val rfl rfl rfl rfl (r_conv rfl (ev_t rfl) some_5 int_3) ?_
           refine WL.val rfl rfl rfl rfl (r_assign rfl (ev_t rfl)) ?_
           refine WL.nil ?_
           refine WX.keep [(0, _), (3, _)] ⟨rfl, rfl, trivial⟩ ?_
           refine WX.next ?_
           refine WC.seq ?_
           refine WC.seq ?_
           refine WC.region ?_
           refine WL.val rfl rfl rfl rfl (r_move rfl (ev_t rfl)) ?_
           refine WL.val rfl rfl rfl rfl (r_gtr rfl (ev_t rfl) ev_c) ?_
           refine WL.val rfl rfl rfl rfl (r_move rfl (ev_t rfl)) ?_
           refine WL.cases 34 rfl (fun hb5_2 => ?_) (fun hb5_2 => ?_)
           · try (exfalso; first | (simp at hb5_2; done) | (simp only [decide_eq_true_eq, decide_eq_false_iff_not, Bool.not_eq_true', Bool.not_eq_false', Bool.not_eq_true, Bool.not_eq_false] at hb5_2; omega) | omega)
             all_goals
              try simp only [decide_eq_true_eq, decide_eq_false_iff_not, Bool.not_eq_true', Bool.not_eq_false', Bool.not_eq_true, Bool.not_eq_false, Option.isNone_none, Option.isNone_some, Option.isSome_none, Option.isSome_some, ne_eq, Decidable.not_not] at hb5_2
              refine WL.skip rfl rfl rfl ?_
              refine WL.skip rfl rfl rfl ?_
              refine WL.skip rfl rfl rfl ?_
              refine WL.skip rfl rfl rfl ?_
              refine WL.skip rfl rfl rfl ?_
              refine WL.skip rfl rfl rfl ?_
              refine WL.skip rfl rfl rfl ?_
              refine WL.skip rfl rfl rfl ?_
              refine WL.val rfl rfl rfl rfl (r_pickT rfl (ev_t rfl) ev_c) ?_
              refine WL.val rfl rfl rfl rfl (r_move rfl (ev_t rfl)) ?_
              refine WL.skip rfl rfl rfl ?_
              refine WL.skip rfl rfl rfl ?_
              refine WL.skip rfl rfl rfl ?_
              refine WL.skip rfl rfl rfl ?_
              refine WL.skip rfl rfl rfl ?_
              refine WL.skip rfl rfl rfl ?_
              refine WL.skip rfl rfl rfl ?_
              refine WL.skip rfl rfl rfl ?_
              refine WL.skip rfl rfl rfl ?_
              refine WL.skip rfl rfl rfl ?_
              refine WL.skip rfl rfl rfl ?_
              refine WL.val rfl rfl rfl rfl (r_pickT rfl (ev_t rfl) ev_c) ?_
              refine WL.nil ?_
              refine WX.keep [(0, _), (3, _), (56, _)] ⟨rfl, rfl, rfl, trivial⟩ ?_
              refine WX.next ?_
              refine WC.cond_true rfl (ev_t rfl) ?_
              refine WC.seq ?_
              refine WC.region ?_
              refine WL.val rfl rfl rfl rfl (r_move rfl (ev_t rfl)) ?_
              refine WL.cons (SO.call (fail_blk hb F) rfl body_51 ⟨(ev_t rfl), trivial⟩ rfl rfl rfl rfl ?_)
              rintro v1 w1 ⟨hR, hu1⟩
              refine WL.nil ?_
              refine WX.keep [] trivial ?_
              refine WX.next ?_
              refine WC.seq ?_
              refine WC.region ?_
              refine WL.val rfl rfl rfl rfl (r_assign rfl ev_c) ?_
              refine WL.nil ?_
              refine WX.keep [(2, _)] ⟨rfl, trivial⟩ ?_
              refine WX.next ?_
              refine WC.ret ?_
              refine WX.thenRet ?_
              refine WX.retE1 rfl rfl ?_
              have hbb : 8 < k.toNat ∨ r.length < k.toNat ∨ (0 < k.toNat ∧ r.head? = some 0) := by
                first
                | (left; omega)
                | (right; left; omega)
                | (right; right; refine ⟨by omega, ?_⟩; rw [hx2, show x1 = 0 from UInt8.toNat_inj.1 (by simp only [UInt8.toNat_zero]; omega)])
              rw [hbad hbb]
              exact ⟨rfl, hR, hu1⟩
           · try (exfalso; first | (simp at hb5_2; done) | (simp only [decide_eq_true_eq, decide_eq_false_iff_not, Bool.not_eq_true', Bool.not_eq_false', Bool.not_eq_true, Bool.not_eq_false] at hb5_2; omega) | omega)
             all_goals
              try simp only [decide_eq_true_eq, decide_eq_false_iff_not, Bool.not_eq_true', Bool.not_eq_false', Bool.not_eq_true, Bool.not_eq_false, Option.isNone_none, Option.isNone_some, Option.isSome_none, Option.isSome_some, ne_eq, Decidable.not_not] at hb5_2
              refine WL.val rfl rfl rfl rfl (r_move rfl (ev_t rfl)) ?_
              refine WL.val rfl rfl rfl rfl (r_nilCheck rfl (ev_t rfl)) ?_
              first | refine WL.val rfl rfl rfl rfl (r_field0 rfl (ev_t rfl) fld_99_0) ?_ | refine WL.val rfl rfl rfl rfl (r_fieldAt rfl (ev_t rfl) fld_99_0) ?_
              refine WL.val rfl rfl rfl rfl (r_load rfl (ev_t rfl) flat_22 (Blk.cell hb rfl)) ?_
              refine WL.val rfl rfl rfl rfl (r_lenSlice (ts := #[]) rfl (ev_t rfl) elem_22) ?_
              refine WL.val rfl rfl rfl rfl (r_move rfl (ev_t rfl)) ?_
              first | refine WL.val rfl rfl rfl rfl (r_addN rfl ev_c (ev_t rfl) (by simp only [inK]; omega)) ?_ | refine WL.val rfl rfl rfl rfl (r_add rfl ev_c (ev_t rfl)) ?_
              refine WL.val rfl rfl rfl rfl (r_lss rfl (ev_t rfl) (ev_t rfl)) ?_
              refine WL.val rfl rfl rfl rfl (r_pickF rfl (ev_t rfl) (ev_t rfl)) ?_
              refine WL.val rfl rfl rfl rfl (r_move rfl (ev_t rfl)) ?_
              refine WL.cases 44 rfl (fun hb5_12 => ?_) (fun hb5_12 => ?_)
              · try (exfalso; first | (simp at hb5_12; done) | (simp only [decide_eq_true_eq, decide_eq_false_iff_not, Bool.not_eq_true', Bool.not_eq_false', Bool.not_eq_true, Bool.not_eq_false] at hb5_12; omega) | omega)
                all_goals
                 try simp only [decide_eq_true_eq, decide_eq_false_iff_not, Bool.not_eq_true', Bool.not_eq_false', Bool.not_eq_true, Bool.not_eq_false, Option.isNone_none, Option.isNone_some, Option.isSome_none, Option.isSome_some, ne_eq, Decidable.not_not] at hb5_12
                 refine WL.skip rfl rfl rfl ?_
                 refine WL.skip rfl rfl rfl ?_
                 refine WL.skip rfl rfl rfl ?_
                 refine WL.skip rfl rfl rfl ?_
                 refine WL.skip rfl rfl rfl ?_
                 refine WL.skip rfl rfl rfl ?_
                 refine WL.skip rfl rfl rfl ?_
                 refine WL.skip rfl rfl rfl ?_
                 refine WL.skip rfl rfl rfl ?_
                 refine WL.skip rfl rfl rfl ?_
                 refine WL.skip rfl rfl rfl ?_
                 refine WL.val rfl rfl rfl rfl (r_pickT rfl (ev_t rfl) ev_c) ?_
                 refine WL.nil ?_
                 refine WX.keep [(0, _), (3, _), (56, _)] ⟨rfl, rfl, rfl, trivial⟩ ?_
                 refine WX.next ?_
                 refine WC.cond_true rfl (ev_t rfl) ?_
                 refine WC.seq ?_
                 refine WC.region ?_
                 refine WL.val rfl rfl rfl rfl (r_move rfl (ev_t rfl)) ?_
                 refine WL.cons (SO.call (fail_blk hb F) rfl body_51 ⟨(ev_t rfl), trivial⟩ rfl rfl rfl rfl ?_)
                 rintro v1 w2 ⟨hR, hu2⟩
                 refine WL.nil ?_
                 refine WX.keep [] trivial ?_
                 refine WX.next ?_
                 refine WC.seq ?_
                 refine WC.region ?_
                 refine WL.val rfl rfl rfl rfl (r_assign rfl ev_c) ?_
                 refine WL.nil ?_
                 refine WX.keep [(2, _)] ⟨rfl, trivial⟩ ?_
                 refine WX.next ?_
                 refine WC.ret ?_
                 refine WX.thenRet ?_
                 refine WX.retE1 rfl rfl ?_
                 have hbb : 8 < k.toNat ∨ r.length < k.toNat ∨ (0 < k.toNat ∧ r.head? = some 0) := by
                   first
                   | (left; omega)
                   | (right; left; omega)
                   | (right; right; refine ⟨by omega, ?_⟩; rw [hx2, show x1 = 0 from UInt8.toNat_inj.1 (by simp only [UInt8.toNat_zero]; omega)])
                 rw [hbad hbb]
                 exact ⟨rfl, hR, hu2⟩
              · try (exfalso; first | (simp at hb5_12; done) | (simp only [decide_eq_true_eq, decide_eq_false_iff_not, Bool.not_eq_true', Bool.not_eq_false', Bool.not_eq_true, Bool.not_eq_false] at hb5_12; omega) | omega)
                all_goals
                 try simp only [decide_eq_true_eq, decide_eq_false_iff_not, Bool.not_eq_true', Bool.not_eq_false', Bool.not_eq_true, Bool.not_eq_false, Option.isNone_none, Option.isNone_some, Option.isSome_none, Option.isSome_some, ne_eq, Decidable.not_not] at hb5_12
                 refine WL.val rfl rfl rfl rfl (r_move rfl (ev_t rfl)) ?_
                 refine WL.val rfl rfl rfl rfl (r_gtr rfl (ev_t rfl) ev_c) ?_
                 refine WL.val rfl rfl rfl rfl (r_move rfl (ev_t rfl)) ?_
                 refine WL.cases 47 rfl (fun hb5_15 => ?_) (fun hb5_15 => ?_)
                 · try (exfalso; first | (simp at hb5_15; done) | (simp only [decide_eq_true_eq, decide_eq_false_iff_not, Bool.not_eq_true', Bool.not_eq_false', Bool.not_eq_true, Bool.not_eq_false] at hb5_15; omega) | omega)
                   all_goals
                    try simp only [decide_eq_true_eq, decide_eq_false_iff_not, Bool.not_eq_true', Bool.not_eq_false', Bool.not_eq_true, Bool.not_eq_false, Option.isNone_none, Option.isNone_some, Option.isSome_none, Option.isSome_some, ne_eq, Decidable.not_not] at hb5_15
                    have hx1 : ∃ x, ((k :: r).map U8)[1]? = some (U8 x) ∧ r.head? = some x := by
                      cases r with
                      | nil => simp at hn; omega
                      | cons x r => exact ⟨x, rfl, rfl⟩
                    obtain ⟨x1, hx1, hx2⟩ := hx1
                    refine WL.val rfl rfl rfl rfl (r_move rfl (ev_t rfl)) ?_
                    refine WL.val rfl rfl rfl rfl (r_nilCheck rfl (ev_t rfl)) ?_
                    first | refine WL.val rfl rfl rfl rfl (r_field0 rfl (ev_t rfl) fld_99_0) ?_ | refine WL.val rfl rfl rfl rfl (r_fieldAt rfl (ev_t rfl) fld_99_0) ?_
                    refine WL.val rfl rfl rfl rfl (r_load rfl (ev_t rfl) flat_22 (Blk.cell hb rfl)) ?_
                    refine WL.val rfl rfl rfl rfl (r_indexAddr rfl (ev_t rfl) ev_c elem_22 size_5 (by omega) (by omega)) ?_
                    refine WL.val rfl rfl rfl rfl (r_load rfl (ev_t rfl) flat_5 (hr.cell (j := 1) (by omega) hx1)) ?_
                    refine WL.val rfl rfl rfl rfl (r_eql rfl (ev_t rfl) ev_c) ?_
                    refine WL.val rfl rfl rfl rfl (r_pickT rfl (ev_t rfl) (ev_t rfl)) ?_
                    refine WL.val rfl rfl rfl rfl (r_pickF rfl (ev_t rfl) (ev_t rfl)) ?_
                    refine WL.nil ?_
                    refine WX.keep [(0, _), (3, _), (56, _)] ⟨rfl, rfl, rfl, trivial⟩ ?_
                    refine WX.next ?_
                    refine WC.cond rfl (ev_t rfl) (fun hc5 => ?_) (fun hc5 => ?_)
                    · try (exfalso; first | (simp at hc5; done) | (simp only [decide_eq_true_eq, decide_eq_false_iff_not, Bool.not_eq_true', Bool.not_eq_false', Bool.not_eq_true, Bool.not_eq_false] at hc5; omega) | omega)
                      all_goals
                       try simp only [decide_eq_true_eq, decide_eq_false_iff_not, Bool.not_eq_true', Bool.not_eq_false', Bool.not_eq_true, Bool.not_eq_false, Option.isNone_none, Option.isNone_some, Option.isSome_none, Option.isSome_some, ne_eq, Decidable.not_not] at hc5
                       refine WC.seq ?_
                       refine WC.region ?_
                       refine WL.val rfl rfl rfl rfl (r_move rfl (ev_t rfl)) ?_
                       refine WL.cons (SO.call (fail_blk hb F) rfl body_51 ⟨(ev_t rfl), trivial⟩ rfl rfl rfl rfl ?_)
                       rintro v1 w3 ⟨hR, hu3⟩
                       refine WL.nil ?_
                       refine WX.keep [] trivial ?_
                       refine WX.next ?_
                       refine WC.seq ?_
                       refine WC.region ?_
                       refine WL.val rfl rfl rfl rfl (r_assign rfl ev_c) ?_
                       refine WL.nil ?_
                       refine WX.keep [(2, _)] ⟨rfl, trivial⟩ ?_
                       refine WX.next ?_
                       refine WC.ret ?_
                       refine WX.thenRet ?_
                       refine WX.retE1 rfl rfl ?_
                       have hbb : 8 < k.toNat ∨ r.length < k.toNat ∨ (0 < k.toNat ∧ r.head? = some 0) := by
                         first
                         | (left; omega)
                         | (right; left; omega)
                         | (right; right; refine ⟨by omega, ?_⟩; rw [hx2, show x1 = 0 from UInt8.toNat_inj.1 (by simp only [UInt8.toNat_zero]; omega)])
                       rw [hbad hbb]
                       exact ⟨rfl, hR, hu3⟩
                    · try (exfalso; first | (simp at hc5; done) | (simp only [decide_eq_true_eq, decide_eq_false_iff_not, Bool.not_eq_true', Bool.not_eq_false', Bool.not_eq_true, Bool.not_eq_false] at hc5; omega) | omega)
                      all_goals
                       try simp only [decide_eq_true_eq, decide_eq_false_iff_not, Bool.not_eq_true', Bool.not_eq_false', Bool.not_eq_true, Bool.not_eq_false, Option.isNone_none, Option.isNone_some, Option.isSome_none, Option.isSome_some, ne_eq, Decidable.not_not] at hc5
                       refine WC.skip ?_
                       refine WX.next ?_
                       refine WC.seq ?_
                       refine WC.region ?_
                       refine WL.val rfl rfl rfl rfl (r_assign rfl ev_c) ?_
                       refine WL.nil ?_
                       refine WX.keep [(0, _), (3, _), (4, _)] ⟨rfl, rfl, rfl, trivial⟩ ?_
                       refine WX.next ?_
                       refine WC.seq ?_
                       refine WC.seq ?_
                       refine WC.region ?_
                       refine WL.val rfl rfl rfl rfl (r_move rfl (ev_t rfl)) ?_
                       refine WL.val rfl rfl rfl rfl (r_nilCheck rfl (ev_t rfl)) ?_
                       first | refine WL.val rfl rfl rfl rfl (r_field0 rfl (ev_t rfl) fld_99_0) ?_ | refine WL.val rfl rfl rfl rfl (r_fieldAt rfl (ev_t rfl) fld_99_0) ?_
                       refine WL.val rfl rfl rfl rfl (r_load rfl (ev_t rfl) flat_22 (Blk.cell hb rfl)) ?_
                       refine WL.val rfl rfl rfl rfl (r_move rfl (ev_t rfl)) ?_
                       first | refine WL.val rfl rfl rfl rfl (r_addN rfl ev_c (ev_t rfl) (by simp only [inK]; omega)) ?_ | refine WL.val rfl rfl rfl rfl (r_add rfl ev_c (ev_t rfl)) ?_
                       refine WL.val rfl rfl rfl rfl (r_slice (l := 1) (h := 1 + k.toNat) rfl (ev_t rfl) elem_22 size_5 (bnd_some ev_c (by omega)) (bnd_some (ev_t rfl) (by omega)) (by omega) (by omega) (by omega)) ?_
                       refine WL.val rfl rfl rfl rfl (r_lenSlice (ts := #[]) rfl (ev_t rfl) elem_22) ?_
                       refine WL.val rfl rfl rfl rfl (r_move rfl ev_c) ?_
                       refine WL.nil ?_
                       refine WX.keep [(0, _), (3, _), (4, _), (65, _), (66, _), (67, _)] ⟨rfl, rfl, rfl, rfl, rfl, rfl, trivial⟩ ?_
                       have hr1 := hr.slice (l := 1) (h := 1 + k.toNat) (by omega) (by omega)
                       generalize cutA (some ⟨b, off, none⟩) c 1 1 = A1 at hr1 ⊢
                       refine WX.next ?_
                       refine WC.block ?_
                       -- loop 1: live [0, 3, 4, 65, 66, 67]
                       refine WC.keep [(0, _), (3, _), (4, _), (65, _), (66, _), (67, _)] ⟨rfl, rfl, rfl, rfl, rfl, rfl, trivial⟩ ?_
                       refine WC.loop (fun m E w' => ∃ i : Nat, i ≤ k.toNat ∧ m = k.toNat - i ∧ w' = w ∧ E = [(0, .pointer (some ⟨g, 0, none⟩)), (3, .int .i64 (k.toNat : Int)), (4, .int .u64 ((beN ((r.take k.toNat).take i) : Nat) : Int)), (65, .slice A1 (1 + k.toNat - 1) (c - 1)), (66, .int .i64 ((1 + k.toNat - 1 : Nat) : Int)), (67, .int .i64 (i : Int))]) (k.toNat) ?_ ?_
                       · exact ⟨0, by omega, by omega, rfl, rfl⟩
                       · rintro m E w' ⟨i, hi, rfl, rfl, rfl⟩
                         refine WC.seq ?_
                         refine WC.region ?_
                         refine WL.val rfl rfl rfl rfl (r_lss rfl (ev_t rfl) (ev_t rfl)) ?_
                         refine WL.nil ?_
                         refine WX.keep [(0, _), (3, _), (4, _), (65, _), (66, _), (67, _), (68, _)] ⟨rfl, rfl, rfl, rfl, rfl, rfl, rfl, trivial⟩ ?_
                         refine WX.next ?_
                         refine WC.seq ?_
                         refine WC.cond rfl (ev_t rfl) (fun hc10 => ?_) (fun hc10 => ?_)
                         · try (exfalso; first | (simp at hc10; done) | (simp only [decide_eq_true_eq, decide_eq_false_iff_not, Bool.not_eq_true', Bool.not_eq_false', Bool.not_eq_true, Bool.not_eq_false] at hc10; omega) | omega)
                           all_goals
                            try simp only [decide_eq_true_eq, decide_eq_false_iff_not, Bool.not_eq_true', Bool.not_eq_false', Bool.not_eq_true, Bool.not_eq_false, Option.isNone_none, Option.isNone_some, Option.isSome_none, Option.isSome_some, ne_eq, Decidable.not_not] at hc10
                            have hik : i < k.toNat := by omega
                            obtain ⟨b1, off1, rfl, _, _, _⟩ := hr1.open (by omega)
                            have hb8 := UInt8.toNat_lt (((r.take k.toNat)[i]'(by rw [List.length_take]; omega)))
                            have hx3 : i < (r.take k.toNat).length := by rw [List.length_take]; omega
                            have hx2 : (((k :: r).map U8).drop (1 * 1) |>.take ((1 + k.toNat - 1) * 1))[i]? = some (U8 ((r.take k.toNat)[i])) := by
                              simp [List.getElem?_take, List.getElem_take, hik]
                              exact ⟨_, List.getElem?_eq_getElem (by rw [List.length_take] at hx3; omega), rfl⟩
                            refine WC.skip ?_
                            refine WX.next ?_
                            refine WC.seq ?_
                            refine WC.block ?_
                            refine WC.seq ?_
                            refine WC.region ?_
                            refine WL.val rfl rfl rfl rfl (r_indexAddr rfl (ev_t rfl) (ev_t rfl) elem_22 size_5 (by omega) (by omega)) ?_
                            refine WL.val rfl rfl rfl rfl (r_load rfl (ev_t rfl) flat_5 (hr1.cell (j := i) (by omega) hx2)) ?_
                            refine WL.val rfl rfl rfl rfl (r_assign rfl (ev_t rfl)) ?_
                            refine WL.nil ?_
                            refine WX.keep [(0, _), (3, _), (4, _), (6, _), (65, _), (66, _), (67, _)] ⟨rfl, rfl, rfl, rfl, rfl, rfl, rfl, trivial⟩ ?_
                            refine WX.next ?_
                            refine WC.region ?_
                            refine WL.val rfl rfl rfl rfl (r_move rfl (ev_t rfl)) ?_
                            refine WL.val rfl rfl rfl rfl (r_shl rfl (ev_t rfl) ev_c (by omega) (by simp only [IntKind.bits]; omega)) ?_
                            refine WL.val rfl rfl rfl rfl (r_move rfl (ev_t rfl)) ?_
                            first | refine WL.val rfl rfl rfl rfl (r_convN rfl (ev_t rfl) some_5 int_29 (by simp only [inK]; omega)) ?_ | refine WL.val rfl rfl rfl rfl (r_conv rfl (ev_t rfl) some_5 int_29) ?_
                            refine WL.val rfl rfl rfl rfl (r_or rfl (ev_t rfl) (ev_t rfl)) ?_
                            refine WL.val rfl rfl rfl rfl (r_assign rfl (ev_t rfl)) ?_
                            refine WL.nil ?_
                            refine WX.keep [(0, _), (3, _), (4, _), (65, _), (66, _), (67, _)] ⟨rfl, rfl, rfl, rfl, rfl, rfl, trivial⟩ ?_
                            refine WX.blockNormal ?_
                            refine WX.next ?_
                            refine WC.region ?_
                            first | refine WL.val rfl rfl rfl rfl (r_addN rfl (ev_t rfl) ev_c (by simp only [inK]; omega)) ?_ | refine WL.val rfl rfl rfl rfl (r_add rfl (ev_t rfl) ev_c) ?_
                            refine WL.val rfl rfl rfl rfl (r_move rfl (ev_t rfl)) ?_
                            refine WL.nil ?_
                            refine WX.keep [(0, _), (3, _), (4, _), (65, _), (66, _), (67, _)] ⟨rfl, rfl, rfl, rfl, rfl, rfl, trivial⟩ ?_
                            refine WX.meet [(0, _), (3, _), (4, _), (65, _), (66, _), (67, _)] ⟨rfl, rfl, rfl, rfl, rfl, rfl, trivial⟩ ?_
                            refine ⟨k.toNat - (i + 1), by omega, i + 1, by omega, rfl, rfl, ?_⟩
                            rw [shl8or _ _ (beN_take_lt _ _ (by omega)), ← beN_take_succ _ _ hx3]
                            rfl
                         · try (exfalso; first | (simp at hc10; done) | (simp only [decide_eq_true_eq, decide_eq_false_iff_not, Bool.not_eq_true', Bool.not_eq_false', Bool.not_eq_true, Bool.not_eq_false] at hc10; omega) | omega)
                           all_goals
                            try simp only [decide_eq_true_eq, decide_eq_false_iff_not, Bool.not_eq_true', Bool.not_eq_false', Bool.not_eq_true, Bool.not_eq_false, Option.isNone_none, Option.isNone_some, Option.isSome_none, Option.isSome_some, ne_eq, Decidable.not_not] at hc10
                            obtain rfl : i = k.toNat := by omega
                            refine WC.exit ?_
                            refine WX.thenExit ?_
                            refine WX.thenExit ?_
                            refine WX.blockHere ?_
                            refine WX.next ?_
                            refine WC.seq ?_
                            refine WC.region ?_
                            refine WL.val rfl rfl rfl rfl (r_move rfl (ev_t rfl)) ?_
                            refine WL.val rfl rfl rfl rfl (r_move rfl (ev_t rfl)) ?_
                            refine WL.val rfl rfl rfl rfl (r_nilCheck rfl (ev_t rfl)) ?_
                            first | refine WL.val rfl rfl rfl rfl (r_field0 rfl (ev_t rfl) fld_99_0) ?_ | refine WL.val rfl rfl rfl rfl (r_fieldAt rfl (ev_t rfl) fld_99_0) ?_
                            refine WL.val rfl rfl rfl rfl (r_load rfl (ev_t rfl) flat_22 (Blk.cell hb rfl)) ?_
                            refine WL.val rfl rfl rfl rfl (r_move rfl (ev_t rfl)) ?_
                            first | refine WL.val rfl rfl rfl rfl (r_addN rfl ev_c (ev_t rfl) (by simp only [inK]; omega)) ?_ | refine WL.val rfl rfl rfl rfl (r_add rfl ev_c (ev_t rfl)) ?_
                            refine WL.val rfl rfl rfl rfl (r_slice (l := 1 + k.toNat) (h := _) rfl (ev_t rfl) elem_22 size_5 (bnd_some (ev_t rfl) (by omega)) bnd_none (by omega) (by omega) (by omega)) ?_
                            refine WL.val rfl rfl rfl rfl (r_nilCheck rfl (ev_t rfl)) ?_
                            first | refine WL.val rfl rfl rfl rfl (r_field0 rfl (ev_t rfl) fld_99_0) ?_ | refine WL.val rfl rfl rfl rfl (r_fieldAt rfl (ev_t rfl) fld_99_0) ?_
                            refine WL.cons (SO.store rfl (ev_t rfl) (ev_t rfl) size_22 hb rfl rfl rfl rfl rfl ?_)
                            intro w4 hu4 hb hz4
                            have hs4 := hu4.size
                            refine WL.nil ?_
                            refine WX.keep [(4, _)] ⟨rfl, trivial⟩ ?_
                            refine WX.next ?_
                            refine WC.seq ?_
                            refine WC.region ?_
                            refine WL.val rfl rfl rfl rfl (r_move rfl (ev_t rfl)) ?_
                            refine WL.val rfl rfl rfl rfl (r_assign rfl (ev_t rfl)) ?_
                            refine WL.nil ?_
                            refine WX.keep [(2, _)] ⟨rfl, trivial⟩ ?_
                            refine WX.next ?_
                            refine WC.ret ?_
                            refine WX.retE1 rfl rfl ?_
                            have hgg : k.toNat = 0 ∨ r.head? ≠ some 0 := by
                              first
                              | (left; omega)
                              | (right; rw [hx2]; intro e; injection e with e; subst e; simp at hc5)
                            rw [hgood (by omega) (by omega) hgg]
                            refine ⟨?_, ?_, hu4⟩
                            · rw [List.take_of_length_le (by rw [List.length_take]; omega)]
                            · have hr2 := hr.slice (l := 1 + k.toNat) (h := n) (by omega) (Nat.le_refl _)
                              have e1 : n - (1 + k.toNat) = (r.drop k.toNat).length := by rw [List.length_drop]; omega
                              have e2 : ((((k :: r).map U8).drop ((1 + k.toNat) * 1)).take ((n - (1 + k.toNat)) * 1)) = (r.drop k.toNat).map U8 := by
                                rw [List.take_of_length_le (by simp; omega), Nat.mul_one, Nat.add_comm 1, List.map_cons, List.drop_succ_cons, List.map_drop]
                              rw [e2] at hr2
                              rw [e1] at hr2 hb
                              exact ⟨_, _, hb, hr2.upd hu4 (fun q hq _ hS => by simp only [At] at hS; subst hS; exact hFg hq)⟩
                 · try (exfalso; first | (simp at hb5_15; done) | (simp only [decide_eq_true_eq, decide_eq_false_iff_not, Bool.not_eq_true', Bool.not_eq_false', Bool.not_eq_true, Bool.not_eq_false] at hb5_15; omega) | omega)
                   all_goals
                    try simp only [decide_eq_true_eq, decide_eq_false_iff_not, Bool.not_eq_true', Bool.not_eq_false', Bool.not_eq_true, Bool.not_eq_false, Option.isNone_none, Option.isNone_some, Option.isSome_none, Option.isSome_some, ne_eq, Decidable.not_not] at hb5_15
                    refine WL.skip rfl rfl rfl ?_
                    refine WL.skip rfl rfl rfl ?_
                    refine WL.skip rfl rfl rfl ?_
                    refine WL.skip rfl rfl rfl ?_
                    refine WL.skip rfl rfl rfl ?_
                    refine WL.skip rfl rfl rfl ?_
                    refine WL.skip rfl rfl rfl ?_
                    refine WL.val rfl rfl rfl rfl (r_pickF rfl (ev_t rfl) ev_c) ?_
                    refine WL.val rfl rfl rfl rfl (r_pickF rfl (ev_t rfl) (ev_t rfl)) ?_
                    refine WL.nil ?_
                    refine WX.keep [(0, _), (3, _), (56, _)] ⟨rfl, rfl, rfl, trivial⟩ ?_
                    refine WX.next ?_
                    refine WC.cond_false rfl (ev_t rfl) ?_
                    refine WC.skip ?_
                    refine WX.next ?_
                    refine WC.seq ?_
                    refine WC.region ?_
                    refine WL.val rfl rfl rfl rfl (r_assign rfl ev_c) ?_
                    refine WL.nil ?_
                    refine WX.keep [(0, _), (3, _), (4, _)] ⟨rfl, rfl, rfl, trivial⟩ ?_
                    refine WX.next ?_
                    refine WC.seq ?_
                    refine WC.seq ?_
                    refine WC.region ?_
                    refine WL.val rfl rfl rfl rfl (r_move rfl (ev_t rfl)) ?_
                    refine WL.val rfl rfl rfl rfl (r_nilCheck rfl (ev_t rfl)) ?_
                    first | refine WL.val rfl rfl rfl rfl (r_field0 rfl (ev_t rfl) fld_99_0) ?_ | refine WL.val rfl rfl rfl rfl (r_fieldAt rfl (ev_t rfl) fld_99_0) ?_
                    refine WL.val rfl rfl rfl rfl (r_load rfl (ev_t rfl) flat_22 (Blk.cell hb rfl)) ?_
                    refine WL.val rfl rfl rfl rfl (r_move rfl (ev_t rfl)) ?_
                    first | refine WL.val rfl rfl rfl rfl (r_addN rfl ev_c (ev_t rfl) (by simp only [inK]; omega)) ?_ | refine WL.val rfl rfl rfl rfl (r_add rfl ev_c (ev_t rfl)) ?_
                    refine WL.val rfl rfl rfl rfl (r_slice (l := 1) (h := 1 + k.toNat) rfl (ev_t rfl) elem_22 size_5 (bnd_some ev_c (by omega)) (bnd_some (ev_t rfl) (by omega)) (by omega) (by omega) (by omega)) ?_
                    refine WL.val rfl rfl rfl rfl (r_lenSlice (ts := #[]) rfl (ev_t rfl) elem_22) ?_
                    refine WL.val rfl rfl rfl rfl (r_move rfl ev_c) ?_
                    refine WL.nil ?_
                    refine WX.keep [(0, _), (3, _), (4, _), (65, _), (66, _), (67, _)] ⟨rfl, rfl, rfl, rfl, rfl, rfl, trivial⟩ ?_
                    have hr1 := hr.slice (l := 1) (h := 1 + k.toNat) (by omega) (by omega)
                    generalize cutA (some ⟨b, off, none⟩) c 1 1 = A1 at hr1 ⊢
                    refine WX.next ?_
                    refine WC.block ?_
                    -- loop 1: live [0, 3, 4, 65, 66, 67]
                    refine WC.keep [(0, _), (3, _), (4, _), (65, _), (66, _), (67, _)] ⟨rfl, rfl, rfl, rfl, rfl, rfl, trivial⟩ ?_
                    refine WC.loop (fun m E w' => ∃ i : Nat, i ≤ k.toNat ∧ m = k.toNat - i ∧ w' = w ∧ E = [(0, .pointer (some ⟨g, 0, none⟩)), (3, .int .i64 (k.toNat : Int)), (4, .int .u64 ((beN ((r.take k.toNat).take i) : Nat) : Int)), (65, .slice A1 (1 + k.toNat - 1) (c - 1)), (66, .int .i64 ((1 + k.toNat - 1 : Nat) : Int)), (67, .int .i64 (i : Int))]) (k.toNat) ?_ ?_
                    · exact ⟨0, by omega, by omega, rfl, rfl⟩
                    · rintro m E w' ⟨i, hi, rfl, rfl, rfl⟩
                      refine WC.seq ?_
                      refine WC.region ?_
                      refine WL.val rfl rfl rfl rfl (r_lss rfl (ev_t rfl) (ev_t rfl)) ?_
                      refine WL.nil ?_
                      refine WX.keep [(0, _), (3, _), (4, _), (65, _), (66, _), (67, _), (68, _)] ⟨rfl, rfl, rfl, rfl, rfl, rfl, rfl, trivial⟩ ?_
                      refine WX.next ?_
                      refine WC.seq ?_
                      refine WC.cond rfl (ev_t rfl) (fun hc10 => ?_) (fun hc10 => ?_)
                      · try (exfalso; first | (simp at hc10; done) | (simp only [decide_eq_true_eq, decide_eq_false_iff_not, Bool.not_eq_true', Bool.not_eq_false', Bool.not_eq_true, Bool.not_eq_false] at hc10; omega) | omega)
                        all_goals
                         try simp only [decide_eq_true_eq, decide_eq_false_iff_not, Bool.not_eq_true', Bool.not_eq_false', Bool.not_eq_true, Bool.not_eq_false, Option.isNone_none, Option.isNone_some, Option.isSome_none, Option.isSome_some, ne_eq, Decidable.not_not] at hc10
                         have hik : i < k.toNat := by omega
                         obtain ⟨b1, off1, rfl, _, _, _⟩ := hr1.open (by omega)
                         have hb8 := UInt8.toNat_lt (((r.take k.toNat)[i]'(by rw [List.length_take]; omega)))
                         have hx3 : i < (r.take k.toNat).length := by rw [List.length_take]; omega
                         have hx2 : (((k :: r).map U8).drop (1 * 1) |>.take ((1 + k.toNat - 1) * 1))[i]? = some (U8 ((r.take k.toNat)[i])) := by
                           simp [List.getElem?_take, List.getElem_take, hik]
                           exact ⟨_, List.getElem?_eq_getElem (by rw [List.length_take] at hx3; omega), rfl⟩
                         refine WC.skip ?_
                         refine WX.next ?_
                         refine WC.seq ?_
                         refine WC.block ?_
                         refine WC.seq ?_
                         refine WC.region ?_
                         refine WL.val rfl rfl rfl rfl (r_indexAddr rfl (ev_t rfl) (ev_t rfl) elem_22 size_5 (by omega) (by omega)) ?_
                         refine WL.val rfl rfl rfl rfl (r_load rfl (ev_t rfl) flat_5 (hr1.cell (j := i) (by omega) hx2)) ?_
                         refine WL.val rfl rfl rfl rfl (r_assign rfl (ev_t rfl)) ?_
                         refine WL.nil ?_
                         refine WX.keep [(0, _), (3, _), (4, _), (6, _), (65, _), (66, _), (67, _)] ⟨rfl, rfl, rfl, rfl, rfl, rfl, rfl, trivial⟩ ?_
                         refine WX.next ?_
                         refine WC.region ?_
                         refine WL.val rfl rfl rfl rfl (r_move rfl (ev_t rfl)) ?_
                         refine WL.val rfl rfl rfl rfl (r_shl rfl (ev_t rfl) ev_c (by omega) (by simp only [IntKind.bits]; omega)) ?_
                         refine WL.val rfl rfl rfl rfl (r_move rfl (ev_t rfl)) ?_
                         first | refine WL.val rfl rfl rfl rfl (r_convN rfl (ev_t rfl) some_5 int_29 (by simp only [inK]; omega)) ?_ | refine WL.val rfl rfl rfl rfl (r_conv rfl (ev_t rfl) some_5 int_29) ?_
                         refine WL.val rfl rfl rfl rfl (r_or rfl (ev_t rfl) (ev_t rfl)) ?_
                         refine WL.val rfl rfl rfl rfl (r_assign rfl (ev_t rfl)) ?_
                         refine WL.nil ?_
                         refine WX.keep [(0, _), (3, _), (4, _), (65, _), (66, _), (67, _)] ⟨rfl, rfl, rfl, rfl, rfl, rfl, trivial⟩ ?_
                         refine WX.blockNormal ?_
                         refine WX.next ?_
                         refine WC.region ?_
                         first | refine WL.val rfl rfl rfl rfl (r_addN rfl (ev_t rfl) ev_c (by simp only [inK]; omega)) ?_ | refine WL.val rfl rfl rfl rfl (r_add rfl (ev_t rfl) ev_c) ?_
                         refine WL.val rfl rfl rfl rfl (r_move rfl (ev_t rfl)) ?_
                         refine WL.nil ?_
                         refine WX.keep [(0, _), (3, _), (4, _), (65, _), (66, _), (67, _)] ⟨rfl, rfl, rfl, rfl, rfl, rfl, trivial⟩ ?_
                         refine WX.meet [(0, _), (3, _), (4, _), (65, _), (66, _), (67, _)] ⟨rfl, rfl, rfl, rfl, rfl, rfl, trivial⟩ ?_
                         refine ⟨k.toNat - (i + 1), by omega, i + 1, by omega, rfl, rfl, ?_⟩
                         rw [shl8or _ _ (beN_take_lt _ _ (by omega)), ← beN_take_succ _ _ hx3]
                         rfl
                      · try (exfalso; first | (simp at hc10; done) | (simp only [decide_eq_true_eq, decide_eq_false_iff_not, Bool.not_eq_true', Bool.not_eq_false', Bool.not_eq_true, Bool.not_eq_false] at hc10; omega) | omega)
                        all_goals
                         try simp only [decide_eq_true_eq, decide_eq_false_iff_not, Bool.not_eq_true', Bool.not_eq_false', Bool.not_eq_true, Bool.not_eq_false, Option.isNone_none, Option.isNone_some, Option.isSome_none, Option.isSome_some, ne_eq, Decidable.not_not] at hc10
                         obtain rfl : i = k.toNat := by omega
                         refine WC.exit ?_
                         refine WX.thenExit ?_
                         refine WX.thenExit ?_
                         refine WX.blockHere ?_
                         refine WX.next ?_
                         refine WC.seq ?_
                         refine WC.region ?_
                         refine WL.val rfl rfl rfl rfl (r_move rfl (ev_t rfl)) ?_
                         refine WL.val rfl rfl rfl rfl (r_move rfl (ev_t rfl)) ?_
                         refine WL.val rfl rfl rfl rfl (r_nilCheck rfl (ev_t rfl)) ?_
                         first | refine WL.val rfl rfl rfl rfl (r_field0 rfl (ev_t rfl) fld_99_0) ?_ | refine WL.val rfl rfl rfl rfl (r_fieldAt rfl (ev_t rfl) fld_99_0) ?_
                         refine WL.val rfl rfl rfl rfl (r_load rfl (ev_t rfl) flat_22 (Blk.cell hb rfl)) ?_
                         refine WL.val rfl rfl rfl rfl (r_move rfl (ev_t rfl)) ?_
                         first | refine WL.val rfl rfl rfl rfl (r_addN rfl ev_c (ev_t rfl) (by simp only [inK]; omega)) ?_ | refine WL.val rfl rfl rfl rfl (r_add rfl ev_c (ev_t rfl)) ?_
                         refine WL.val rfl rfl rfl rfl (r_slice (l := 1 + k.toNat) (h := _) rfl (ev_t rfl) elem_22 size_5 (bnd_some (ev_t rfl) (by omega)) bnd_none (by omega) (by omega) (by omega)) ?_
                         refine WL.val rfl rfl rfl rfl (r_nilCheck rfl (ev_t rfl)) ?_
                         first | refine WL.val rfl rfl rfl rfl (r_field0 rfl (ev_t rfl) fld_99_0) ?_ | refine WL.val rfl rfl rfl rfl (r_fieldAt rfl (ev_t rfl) fld_99_0) ?_
                         refine WL.cons (SO.store rfl (ev_t rfl) (ev_t rfl) size_22 hb rfl rfl rfl rfl rfl ?_)
                         intro w5 hu5 hb hz5
                         have hs5 := hu5.size
                         refine WL.nil ?_
                         refine WX.keep [(4, _)] ⟨rfl, trivial⟩ ?_
                         refine WX.next ?_
                         refine WC.seq ?_
                         refine WC.region ?_
                         refine WL.val rfl rfl rfl rfl (r_move rfl (ev_t rfl)) ?_
                         refine WL.val rfl rfl rfl rfl (r_assign rfl (ev_t rfl)) ?_
                         refine WL.nil ?_
                         refine WX.keep [(2, _)] ⟨rfl, trivial⟩ ?_
                         refine WX.next ?_
                         refine WC.ret ?_
                         refine WX.retE1 rfl rfl ?_
                         have hgg : k.toNat = 0 ∨ r.head? ≠ some 0 := by
                           first
                           | (left; omega)
                           | (right; rw [hx2]; intro e; injection e with e; subst e; simp at hc5)
                         rw [hgood (by omega) (by omega) hgg]
                         refine ⟨?_, ?_, hu5⟩
                         · rw [List.take_of_length_le (by rw [List.length_take]; omega)]
                         · have hr2 := hr.slice (l := 1 + k.toNat) (h := n) (by omega) (Nat.le_refl _)
                           have e1 : n - (1 + k.toNat) = (r.drop k.toNat).length := by rw [List.length_drop]; omega
                           have e2 : ((((k :: r).map U8).drop ((1 + k.toNat) * 1)).take ((n - (1 + k.toNat)) * 1)) = (r.drop k.toNat).map U8 := by
                             rw [List.take_of_length_le (by simp; omega), Nat.mul_one, Nat.add_comm 1, List.map_cons, List.drop_succ_cons, List.map_drop]
                           rw [e2] at hr2
                           rw [e1] at hr2 hb
                           exact ⟨_, _, hb, hr2.upd hu5 (fun q hq _ hS => by simp only [At] at hS; subst hS; exact hFg hq)⟩
end Go.Proofs.Ytnjfhmlfpfkllaa

/-
  More operations: a string's byte.
-/
namespace Go.Proofs.Ytnjfhmlfpfkllaa
open Go
set_option linter.unusedSimpArgs false
set_option linter.unusedVariables false

theorem byteArray_get? (s : ByteArray) (j : Nat) : s[j]? = s.toList[j]? := by
  by_cases h : j < s.size
  · have h1 : s[j]? = some s[j] := getElem?_pos s j h
    rw [h1, ByteArray.toList_eq]
    have h2 : j < s.data.size := h
    rw [Array.getElem?_toList, Array.getElem?_eq_getElem h2]
    rfl
  · have h1 : s[j]? = none := getElem?_neg s j h
    have h2 : ¬ j < s.data.size := h
    rw [h1, ByteArray.toList_eq]
    simp
    omega

section
variable {P : Program} {ρ : Operand → Value} {o : Oper} {w : World} {x y : Operand} {t : TypeId} {k : IntKind}
theorem r_indexStr {s : ByteArray} {i : Int} {j : Nat} {c : UInt8} (ho : o.op = .index t x y) (hx : ρ x = .string s) (hy : ρ y = .int k i) (ht : P.underlying t = some .string) (hi : i = (j : Int)) (hc : s.toList[j]? = some c) :
    (execOp ρ o).run P w = .ok (.value (.int .u8 (c.toNat : Int))) w := by
  subst hi
  have h1 : s[j]? = some c := by rw [byteArray_get?]; exact hc
  simp [execOp, ho, hx, hy, Instr.index, asIntOf, run_underlying ht, h1]
theorem r_quoN {a b : Int} {u : TypeId} (ho : o.op = .binOp .quo t x y u) (hx : ρ x = .int k a) (hy : ρ y = .int k b) (ha : 0 ≤ a) (hb : 0 < b) (hk : inK k (a / b)) : (execOp ρ o).run P w = .ok (.value (.int k (a / b))) w := by
  rw [r_quo ho hx hy (by omega), Int.tdiv_eq_ediv_of_nonneg ha, wrap_in hk]
theorem r_remN {a b : Int} {u : TypeId} (ho : o.op = .binOp .rem t x y u) (hx : ρ x = .int k a) (hy : ρ y = .int k b) (ha : 0 ≤ a) (hb : 0 < b) : (execOp ρ o).run P w = .ok (.value (.int k (a % b))) w := by
  rw [r_rem ho hx hy (by omega), Int.tmod_eq_emod_of_nonneg ha]
end
end Go.Proofs.Ytnjfhmlfpfkllaa

/-
  Whole numbers as float64: sums, differences and products that stay below 2^53 are exact. No program in sight.
-/
namespace Go.Proofs.Ytnjfhmlfpfkllaa
open Go Ieee
set_option linter.unusedSimpArgs false
set_option linter.unusedVariables false

/-- the datum is the whole number a -/
def IsI (d : Datum) (a : Int) : Prop := ∃ (s : Bool) (m k : Nat), d = .number s m (-(k : Int)) ∧ m = a.natAbs * 2 ^ k ∧ (a ≠ 0 → s = decide (a < 0))

theorem signed_of {s : Bool} {m k u : Nat} {a : Int} (hm : m = a.natAbs * 2 ^ k) (hs : a ≠ 0 → s = decide (a < 0)) : signed s m u = a * 2 ^ (k + u) := by
  have h1 : ((m <<< u : Nat) : Int) = (a.natAbs : Int) * 2 ^ (k + u) := by
    rw [Nat.shiftLeft_eq, hm, Nat.mul_assoc, ← Nat.pow_add]
    push_cast
    rfl
  unfold signed
  rw [h1]
  by_cases h0 : a = 0
  · subst h0
    simp
  · have := hs h0
    subst this
    by_cases h : a < 0
    · rw [if_pos (by simpa using h)]
      have : (a.natAbs : Int) = -a := by omega
      rw [this, Int.neg_mul, Int.neg_neg]
    · rw [if_neg (by simpa using h)]
      have : (a.natAbs : Int) = a := by omega
      rw [this]

theorem pow_pos_int (k : Nat) : (0 : Int) < 2 ^ k := Int.pow_pos (by omega)

theorem sum_isI {d d' : Datum} {a b : Int} (h : IsI d a) (h' : IsI d' b) : ∃ r, d.sum d' = some r ∧ IsI r (a + b) := by
  obtain ⟨s, m, k, rfl, hm, hs⟩ := h
  obtain ⟨t, n, l, rfl, hn, ht⟩ := h'
  refine ⟨_, rfl, ?_⟩
  have hb : min (-(k : Int)) (-(l : Int)) = -((max k l : Nat) : Int) := by omega
  rw [hb]
  have e1 : (-(k : Int) - -((max k l : Nat) : Int)).toNat = max k l - k := by omega
  have e2 : (-(l : Int) - -((max k l : Nat) : Int)).toNat = max k l - l := by omega
  have f1 := signed_of (u := max k l - k) hm hs
  have f2 := signed_of (u := max k l - l) hn ht
  rw [show k + (max k l - k) = max k l by omega] at f1
  rw [show l + (max k l - l) = max k l by omega] at f2
  rw [e1, e2, f1, f2, ← Int.add_mul]
  generalize max k l = q
  have hp := pow_pos_int q
  refine ⟨_, _, q, rfl, ?_, fun hne => ?_⟩
  · rw [Int.natAbs_mul, Int.natAbs_pow]
    rfl
  · rw [if_neg (by
      intro h0
      rcases Int.mul_eq_zero.1 h0 with h1 | h1
      · exact hne h1
      · omega)]
    refine decide_eq_decide.2 ?_
    constructor
    · intro h1
      rcases Int.lt_or_le (a + b) 0 with h2 | h2
      · exact h2
      · have := Int.mul_nonneg h2 (Int.le_of_lt hp)
        omega
    · intro h1
      exact Int.mul_neg_of_neg_of_pos h1 hp

theorem product_isI {d d' : Datum} {a b : Int} (h : IsI d a) (h' : IsI d' b) : ∃ r, d.product d' = some r ∧ IsI r (a * b) := by
  obtain ⟨s, m, k, rfl, hm, hs⟩ := h
  obtain ⟨t, n, l, rfl, hn, ht⟩ := h'
  refine ⟨_, rfl, _, _, k + l, by rw [show (-(k : Int) + -(l : Int)) = -((k + l : Nat) : Int) by omega], ?_, fun hne => ?_⟩
  · rw [hm, hn, Int.natAbs_mul, Nat.pow_add]
    rw [Nat.mul_assoc, Nat.mul_left_comm (2 ^ k), ← Nat.mul_assoc]
  · have ha : a ≠ 0 := fun h => hne (by rw [h, Int.zero_mul])
    have hb : b ≠ 0 := fun h => hne (by rw [h, Int.mul_zero])
    rw [hs ha, ht hb]
    rcases Int.lt_or_le a 0 with h1 | h1 <;> rcases Int.lt_or_le b 0 with h2 | h2
    · have := Int.mul_pos_of_neg_of_neg h1 h2
      rw [decide_eq_true h1, decide_eq_true h2, decide_eq_false (by omega)]
      rfl
    · have := Int.mul_neg_of_neg_of_pos h1 (show 0 < b by omega)
      rw [decide_eq_true h1, decide_eq_false (by omega : ¬ b < 0), decide_eq_true this]
      rfl
    · have := Int.mul_neg_of_pos_of_neg (show 0 < a by omega) h2
      rw [decide_eq_false (by omega : ¬ a < 0), decide_eq_true h2, decide_eq_true this]
      rfl
    · have := Int.mul_nonneg h1 h2
      rw [decide_eq_false (by omega : ¬ a < 0), decide_eq_false (by omega : ¬ b < 0), decide_eq_false (by omega)]
      rfl

theorem opposite_isI {d : Datum} {a : Int} (h : IsI d a) : IsI d.opposite (-a) := by
  obtain ⟨s, m, k, rfl, hm, hs⟩ := h
  refine ⟨!s, m, k, rfl, by rw [Int.natAbs_neg]; exact hm, fun hne => ?_⟩
  have ha : a ≠ 0 := fun h => hne (by rw [h]; rfl)
  rw [hs ha]
  by_cases h : a < 0
  · rw [decide_eq_true h, decide_eq_false (by omega)]
    rfl
  · rw [decide_eq_false h, decide_eq_true (by omega)]
    rfl

theorem isI_zero (s : Bool) (k : Nat) : IsI (.number s 0 (-(k : Int))) 0 := ⟨s, 0, k, rfl, by simp, fun h => absurd rfl h⟩

theorem cut_zero (s : Bool) (n : Nat) : Toward.even.cut s n 0 = n := by
  simp [Toward.cut, Nat.mod_one]

theorem cut_pow (s : Bool) (way : Toward) {K q : Nat} (hK : K ≠ 0) (hw : way = .even ∨ way = .zero) : way.cut s (K * 2 ^ q) q = K := by
  have hp : 0 < 2 ^ q := Nat.pow_pos (by omega)
  have hlog : q ≤ (K * 2 ^ q).log2 := by
    have hne : K * 2 ^ q ≠ 0 := Nat.mul_ne_zero hK (by omega)
    rw [Nat.le_log2 hne]
    exact Nat.le_mul_of_pos_left _ (by omega)
  have hmin : min q ((K * 2 ^ q).log2 + 2) = q := by omega
  unfold Toward.cut
  rw [hmin, Nat.shiftLeft_eq, Nat.one_mul]
  have h1 : K * 2 ^ q / 2 ^ q = K := Nat.mul_div_cancel _ hp
  have h2 : K * 2 ^ q % 2 ^ q = 0 := Nat.mul_mod_left _ _
  rcases hw with rfl | rfl
  · simp [h1, h2]
  · simp [h1, h2]

theorem read_word {s : Bool} {E K : Nat} (h1 : 4503599627370496 ≤ K) (h2 : K < 9007199254740992) (h3 : E ≤ 1100) :
    double.read (double.word s (min (E * double.binade + K) double.infRung)) = .number s K (-1074 + (E : Int)) := by
  have hb : double.binade = 4503599627370496 := by decide
  have hi : double.infRung = 9218868437227405312 := by decide
  have hw : double.signWeight = 9223372036854775808 := by decide
  have hl : double.leastPlace = -1074 := by decide
  rw [hb, hi]
  have hmin : min (E * 4503599627370496 + K) 9218868437227405312 = E * 4503599627370496 + K := by omega
  rw [hmin]
  unfold Format.read Format.word
  rw [hb, hi, hw, hl]
  cases s
  · simp only [Bool.false_eq_true, if_false]
    rw [show (E * 4503599627370496 + K) % 9223372036854775808 = E * 4503599627370496 + K by omega, if_neg (by omega), if_pos (by omega), show ((E * 4503599627370496 + K) / 9223372036854775808 % 2 == 1) = false by rw [beq_eq_false_iff_ne]; omega,
      show 4503599627370496 + (E * 4503599627370496 + K) % 4503599627370496 = K by omega, show (E * 4503599627370496 + K) / 4503599627370496 - 1 = E by omega]
  · simp only [if_true]
    rw [show (9223372036854775808 + (E * 4503599627370496 + K)) % 9223372036854775808 = E * 4503599627370496 + K by omega, if_neg (by omega), if_pos (by omega), show ((9223372036854775808 + (E * 4503599627370496 + K)) / 9223372036854775808 % 2 == 1) = true by rw [beq_iff_eq]; omega,
      show 4503599627370496 + (E * 4503599627370496 + K) % 4503599627370496 = K by omega, show (E * 4503599627370496 + K) / 4503599627370496 - 1 = E by omega]

theorem read_write {d : Datum} {a : Int} (h : IsI d a) (hb : a.natAbs < 9007199254740992) : IsI (double.read (double.write d)) a := by
  obtain ⟨s, m, k, rfl, hm, hs⟩ := h
  show IsI (double.read (double.nearest s m (-(k : Int)))) a
  by_cases h0 : a = 0
  · subst h0
    have hm0 : m = 0 := by simpa using hm
    subst hm0
    unfold Format.nearest
    rw [if_pos rfl]
    have h1 : ∀ s : Bool, double.read (double.word s 0) = .number s 0 (-((1074 : Nat) : Int)) := by decide
    rw [h1]
    exact isI_zero s 1074
  · have hN : a.natAbs ≠ 0 := by omega
    generalize hNN : a.natAbs = N at hm hb hN
    obtain ⟨L, hL⟩ : ∃ L, L = N.log2 := ⟨_, rfl⟩
    have hlo : 2 ^ L ≤ N := by rw [hL]; exact Nat.log2_self_le hN
    have hhi : N < 2 ^ (L + 1) := by rw [hL]; exact Nat.lt_log2_self
    have hL52 : L ≤ 52 := by
      rcases Nat.lt_or_ge 52 L with h1 | h1
      · have : 2 ^ 53 ≤ 2 ^ L := Nat.pow_le_pow_right (by omega) h1
        have h53 : (2 : Nat) ^ 53 = 9007199254740992 := by decide
        omega
      · exact h1
    have hmne : m ≠ 0 := by rw [hm]; exact Nat.mul_ne_zero hN (by have := Nat.two_pow_pos k; omega)
    have hlog : m.log2 = L + k := by
      rw [Nat.log2_eq_iff hmne, hm]
      constructor
      · rw [Nat.pow_add]; exact Nat.mul_le_mul_right _ hlo
      · rw [show L + k + 1 = (L + 1) + k by omega, Nat.pow_add _ (L + 1)]
        exact Nat.mul_lt_mul_of_pos_right hhi (Nat.two_pow_pos k)
    unfold Format.nearest
    rw [if_neg hmne]
    have hfb : ((double.fractionBits : Nat) : Int) = 52 := rfl
    have hlp : double.leastPlace = -1074 := by decide
    have hlast : max (-(k : Int) + (m.log2 : Int) - (double.fractionBits : Int)) double.leastPlace = (L : Int) - 52 := by
      rw [hlog, hfb, hlp]
      omega
    simp only [hlast]
    have hkept : Toward.even.cut s (m <<< (-(k : Int) - ((L : Int) - 52)).toNat) (((L : Int) - 52) - -(k : Int)).toNat = N * 2 ^ (52 - L) := by
      rcases Nat.le_total k (52 - L) with h1 | h1
      · rw [show (((L : Int) - 52) - -(k : Int)).toNat = 0 by omega, cut_zero, show (-(k : Int) - ((L : Int) - 52)).toNat = 52 - L - k by omega, Nat.shiftLeft_eq, hm, Nat.mul_assoc, ← Nat.pow_add, show k + (52 - L - k) = 52 - L by omega]
      · rw [show (-(k : Int) - ((L : Int) - 52)).toNat = 0 by omega, Nat.shiftLeft_zero, show (((L : Int) - 52) - -(k : Int)).toNat = k - (52 - L) by omega]
        have : m = N * 2 ^ (52 - L) * 2 ^ (k - (52 - L)) := by rw [hm, Nat.mul_assoc, ← Nat.pow_add, show 52 - L + (k - (52 - L)) = k by omega]
        rw [this]
        exact cut_pow s .even (Nat.mul_ne_zero hN (by have := Nat.two_pow_pos (52 - L); omega)) (.inl rfl)
    have hK1 : 4503599627370496 ≤ N * 2 ^ (52 - L) := by
      have h1 : 2 ^ L * 2 ^ (52 - L) ≤ N * 2 ^ (52 - L) := Nat.mul_le_mul_right _ hlo
      rw [← Nat.pow_add, show L + (52 - L) = 52 by omega] at h1
      exact h1
    have hK2 : N * 2 ^ (52 - L) < 9007199254740992 := by
      have h1 : N * 2 ^ (52 - L) < 2 ^ (L + 1) * 2 ^ (52 - L) := Nat.mul_lt_mul_of_pos_right hhi (Nat.two_pow_pos _)
      rw [← Nat.pow_add, show L + 1 + (52 - L) = 53 by omega] at h1
      exact h1
    rw [hkept, hlp, show ((L : Int) - 52 - -1074).toNat = L + 1022 by omega, read_word hK1 hK2 (by omega)]
    refine ⟨s, _, 52 - L, by rw [show (-1074 : Int) + ((L + 1022 : Nat) : Int) = -((52 - L : Nat) : Int) by omega], by rw [hNN], hs⟩

/-- the bits are those of the whole number a -/
def FI (b : Nat) (a : Int) : Prop := IsI (double.read b) a

theorem add_FI {x y : Nat} {a b : Int} (hx : FI x a) (hy : FI y b) (h : (a + b).natAbs < 9007199254740992) : ∃ r, floatBits .add .f64 x y = some r ∧ FI r (a + b) := by
  obtain ⟨d, h1, h2⟩ := sum_isI hx hy
  refine ⟨double.write d, ?_, read_write h2 h⟩
  show ((double.read x).sum (double.read y)).map double.write = _
  rw [h1]
  rfl
theorem sub_FI {x y : Nat} {a b : Int} (hx : FI x a) (hy : FI y b) (h : (a - b).natAbs < 9007199254740992) : ∃ r, floatBits .sub .f64 x y = some r ∧ FI r (a - b) := by
  obtain ⟨d, h1, h2⟩ := sum_isI hx (opposite_isI hy)
  rw [← Int.sub_eq_add_neg] at h2
  refine ⟨double.write d, ?_, read_write h2 h⟩
  show ((double.read x).sum (double.read y).opposite).map double.write = _
  rw [h1]
  rfl
theorem mul_FI {x y : Nat} {a b : Int} (hx : FI x a) (hy : FI y b) (h : (a * b).natAbs < 9007199254740992) : ∃ r, floatBits .mul .f64 x y = some r ∧ FI r (a * b) := by
  obtain ⟨d, h1, h2⟩ := product_isI hx hy
  refine ⟨double.write d, ?_, read_write h2 h⟩
  show ((double.read x).product (double.read y)).map double.write = _
  rw [h1]
  rfl
theorem ofInt_FI {a : Int} (h : a.natAbs < 9007199254740992) : FI (floatOfInt .f64 a) a := by
  have h1 : IsI (.number (decide (a < 0)) a.natAbs 0) a := ⟨_, _, 0, rfl, by simp, fun _ => rfl⟩
  exact read_write h1 h
theorem toInt_FI {b : Nat} {a : Int} (h : FI b a) : (double.read b).toInt .zero = some a := by
  obtain ⟨s, m, k, hd, hm, hs⟩ := h
  rw [hd]
  have h1 := signed_of (u := 0) hm hs
  simp only [Datum.toInt, Datum.integral]
  have e1 : (-(k : Int)).toNat = 0 := by omega
  have e2 : (- -(k : Int)).toNat = k := by omega
  rw [e1, e2, Nat.shiftLeft_zero]
  have hcut : Toward.zero.cut s m k = a.natAbs := by
    by_cases h0 : a = 0
    · subst h0
      have hm0 : m = 0 := by simpa using hm
      subst hm0
      simp [Toward.cut]
    · rw [hm]
      exact cut_pow s .zero (by omega) (.inr rfl)
  rw [hcut]
  have := signed_of (s := s) (m := a.natAbs) (k := 0) (u := 0) (a := a) (by simp) hs
  rw [this]
  simp
theorem zero_FI : FI 0 0 := by
  have h1 : double.read 0 = .number false 0 (-((1074 : Nat) : Int)) := by decide
  show IsI (double.read 0) 0
  rw [h1]
  exact isI_zero false 1074
theorem one_FI : FI 4607182418800017408 1 := ⟨false, 4503599627370496, 52, by decide, by decide, fun _ => by decide⟩

/-- a product of complex numbers of whole parts -/
theorem cMul_FI {x y u v : Nat} {a b c d : Int} (hx : FI x a) (hy : FI y b) (hu : FI u c) (hv : FI v d)
    (h1 : (a * c).natAbs < 9007199254740992) (h2 : (b * d).natAbs < 9007199254740992) (h3 : (a * c - b * d).natAbs < 9007199254740992)
    (h4 : (a * d).natAbs < 9007199254740992) (h5 : (b * c).natAbs < 9007199254740992) (h6 : (a * d + b * c).natAbs < 9007199254740992) :
    ∃ re im, cMulBits x y u v = some (re, im) ∧ FI re (a * c - b * d) ∧ FI im (a * d + b * c) := by
  obtain ⟨r1, e1, f1⟩ := mul_FI hx hu h1
  obtain ⟨r2, e2, f2⟩ := mul_FI hy hv h2
  obtain ⟨r3, e3, f3⟩ := sub_FI f1 f2 h3
  obtain ⟨r4, e4, f4⟩ := mul_FI hx hv h4
  obtain ⟨r5, e5, f5⟩ := mul_FI hy hu h5
  obtain ⟨r6, e6, f6⟩ := add_FI f4 f5 h6
  refine ⟨r3, r6, ?_, f3, f6⟩
  simp [cMulBits, e1, e2, e3, e4, e5, e6]
theorem cSum_FI {x y u v : Nat} {a b c d : Int} (hx : FI x a) (hy : FI y b) (hu : FI u c) (hv : FI v d)
    (h1 : (a + c).natAbs < 9007199254740992) (h2 : (b + d).natAbs < 9007199254740992) :
    ∃ re im, cSumBits .add .f64 x y u v = some (re, im) ∧ FI re (a + c) ∧ FI im (b + d) := by
  obtain ⟨r1, e1, f1⟩ := add_FI hx hu h1
  obtain ⟨r2, e2, f2⟩ := add_FI hy hv h2
  exact ⟨r1, r2, by simp [cSumBits, e1, e2], f1, f2⟩
end Go.Proofs.Ytnjfhmlfpfkllaa

/-
  More operations: complex numbers, floats, structs of two cells, a result that lies in a cell.
-/
namespace Go.Proofs.Ytnjfhmlfpfkllaa
open Go
set_option linter.unusedSimpArgs false
set_option linter.unusedVariables false

section
variable {P : Program} {ρ : Operand → Value} {o : Oper} {w : World} {x y : Operand} {t u : TypeId} {k : IntKind}

theorem r_cmul {a b c d re im : Nat} (ho : o.op = .binOp .mul t x y u) (hx : ρ x = .complex .f64 a b) (hy : ρ y = .complex .f64 c d) (h : cMulBits a b c d = some (re, im)) : (execOp ρ o).run P w = .ok (.value (.complex .f64 re im)) w := by
  have h1 := run_complex_mul (P := P) w t a b c d re im h
  simp [execOp, ho, hx, hy, h1, eqGuard]
theorem r_cadd {a b c d re im : Nat} (ho : o.op = .binOp .add t x y u) (hx : ρ x = .complex .f64 a b) (hy : ρ y = .complex .f64 c d) (h : cSumBits .add .f64 a b c d = some (re, im)) : (execOp ρ o).run P w = .ok (.value (.complex .f64 re im)) w := by
  have h1 := run_complex_sum (P := P) w .add (.inl rfl) t .f64 a b c d re im h
  simp [execOp, ho, hx, hy, h1, eqGuard]
theorem r_ceql {a b c d : Nat} (ho : o.op = .binOp .eql t x y u) (hx : ρ x = .complex .f64 a b) (hy : ρ y = .complex .f64 c d) :
    (execOp ρ o).run P w = .ok (.value (.bool ((FloatKind.f64.format.order a c == some .eq) && (FloatKind.f64.format.order b d == some .eq)))) w := by
  have h1 := run_eql_complex (P := P) w t .f64 a b c d
  simp only [execOp, ho, hx, hy, Sem.run_bind, h1, Result.andThen_ok, Sem.run_pure, eqGuard]
  simp [h1, go_sem]
theorem r_itof {a : Int} (ho : o.op = .convert t u x) (hx : ρ x = .int k a) (hs : (P.underlying t).isSome = true) (hd : P.underlying u = some (.float .f64)) : (execOp ρ o).run P w = .ok (.value (.float .f64 (floatOfInt .f64 a))) w := by
  have h1 := run_convert_int_float (P := P) w t u k .f64 a hs hd
  simp only [execOp, ho, hx, Sem.run_bind, h1, Result.andThen_ok, Sem.run_pure]
theorem r_ftoi {b : Nat} {a : Int} (ho : o.op = .convert t u x) (hx : ρ x = .float .f64 b) (hs : (P.underlying t).isSome = true) (hd : P.underlying u = some (.int .i64)) (h : FI b a) (ha : a.natAbs < 9007199254740992) : (execOp ρ o).run P w = .ok (.value (.int .i64 a)) w := by
  have hv : floatToIntVal .f64 b .i64 = some a := by
    have h1 : (FloatKind.f64.decode b).toInt .zero = some a := toInt_FI h
    unfold floatToIntVal
    rw [h1]
    simp only [IntKind.min, IntKind.max, IntKind.signed, IntKind.bits]
    exact if_pos (by constructor <;> simp <;> omega)
  have h1 := run_convert_float_int (P := P) w t u .f64 .i64 b a hs hd hv
  simp only [execOp, ho, hx, Sem.run_bind, h1, Result.andThen_ok, Sem.run_pure]

theorem r_complexB {a b : Nat} {ts : Array TypeId} (ho : o.op = .call { callee := .builtin .complex, args := #[x, y], argTypes := ts }) (hx : ρ x = .float .f64 a) (hy : ρ y = .float .f64 b) : (execOp ρ o).run P w = .ok (.value (.complex .f64 a b)) w := by
  simp [execOp, ho, resolve, invoke, builtin, hx, hy, run_complex]
theorem r_realB {a b : Nat} {ts : Array TypeId} (ho : o.op = .call { callee := .builtin .real, args := #[x], argTypes := ts }) (hx : ρ x = .complex .f64 a b) : (execOp ρ o).run P w = .ok (.value (.float .f64 a)) w := by
  simp [execOp, ho, resolve, invoke, builtin, hx, run_real]
theorem r_imagB {a b : Nat} {ts : Array TypeId} (ho : o.op = .call { callee := .builtin .imag, args := #[x], argTypes := ts }) (hx : ρ x = .complex .f64 a b) : (execOp ρ o).run P w = .ok (.value (.float .f64 b)) w := by
  simp [execOp, ho, resolve, invoke, builtin, hx, run_imag]

theorem r_store2 {g off : Nat} {v0 v1 : Value} {cs : Array Value} {T : TypeId} (ho : o.op = .store t x y) (hx : ρ x = .pointer (some ⟨g, off, none⟩)) (hy : ρ y = .agg #[v0, v1]) (hz : sizeIs P t 2 = true) (hb : Blk w g cs T) (hlt : Nat.blt (off + 1) cs.size = true) (h0 : v0.oneCell' = true) (h1 : v1.oneCell' = true) :
    (execOp ρ o).run P w = .ok .skip ((w.setCell ⟨g, off, none⟩ v0).setCell ⟨g, off + 1, none⟩ v1) := by
  have hlt' : off + 1 < cs.size := Eq.mp Nat.blt_eq hlt
  have hc0 := hb.cell (o := off) (v := cs[off]) (by simp)
  have hf0 := hb.free off
  have hst0 := run_store_cell (P := P) hc0 hf0 h0
  have hb1 := hb.set off v0
  have hc1 := hb1.cell (o := off + 1) (v := cs[off + 1]) (by rw [Array.getElem?_setIfInBounds_ne (by omega)]; simp [hlt'])
  have hf1 := hb1.free (off + 1)
  have hst1 := run_store_cell (P := P) hc1 hf1 h1
  have ha0 : (Addr.mk g off none).add 0 = ⟨g, off, none⟩ := rfl
  have ha1 : (Addr.mk g off none).add 1 = ⟨g, off + 1, none⟩ := rfl
  simp [execOp, ho, hx, hy, Instr.storeAt, Instr.sureAddr, storeVar, run_sizeOf hz, storeCells, Value.cells, ha0, ha1, hst0, hst1]
end

section
variable {P : Program} {o : Oper} {w : World} {x y : Operand} {t : TypeId} {N : Nat} {ops : Array Oper} {Q : Exit → Act → World → Prop} {K : Env → World → Prop} {E : Env}
theorem SO.store2 {g off : Nat} {v0 v1 : Value} {cs : Array Value} {T : TypeId} (hop : o.op = .store t x y) (hx : Env.ev E x = .pointer (some ⟨g, off, none⟩)) (hy : Env.ev E y = .agg #[v0, v1]) (hz : sizeIs P t 2 = true) (hb : Blk w g cs T) (hlt : Nat.blt (off + 1) cs.size = true) (h0 : v0.oneCell' = true) (h1 : v1.oneCell' = true)
    (hd : o.dst = none) (ho : opsOK E o = true) (hw : wantedE ops E o = some true)
    (k : ∀ w', Upd (At g) w w' → Blk w' g ((cs.setIfInBounds off v0).setIfInBounds (off + 1) v1) T → w'.heap.size = w.heap.size → K E w') : SO P N ops Q o K E w :=
  SO.eff hd ho hw (r_store2 hop hx hy hz hb hlt h0 h1) (k _ ((Upd.setCell w ⟨g, off, none⟩ v0).trans_same (Upd.setCell _ ⟨g, off + 1, none⟩ v1)) ((hb.set off v0).set (off + 1) v1) (by rw [World.size_setCell, World.size_setCell]))
end

section
variable {P : Program} {N : Nat} {E : Env} {w : World} {fn : Func} {R : Value → World → Prop}
theorem result_cell {a : Act} (h : Sat N E a) {b : Nat} {t : TypeId} {p : Addr} {vs : List Value} (hl : fn.results = #[.cell b t]) (hr : Env.get E b = some (.pointer (some p))) (ht : aggB P t = true) (hn : sizeIs P t vs.length = true) (hc : CellsAt w p vs) :
    (results fn a.tmps).run P w = .ok (.agg vs.toArray) w := by
  have h3 : a.tmps[b]?.getD undef = .pointer (some p) := by rw [h.vals b _ hr]; rfl
  have hl2 := run_loadCells_list (P := P) w p vs hc
  simp only [loadCells] at hl2
  unfold results
  rw [hl]
  simp [h3, asAddr, loadVar, run_isAgg_agg ht, run_sizeOf hn, hl2, go_sem]
theorem WX.retC {b : Nat} {t : TypeId} {p : Addr} {vs : List Value} (hl : fn.results = #[.cell b t]) (hr : Env.get E b = some (.pointer (some p))) (ht : aggB P t = true) (hn : sizeIs P t vs.length = true) (hc : CellsAt w p vs) (k : R (.agg vs.toArray) w) :
    WX N (bodyPost P fn fun e w' => ∃ v, e = .returned v ∧ R v w') .ret E w := fun a h => ⟨h.defers, _, result_cell h hl hr ht hn hc, _, rfl, k⟩
theorem WX.endC {b : Nat} {t : TypeId} {p : Addr} {vs : List Value} (hl : fn.results = #[.cell b t]) (hr : Env.get E b = some (.pointer (some p))) (ht : aggB P t = true) (hn : sizeIs P t vs.length = true) (hc : CellsAt w p vs) (k : R (.agg vs.toArray) w) :
    WX N (bodyPost P fn fun e w' => ∃ v, e = .returned v ∧ R v w') .normal E w := fun a h => ⟨h.defers, _, result_cell h hl hr ht hn hc, _, rfl, k⟩
theorem Blk.cells2 {w : World} {g : Nat} {v0 v1 : Value} {T : TypeId} (h : Blk w g #[v0, v1] T) : CellsAt w ⟨g, 0, none⟩ [v0, v1] := fun j v hj => by
  match j, hj with
  | 0, hj => simp at hj; subst hj; exact h.cell rfl
  | 1, hj => simp at hj; subst hj; exact h.cell rfl
end

section
variable {P : Program} {N : Nat} {E : Env} {w : World} {fn : Func} {R : Value → World → Prop}
/-- results, in temporaries and in cells -/
def resM (P : Program) (w : World) (E : Env) : List ResultVar → List Value → Prop
  | [], [] => True
  | .tmp t :: l, v :: vs => Env.get E t = some v ∧ resM P w E l vs
  | .cell b t :: l, v :: vs => (∃ p us, Env.get E b = some (.pointer (some p)) ∧ aggB P t = true ∧ sizeIs P t us.length = true ∧ CellsAt w p us ∧ v = .agg us.toArray) ∧ resM P w E l vs
  | _, _ => False

theorem resM_run {a : Act} (h : Sat N E a) : ∀ {l : List ResultVar} {vs : List Value}, resM P w E l vs →
    (l.mapM (m := Sem) fun r => match r with | .tmp t => pure (a.tmps.getD t undef) | .cell b t => do loadVar t (← asAddr (a.tmps.getD b undef))).run P w = .ok vs w
  | [], [], _ => by simp [go_sem]
  | [], _ :: _, h => h.elim
  | .tmp _ :: _, [], h => h.elim
  | .cell _ _ :: _, [], h => h.elim
  | .tmp t :: l, v :: vs, hr => by
    have h1 := h.vals t v hr.1
    have h2 := resM_run h hr.2
    have h3 : a.tmps[t]?.getD undef = v := by rw [h1]; rfl
    simp only [Array.getD_eq_getD_getElem?] at h2 ⊢
    simp [List.mapM_cons, h2, h3]
  | .cell b t :: l, v :: vs, hr => by
    obtain ⟨⟨p, us, hb, ht, hn, hc, rfl⟩, hr2⟩ := hr
    have h2 := resM_run h hr2
    have h3 : a.tmps[b]?.getD undef = .pointer (some p) := by rw [h.vals b _ hb]; rfl
    have hl2 := run_loadCells_list (P := P) w p us hc
    simp only [loadCells] at hl2
    simp only [Array.getD_eq_getD_getElem?] at h2 ⊢
    have e1 : (do loadVar t (← asAddr (a.tmps[b]?.getD undef)) : Sem Value).run P w = .ok (.agg us.toArray) w := by
      simp [h3, asAddr, loadVar, run_isAgg_agg ht, run_sizeOf hn, hl2, go_sem]
    rw [List.mapM_cons, Sem.run_bind, e1, Result.andThen_ok, Sem.run_bind, h2, Result.andThen_ok, Sem.run_pure]

theorem resM_results {a : Act} (h : Sat N E a) {l : List ResultVar} {vs : List Value} (hl : fn.results = l.toArray) (hr : resM P w E l vs) : (results fn a.tmps).run P w = .ok (tupleOf vs) w := by
  have h1 := resM_run (P := P) (w := w) h hr
  unfold results
  rw [hl, List.mapM_toArray]
  simp only [Sem.run_bind]
  have h2 : (Sem.run P (List.mapM (m := Sem) (fun x => match x with
    | ResultVar.tmp t => pure (a.tmps[t]?.getD undef)
    | ResultVar.cell b t => do loadVar t (← asAddr (a.tmps[b]?.getD undef))) l) w) = .ok vs w := by
    simpa only [Array.getD_eq_getD_getElem?] using h1
  simp only [Array.getD_eq_getD_getElem?]
  simp
  erw [h2]
  match vs with
  | [] => rfl
  | [v] => rfl
  | a :: b :: r => simp [tupleOf]
theorem WX.retM {l : List ResultVar} {vs : List Value} (hl : fn.results = l.toArray) (hr : resM P w E l vs) (k : R (tupleOf vs) w) :
    WX N (bodyPost P fn fun e w' => ∃ v, e = .returned v ∧ R v w') .ret E w := fun a h => ⟨h.defers, _, resM_results h hl hr, _, rfl, k⟩
end

/-- n & 3 -/
theorem bits_and3 {n : Int} (h1 : -9223372036854775808 ≤ n) (h2 : n ≤ 9223372036854775807) : bits .and .i64 n 3 = n % 4 := by
  have h : (BitVec.ofInt 64 n &&& BitVec.ofInt 64 3 : BitVec 64).toNat = (n % 4).toNat := by
    rw [BitVec.toNat_and]
    have e3 : (BitVec.ofInt 64 3).toNat = 3 := by decide
    rw [e3, show (3 : Nat) = 2 ^ 2 - 1 from rfl, Nat.and_two_pow_sub_one_eq_mod, BitVec.toNat_ofInt]
    omega
  show IntKind.i64.wrap (((BitVec.ofInt 64 n &&& BitVec.ofInt 64 3 : BitVec 64).toNat : Nat) : Int) = _
  rw [h, wrap_i64_in (by omega) (by omega)]
  omega
end Go.Proofs.Ytnjfhmlfpfkllaa

/-
  More operations: structs of two whole numbers, compared.
-/
namespace Go.Proofs.Ytnjfhmlfpfkllaa
open Go
set_option linter.unusedSimpArgs false
set_option linter.unusedVariables false

section
variable {P : Program} {ρ : Operand → Value} {o : Oper} {w : World} {x y : Operand} {t u : TypeId}

/-- a struct type of two int64 fields, that may be compared -/
structure PairT (P : Program) (t : TypeId) (f0 f1 : Field) : Prop where
  und : P.underlying t = some (.struct (P.fieldsOf t))
  held : P.stoodInHeld t = false
  guard : P.eqGuardType P.depth t = false
  fields : P.fieldsOf t = #[f0, f1]
  name : f0.name ≠ "_" ∧ f1.name ≠ "_"
  off : f0.offset = 0 ∧ f1.offset = 1
  int0 : P.underlying f0.type = some (.int .i64)
  int1 : P.underlying f1.type = some (.int .i64)
  flat : flatB P f0.type = true ∧ flatB P f1.type = true

theorem run_equalIn_i64 (d : Nat) {t : TypeId} (ht : P.underlying t = some (.int .i64)) (w : World) (a b : Int) : (Op.equalIn (d + 1) t (.int .i64 a) (.int .i64 b)).run P w = .ok (a == b) w := by
  simp [Op.equalIn, run_underlying ht]

theorem run_eqlPair {f0 f1 : Field} (h : PairT P t f0 f1) (w : World) (a b c d : Int) :
    (Op.equal t (.agg #[.int .i64 a, .int .i64 b]) (.agg #[.int .i64 c, .int .i64 d])).run P w = .ok (decide (a = c) && decide (b = d)) w := by
  have h1 := run_equalIn_struct (P := P) w 9999 t #[.int .i64 a, .int .i64 b] #[.int .i64 c, .int .i64 d] h.und h.held
  have h2 : (Op.equal t (.agg #[.int .i64 a, .int .i64 b]) (.agg #[.int .i64 c, .int .i64 d])).run P w = (Op.equalIn (9999 + 1) t (.agg #[.int .i64 a, .int .i64 b]) (.agg #[.int .i64 c, .int .i64 d])).run P w := rfl
  rw [h2, h1, h.fields]
  have e0 := run_isAgg_flat (P := P) (w := w) h.flat.1
  have e1 := run_isAgg_flat (P := P) (w := w) h.flat.2
  have q0 := run_equalIn_i64 (P := P) 9998 h.int0 w a c
  have q1 := run_equalIn_i64 (P := P) 9998 h.int1 w b d
  generalize hd : 9998 + 1 = D at q0 q1
  have hD : (9999 : Nat) = D := hd
  rw [hD]
  cases ha : (a == c) <;> cases hb : (b == d) <;> rw [ha] at q0 <;> rw [hb] at q1 <;> rw [show decide (a = c) = (a == c) from rfl, show decide (b = d) = (b == d) from rfl, ha, hb] <;> simp [Op.eqFields, h.name.1, h.name.2, h.off.1, h.off.2, part, e0, e1, q0, q1]

theorem r_eqlPair {f0 f1 : Field} {a b c d : Int} (ho : o.op = .binOp .eql t x y u) (hx : ρ x = .agg #[.int .i64 a, .int .i64 b]) (hy : ρ y = .agg #[.int .i64 c, .int .i64 d]) (h : PairT P t f0 f1) :
    (execOp ρ o).run P w = .ok (.value (.bool (decide (a = c) && decide (b = d)))) w := by
  have h1 := run_eqlPair h w a b c d
  simp [execOp, ho, hx, hy, eqGuard, h.guard, binOp, h1, go_sem]
theorem r_neqPair {f0 f1 : Field} {a b c d : Int} (ho : o.op = .binOp .neq t x y u) (hx : ρ x = .agg #[.int .i64 a, .int .i64 b]) (hy : ρ y = .agg #[.int .i64 c, .int .i64 d]) (h : PairT P t f0 f1) :
    (execOp ρ o).run P w = .ok (.value (.bool (!(decide (a = c) && decide (b = d))))) w := by
  have h1 := run_eqlPair h w a b c d
  simp [execOp, ho, hx, hy, eqGuard, h.guard, binOp, h1, go_sem]
end
end Go.Proofs.Ytnjfhmlfpfkllaa

/-
  More operations: a row of zeros.
-/
namespace Go.Proofs.Ytnjfhmlfpfkllaa
open Go
set_option linter.unusedSimpArgs false
set_option linter.unusedVariables false

section
variable {P : Program} {ρ : Operand → Value} {o : Oper} {w : World} {x y : Operand} {t e : TypeId}
theorem r_makeSlice {by_ sz n : Nat} {z : Value} {k k' : IntKind} (ho : o.op = .makeSlice t x y) (hx : ρ x = .int k (n : Int)) (hy : ρ y = .int k' (n : Int)) (hr : RowT P t e sz by_ z) (hb : by_ * n ≤ 281474976710656) (hn : n ≤ 281474976710656) :
    (execOp ρ o).run P w = .ok (.value (.slice (some ⟨w.heap.size, 0, none⟩) n n)) (w.alloc (.cells (rowCells z n) e)) := by
  obtain ⟨i, hi, hz, hs, hby⟩ := hr.parts
  have hb' : (i.bytes : Int) * (n : Int) ≤ 281474976710656 := by
    have h : ((i.bytes * n : Nat) : Int) ≤ 281474976710656 := by rw [hby]; omega
    rwa [Int.natCast_mul] at h
  have h1 := run_make (P := P) w t e i z hr.und hi hz k k' n n (by omega) (Int.le_refl _) hb' (by omega)
  rw [Int.toNat_natCast, hs] at h1
  have h2 : madeCells z.cells (n * sz) = rowCells z n := rowCells_eq z n sz hr.cells hr.pos
  rw [h2] at h1
  simp only [execOp, ho, hx, hy, Sem.run_bind, h1, Result.andThen_ok, Sem.run_pure]
end
end Go.Proofs.Ytnjfhmlfpfkllaa

/-
  More operations: the lesser and the greater of two numbers; complex numbers compared.
-/
namespace Go.Proofs.Ytnjfhmlfpfkllaa
open Go Ieee
set_option linter.unusedSimpArgs false
set_option linter.unusedVariables false

section
variable {P : Program} {ρ : Operand → Value} {o : Oper} {w : World} {x y : Operand} {k k' : IntKind} {a b : Int}
theorem r_min {ts : Array TypeId} (ho : o.op = .call { callee := .builtin .min, args := #[x, y], argTypes := ts }) (hx : ρ x = .int k a) (hy : ρ y = .int k' b) : (execOp ρ o).run P w = .ok (.value (.int k (if b < a then b else a))) w := by
  simp [execOp, ho, resolve, invoke, builtin, hx, hy, run_min_int2]
theorem r_max {ts : Array TypeId} (ho : o.op = .call { callee := .builtin .max, args := #[x, y], argTypes := ts }) (hx : ρ x = .int k a) (hy : ρ y = .int k' b) : (execOp ρ o).run P w = .ok (.value (.int k (if b > a then b else a))) w := by
  simp [execOp, ho, resolve, invoke, builtin, hx, hy, run_max_int2]
theorem r_negN {t : TypeId} (ho : o.op = .unOp .neg t x) (hx : ρ x = .int k a) (h : inK k (-a)) : (execOp ρ o).run P w = .ok (.value (.int k (-a))) w := by
  rw [r_neg ho hx, wrap_in h]
end

theorem order_FI {x y : Nat} {a b : Int} (hx : FI x a) (hy : FI y b) : (FloatKind.f64.format.order x y == some .eq) = decide (a = b) := by
  obtain ⟨s, m, k, hd, hm, hs⟩ := hx
  obtain ⟨t, n, l, hd', hn, ht⟩ := hy
  have hb : min (-(k : Int)) (-(l : Int)) = -((max k l : Nat) : Int) := by omega
  have e1 : (-(k : Int) - -((max k l : Nat) : Int)).toNat = max k l - k := by omega
  have e2 : (-(l : Int) - -((max k l : Nat) : Int)).toNat = max k l - l := by omega
  have f1 := signed_of (u := max k l - k) hm hs
  have f2 := signed_of (u := max k l - l) hn ht
  rw [show k + (max k l - k) = max k l by omega] at f1
  rw [show l + (max k l - l) = max k l by omega] at f2
  have h1 : FloatKind.f64.format.order x y = some (compare (a * 2 ^ max k l) (b * 2 ^ max k l)) := by
    show ((double.read x).order (double.read y)) = _
    rw [hd, hd']
    simp only [Datum.order]
    rw [hb, e1, e2, f1, f2]
  rw [h1]
  generalize max k l = q
  have hp := pow_pos_int q
  by_cases h : a = b
  · subst h
    simp
  · have hne : a * 2 ^ q ≠ b * 2 ^ q := fun e => h (Int.eq_of_mul_eq_mul_right (by omega) e)
    have hc : compare (a * 2 ^ q) (b * 2 ^ q) ≠ .eq := fun e => hne (Std.LawfulEqOrd.eq_of_compare e)
    rw [Bool.eq_iff_iff]
    simp [h, hc]
end Go.Proofs.Ytnjfhmlfpfkllaa

/-
  More operations: an array's element.
-/
namespace Go.Proofs.Ytnjfhmlfpfkllaa
open Go
set_option linter.unusedSimpArgs false
set_option linter.unusedVariables false

section
variable {P : Program} {ρ : Operand → Value} {o : Oper} {w : World} {x y : Operand} {t e : TypeId} {k : IntKind}
theorem r_indexArr {g off n sz : Nat} {i : Int} (ho : o.op = .indexAddr t x y) (hx : ρ x = .pointer (some ⟨g, off, none⟩)) (hy : ρ y = .int k i) (hu : P.underlying t = some (.array n e)) (hz : sizeIs P e sz = true) (h0 : 0 ≤ i) (h1 : i < n) :
    (execOp ρ o).run P w = .ok (.value (.pointer (some ⟨g, off + i.toNat * sz, none⟩))) w := by
  have hadd : (⟨g, off, none⟩ : Addr).add (i.toNat * sz) = ⟨g, off + i.toNat * sz, none⟩ := Addr.add_lit _ _ _
  simp [execOp, ho, hx, hy, Instr.indexAt, run_underlying hu, asIntOf, Instr.sureAddr, h0, h1, run_sizeOf hz, hadd, go_sem]
end
end Go.Proofs.Ytnjfhmlfpfkllaa

/-
  More operations: strings as lists of bytes, sliced and compared.
-/
namespace Go.Proofs.Ytnjfhmlfpfkllaa
open Go
set_option linter.unusedSimpArgs false
set_option linter.unusedVariables false

theorem extract_bytes (s : List UInt8) (a b : Nat) : (ByteArray.mk s.toArray).extract a b = ⟨((s.drop a).take (b - a)).toArray⟩ := by
  apply ByteArray.ext
  apply Array.ext'
  rw [ByteArray.data_extract]
  simp [List.extract_eq_take_drop]

section
variable {P : Program} {ρ : Operand → Value} {o : Oper} {w : World} {x y : Operand} {t u : TypeId} {s s' : List UInt8}

theorem r_sliceStr {l h : Nat} {lo hi : Option Operand} (ho : o.op = .slice t x lo hi none) (hx : ρ x = .string ⟨s.toArray⟩) (hu : P.underlying t = some .string)
    (hlo : bnd ρ lo 0 l) (hhi : bnd ρ hi s.length h) (h1 : l ≤ h) (h2 : h ≤ s.length) : (execOp ρ o).run P w = .ok (.value (.string ⟨((s.drop l).take (h - l)).toArray⟩)) w := by
  have hsz : (ByteArray.mk s.toArray).size = s.length := by simp [ByteArray.size]
  have hext := extract_bytes s l h
  rcases hlo with ⟨rfl, rfl⟩ | ⟨y1, k1, b1, rfl, hy1, hb1⟩ <;> rcases hhi with ⟨rfl, rfl⟩ | ⟨y2, k2, b2, rfl, hy2, hb2⟩
  · simp [execOp, ho, hx, Instr.sliceAt, Instr.slice, run_underlying hu, Instr.sliceBounds, hsz, hext]
  · simp [execOp, ho, hx, hy2, Instr.sliceAt, Instr.slice, run_underlying hu, Instr.sliceBounds, hsz, run_sliceBound_in hb2 h2, hext]
  · simp [execOp, ho, hx, hy1, Instr.sliceAt, Instr.slice, run_underlying hu, Instr.sliceBounds, hsz, run_sliceBound_in hb1 h1, hext]
  · simp [execOp, ho, hx, hy1, hy2, Instr.sliceAt, Instr.slice, run_underlying hu, Instr.sliceBounds, hsz, run_sliceBound_in hb1 h1, run_sliceBound_in hb2 h2, hext]

theorem r_eqlStrL (ho : o.op = .binOp .eql t x y u) (hx : ρ x = .string ⟨s.toArray⟩) (hy : ρ y = .string ⟨s'.toArray⟩) : (execOp ρ o).run P w = .ok (.value (.bool (decide (s = s')))) w := by
  rw [r_eqlStr ho hx hy, mk_toList, mk_toList]
theorem r_neqStrL (ho : o.op = .binOp .neq t x y u) (hx : ρ x = .string ⟨s.toArray⟩) (hy : ρ y = .string ⟨s'.toArray⟩) : (execOp ρ o).run P w = .ok (.value (.bool (decide (s ≠ s')))) w := by
  rw [r_neqStr ho hx hy, mk_toList, mk_toList]
theorem r_lenStrL (ho : o.op = .call { callee := .builtin .len, args := #[x], argTypes := #[t] }) (hx : ρ x = .string ⟨s.toArray⟩) (hu : P.underlying t = some .string) : (execOp ρ o).run P w = .ok (.value (.int .i64 (s.length : Int))) w := by
  rw [r_lenString ho hx hu]
  simp [ByteArray.size]
theorem r_addStrL (ho : o.op = .binOp .add t x y u) (hx : ρ x = .string ⟨s.toArray⟩) (hy : ρ y = .string ⟨s'.toArray⟩) (h : s.length + s'.length ≤ 9223372036854775807) : (execOp ρ o).run P w = .ok (.value (.string ⟨(s ++ s').toArray⟩)) w := by
  rw [r_addStr ho hx hy (by simpa [ByteArray.size] using h)]
  congr 3
end
end Go.Proofs.Ytnjfhmlfpfkllaa

/-
  More operations: structs of any size, stored and loaded.
-/
namespace Go.Proofs.Ytnjfhmlfpfkllaa
open Go
set_option linter.unusedSimpArgs false
set_option linter.unusedVariables false

theorem heap_setRow_ne (w : World) (g : Nat) (cs : Array Value) (k : Nat) (hk : ¬ k = g) : (w.setRow g cs).heap[k]? = w.heap[k]? := by
  have hne : ¬ g = k := fun h => hk h.symm
  simp [World.setRow, Array.getElem?_modify, hne]
theorem Upd.setRow (w : World) (g : Nat) (cs : Array Value) : Upd (At g) w (w.setRow g cs) :=
  ⟨rfl, rfl, rfl, by simp [World.setRow], fun k _ hn => heap_setRow_ne w g cs k hn⟩

section
variable {P : Program} {o : Oper} {w : World} {x y : Operand} {t : TypeId} {N : Nat} {ops : Array Oper} {Q : Exit → Act → World → Prop} {K : Env → World → Prop} {E : Env}

theorem r_storeN {ρ : Operand → Value} {g off : Nat} {us : List Value} {cs : Array Value} {T : TypeId} (ho : o.op = .store t x y) (hx : ρ x = .pointer (some ⟨g, off, none⟩)) (hy : ρ y = .agg us.toArray) (hz : sizeIs P t us.length = true) (hb : Blk w g cs T) (hle : off + us.length ≤ cs.size) (h1 : us.all Value.oneCell' = true) :
    (execOp ρ o).run P w = .ok .skip (w.setRow g (cs.toList.take off ++ us ++ cs.toList.drop (off + us.length)).toArray) := by
  have h2 := run_storeCells_at P g off T us 0 cs w hb (by omega) (fun v hv => List.all_eq_true.1 h1 v hv)
  rw [Nat.add_zero] at h2
  simp [execOp, ho, hx, hy, Instr.storeAt, Instr.sureAddr, storeVar, run_sizeOf hz, Value.cells, h2]

theorem SO.storeN {g off : Nat} {us : List Value} {cs : Array Value} {T : TypeId} (hop : o.op = .store t x y) (hx : Env.ev E x = .pointer (some ⟨g, off, none⟩)) (hy : Env.ev E y = .agg us.toArray) (hz : sizeIs P t us.length = true) (hb : Blk w g cs T) (hle : off + us.length ≤ cs.size) (h1 : us.all Value.oneCell' = true)
    (hd : o.dst = none) (ho : opsOK E o = true) (hw : wantedE ops E o = some true)
    (k : ∀ w', Upd (At g) w w' → Blk w' g (cs.toList.take off ++ us ++ cs.toList.drop (off + us.length)).toArray T → w'.heap.size = w.heap.size → K E w') : SO P N ops Q o K E w :=
  SO.eff hd ho hw (r_storeN hop hx hy hz hb hle h1) (k _ (Upd.setRow _ _ _) (setRow_heap w g cs _ T _ hb) (by simp [World.setRow]))
/-- the whole block -/
theorem SO.storeAll {g : Nat} {us : List Value} {cs : Array Value} {T : TypeId} (hop : o.op = .store t x y) (hx : Env.ev E x = .pointer (some ⟨g, 0, none⟩)) (hy : Env.ev E y = .agg us.toArray) (hz : sizeIs P t us.length = true) (hb : Blk w g cs T) (hle : cs.size = us.length) (h1 : us.all Value.oneCell' = true)
    (hd : o.dst = none) (ho : opsOK E o = true) (hw : wantedE ops E o = some true)
    (k : ∀ w', Upd (At g) w w' → Blk w' g us.toArray T → w'.heap.size = w.heap.size → K E w') : SO P N ops Q o K E w :=
  SO.storeN hop hx hy hz hb (by omega) h1 hd ho hw (fun w' hu hb' hs => k w' hu (by
    have e : cs.toList.take 0 ++ us ++ cs.toList.drop (0 + us.length) = us := by
      rw [Nat.zero_add, List.drop_of_length_le (by simp [hle]), List.take_zero]
      simp
    rwa [e] at hb') hs)

/-- a row written over whole -/
theorem SO.copyAll {d : Nat} {t2 e : TypeId} {g n c : Nat} {v2 : Value} {cur : Array Value} {T : TypeId} {xs : List Value} {F2 : Nat → Prop} (hb : Blk w g cur T) (hn : cur.size = n) (hsrc : Rd w F2 v2 n 1 xs) (h1 : ∀ u ∈ xs, u.oneCell' = true) (hu : sliceElem P t = some e) (hs : sizeIs P e 1 = true)
    (hop : o.op = .call { callee := .builtin .copy, args := #[x, y], argTypes := #[t, t2] }) (hx : Env.ev E x = .slice (some ⟨g, 0, none⟩) n c) (hy : Env.ev E y = v2)
    (hd : o.dst = some d) (hN : Nat.blt d N = true) (ho : opsOK E o = true) (hw : wantedE ops E o = some true)
    (k : ∀ w', Upd (At g) w w' → Blk w' g xs.toArray T → w'.heap.size = w.heap.size → K ((d, .int .i64 (n : Int)) :: E) w') : SO P N ops Q o K E w := by
  have hlen : xs.length = n := by have := hsrc.len; omega
  have hz : (P.info? e).map (·.size) = some 1 := by
    unfold sizeIs at hs
    cases hi : P.info? e with
    | none => simp [hi] at hs
    | some i => rw [hi] at hs; simpa using hs
  rcases hsrc.src (by decide) with ⟨h0, hxs, A, c', rfl⟩ | ⟨ad, c', rfl, hcells⟩
  · subst h0
    subst hxs
    have hcur : cur = #[] := Array.eq_empty_of_size_eq_zero hn
    subst hcur
    have hrun : (Builtin.copy_ #[t, t2] o.type #[.slice (some ⟨g, 0, none⟩) 0 c, .slice A 0 c']).run P w = .ok (goInt 0) w := by
      cases hq : P.info? e with
      | none => simp [hq] at hz
      | some i =>
        cases A with
        | none => simp [Builtin.copy_, run_underlying (sliceElem_und hu), Builtin.lenOf, Builtin.firstCells, sizeOf, typeInfo, hq, storeCells]
        | some a => simp [Builtin.copy_, run_underlying (sliceElem_und hu), Builtin.lenOf, Builtin.firstCells, sizeOf, typeInfo, hq, storeCells, loadCells, loadCellsFrom]
    refine SO.val (v := .int .i64 ((0 : Nat) : Int)) (w' := w) hd hN ho hw ?_ (k w (Upd.refl _ _) hb rfl)
    unfold execOp
    simp only [hop, resolve, invoke, builtin, Sem.run_bind, Sem.run_pure, Result.andThen_ok, List.map_toArray, List.map_cons, List.map_nil, hx, hy, hrun]
    rfl
  · have hrun := run_copy_row P w t t2 o.type e g 0 n c ad n c' cur T xs (sliceElem_und hu) hz hb (by rw [hlen]; simp) hcells (by omega) h1
    have e1 : (cur.toList.take 0 ++ xs ++ cur.toList.drop (0 + xs.length)).toArray = xs.toArray := by
      rw [Nat.zero_add, List.drop_of_length_le (by simp [hn, hlen]), List.take_zero]
      simp
    rw [e1, hlen] at hrun
    refine SO.val (v := .int .i64 (n : Int)) (w' := w.setRow g xs.toArray) hd hN ho hw ?_ (k _ (Upd.setRow _ _ _) (setRow_heap w g cur _ T _ hb) (by simp [World.setRow]))
    unfold execOp
    simp only [hop, resolve, invoke, builtin, Sem.run_bind, Sem.run_pure, Result.andThen_ok, List.map_toArray, List.map_cons, List.map_nil, hx, hy, hrun]
    rfl
end

theorem Own.nilGrow {w w' w0 : World} {T : TypeId} {sz n : Nat} {v : Value} {xs : List Value} (h : Own w0 (Grow (fun _ => False) w w') T sz v n xs) : Own w0 (New w w') T sz v n xs := h.mono fun k hk => hk.elim (fun h => h.elim) (fun h => h)
theorem Blk.cellsL {w : World} {g : Nat} {us : List Value} {T : TypeId} (h : Blk w g us.toArray T) : CellsAt w ⟨g, 0, none⟩ us := fun j v hj => by
  rw [Addr.add_lit, Nat.zero_add]
  exact h.cell (by simpa using hj)
theorem Blk.cellsP {w : World} {g off : Nat} {cs : Array Value} {us : List Value} {T : TypeId} (h : Blk w g cs T) (hu : ∀ j v, us[j]? = some v → cs[off + j]? = some v) : CellsAt w ⟨g, off, none⟩ us := fun j v hj => by
  rw [Addr.add_lit]
  exact h.cell (hu j v hj)
theorem Rd.cellsL {w : World} {F : Nat → Prop} {b off n c sz q i : Nat} {xs us : List Value} (hr : Rd w F (.slice (some ⟨b, off, none⟩) n c) n sz xs) (hq : q = off + i) (hu : ∀ j v, us[j]? = some v → xs[i + j]? = some v) : CellsAt w ⟨b, q, none⟩ us := fun j v hj => by
  subst hq
  rw [Addr.add_lit]
  exact hr.cell (j := i + j) (by omega) (hu j v hj)
/-- the cells of one of the elements -/
theorem flatMap_get {α : Type} {dec : α → List Value} {sz : Nat} (hd : ∀ a, (dec a).length = sz) : ∀ {l : List α} {i : Nat} {a : α}, l[i]? = some a → ∀ j v, (dec a)[j]? = some v → (l.flatMap dec)[i * sz + j]? = some v
  | [], i, a, h, _, _, _ => by simp at h
  | b :: l, 0, a, h, j, v, hv => by
    simp only [List.getElem?_cons_zero, Option.some.injEq] at h
    subst h
    have hj : j < (dec b).length := (List.getElem?_eq_some_iff.1 hv).1
    rw [Nat.zero_mul, Nat.zero_add, List.flatMap_cons, List.getElem?_append_left hj]
    exact hv
  | b :: l, i + 1, a, h, j, v, hv => by
    have ih := flatMap_get hd (l := l) (i := i) (by simpa using h) j v hv
    rw [List.flatMap_cons, List.getElem?_append_right (by rw [hd b, Nat.add_mul, Nat.one_mul]; omega), hd b, show (i + 1) * sz + j - sz = i * sz + j by rw [Nat.add_mul, Nat.one_mul]; omega]
    exact ih
theorem flatMap_len {α : Type} {dec : α → List Value} {sz : Nat} (hd : ∀ a, (dec a).length = sz) (l : List α) : (l.flatMap dec).length = l.length * sz := by
  induction l with
  | nil => simp
  | cons a l ih => rw [List.flatMap_cons, List.length_append, ih, hd a, List.length_cons, Nat.add_mul, Nat.one_mul, Nat.add_comm]
end Go.Proofs.Ytnjfhmlfpfkllaa

/-
  slices.Clone of bytes.
-/
namespace Go.Proofs.Ytnjfhmlfpfkllaa
open Go
set_option linter.unusedSimpArgs false
set_option linter.unusedVariables false

theorem clone_ok {w : World} {F : Nat → Prop} {v : Value} {n : Nat} {l : List UInt8} (hr : Rd w F v n 1 (l.map U8)) :
    Ret Try.prog 18 #[v] w fun v' w' => Own w' (New w w') 5 1 v' n (l.map U8) ∧ Upd No w w' := by
  obtain ⟨A, c, rfl, hle⟩ := hr.slice_form
  have hm := hr.le
  have hn := hr.lenB
  replace hr := hr.bound
  refine enterRet (vs := [_]) (N := 8) Try.func18 rfl rfl rfl ?_
  have hU := Upd.refl No w
  refine WC.keep [(0, _)] ⟨rfl, trivial⟩ ?_
  refine WC.seq ?_
  refine WC.region ?_
  refine WL.val rfl rfl rfl rfl (r_assign rfl ev_c) ?_
  refine WL.nil ?_
  refine WX.keep [(0, _)] ⟨rfl, trivial⟩ ?_
  refine WX.next ?_
  refine WC.seq ?_
  refine WC.seq ?_
  refine WC.region ?_
  refine WL.val rfl rfl rfl rfl (r_move rfl (ev_t rfl)) ?_
  refine WL.val rfl rfl rfl rfl (r_eqlSliceNil rfl (ev_t rfl) ev_c elem_22) ?_
  refine WL.nil ?_
  refine WX.keep [(0, _), (4, _)] ⟨rfl, rfl, trivial⟩ ?_
  refine WX.next ?_
  refine WC.cond rfl (ev_t rfl) (fun hc1 => ?_) (fun hc1 => ?_)
  · try (exfalso; first | (simp at hc1; done) | (simp only [decide_eq_true_eq, decide_eq_false_iff_not, Bool.not_eq_true', Bool.not_eq_false', Bool.not_eq_true, Bool.not_eq_false] at hc1; omega) | omega)
    all_goals
     try simp only [decide_eq_true_eq, decide_eq_false_iff_not, Bool.not_eq_true', Bool.not_eq_false', Bool.not_eq_true, Bool.not_eq_false, Option.isNone_none, Option.isNone_some, Option.isSome_none, Option.isSome_some, ne_eq, Decidable.not_not] at hc1
     have h0 : n = 0 := by
       rcases Nat.eq_zero_or_pos n with h | h
       · exact h
       · obtain ⟨b, off, rfl, _⟩ := hr.open h
         simp at hc1
     refine WC.seq ?_
     refine WC.region ?_
     refine WL.val rfl rfl rfl rfl (r_assign rfl ev_c) ?_
     refine WL.nil ?_
     refine WX.keep [(2, _)] ⟨rfl, trivial⟩ ?_
     refine WX.next ?_
     refine WC.ret ?_
     refine WX.thenRet ?_
     refine WX.retE1 rfl rfl ?_
     subst h0
     rw [List.eq_nil_of_length_eq_zero hn]
     exact ⟨Own.nil _ _ _ _, hU⟩
  · try (exfalso; first | (simp at hc1; done) | (simp only [decide_eq_true_eq, decide_eq_false_iff_not, Bool.not_eq_true', Bool.not_eq_false', Bool.not_eq_true, Bool.not_eq_false] at hc1; omega) | omega)
    all_goals
     try simp only [decide_eq_true_eq, decide_eq_false_iff_not, Bool.not_eq_true', Bool.not_eq_false', Bool.not_eq_true, Bool.not_eq_false, Option.isNone_none, Option.isNone_some, Option.isSome_none, Option.isSome_some, ne_eq, Decidable.not_not] at hc1
     refine WC.skip ?_
     refine WX.next ?_
     refine WC.seq ?_
     refine WC.region ?_
     refine WL.cons (SO.alloc rfl rfl rfl rfl (r_buildSlice1 (vs := []) rfl trivial rfl row_22 rfl rfl) ?_)
     intro w1 hu1 hB1 hz1
     have hs1 := hu1.size
     replace hU := hU.transA hu1
     replace hr := hr.updA hu1
     refine WL.val rfl rfl rfl rfl (r_move rfl (ev_t rfl)) ?_
     refine WL.cons (SO.append (Own.of_blk (F := At _) (n := 0) (sz := 1) hB1 rfl rfl (by decide)) hr row_22 (U8_one _) (le_maxLen (by omega)) (by omega) rfl (ev_t rfl) (ev_t rfl) rfl rfl rfl rfl ?_)
     intro v2 w2 ho hu2
     have hs2 := hu2.size
     replace hU := hU.transA hu2
     replace hr := hr.updA hu2
     obtain ⟨A2, c2, rfl, hc2⟩ := Own.form ho
     refine WL.val rfl rfl rfl rfl (r_assign rfl (ev_t rfl)) ?_
     refine WL.nil ?_
     refine WX.keep [(2, _)] ⟨rfl, trivial⟩ ?_
     refine WX.next ?_
     refine WC.ret ?_
     refine WX.retE1 rfl rfl ?_
     rw [Nat.zero_add] at ho ⊢
     exact ⟨ho.mono (fun k hk => by rcases hk with h | h <;> simp only [At, New] at * <;> omega), hU⟩

end Go.Proofs.Ytnjfhmlfpfkllaa

/-
  octet.Reader: Int, Upto, Bytes, Text; a nil reader; slices.Clone of bytes.
-/
namespace Go.Proofs.Ytnjfhmlfpfkllaa
open Go
set_option linter.unusedSimpArgs false
set_option linter.unusedVariables false

theorem ruint_ok {w : World} {F : Nat → Prop} {g : Nat} {s s' : Option (List UInt8)} {x : Nat} (h : IsR w F g s) (hFg : ¬ F g) (hx : uintR s = (x, s')) :
    Ret Try.prog 45 #[.pointer (some ⟨g, 0, none⟩)] w fun v w' => v = .int .u64 (x : Int) ∧ IsR w' F g s' ∧ Upd (At g) w w' := by
  cases s with
  | none =>
    obtain ⟨A, n, c, hb⟩ := h
    simp only [uintR, Prod.mk.injEq] at hx
    obtain ⟨rfl, rfl⟩ := hx
    exact ruint_bad hb (.inl rfl)
  | some l =>
    obtain ⟨A, c, hb, hr⟩ := h
    cases l with
    | nil =>
      simp only [uintR, decU, Prod.mk.injEq] at hx
      obtain ⟨rfl, rfl⟩ := hx
      exact ruint_bad hb (.inr rfl)
    | cons k r =>
      obtain ⟨b, off, rfl, _⟩ := hr.open (by simp)
      have := ruint_cons hb hr hFg
      rw [hx] at this
      exact this

theorem ruint_nil (w : World) : Ret Try.prog 45 #[.pointer none] w fun v w' => v = .int .u64 0 ∧ w' = w := by
  refine enterRet (vs := [_]) (N := 88) Try.func45 rfl rfl rfl ?_
  refine WC.keep [(0, _)] ⟨rfl, trivial⟩ ?_
  refine WC.seq ?_
  refine WC.region ?_
  refine WL.val rfl rfl rfl rfl (r_assign rfl ev_c) ?_
  refine WL.nil ?_
  refine WX.keep [(0, _)] ⟨rfl, trivial⟩ ?_
  refine WX.next ?_
  refine WC.seq ?_
  refine WC.seq ?_
  refine WC.region ?_
  refine WL.val rfl rfl rfl rfl (r_move rfl (ev_t rfl)) ?_
  refine WL.val rfl rfl rfl rfl (r_eqlPtrNil rfl (ev_t rfl) ev_c ptr_88) ?_
  refine WL.val rfl rfl rfl rfl (r_move rfl (ev_t rfl)) ?_
  refine WL.cases 9 rfl (fun hb1_2 => ?_) (fun hb1_2 => ?_)
  · try (exfalso; first | (simp at hb1_2; done) | (simp only [decide_eq_true_eq, decide_eq_false_iff_not, Bool.not_eq_true', Bool.not_eq_false', Bool.not_eq_true, Bool.not_eq_false] at hb1_2; omega) | omega)
    all_goals
     try simp only [decide_eq_true_eq, decide_eq_false_iff_not, Bool.not_eq_true', Bool.not_eq_false', Bool.not_eq_true, Bool.not_eq_false, Option.isNone_none, Option.isNone_some, Option.isSome_none, Option.isSome_some, ne_eq, Decidable.not_not] at hb1_2
     refine WL.skip rfl rfl rfl ?_
     refine WL.skip rfl rfl rfl ?_
     refine WL.skip rfl rfl rfl ?_
     refine WL.skip rfl rfl rfl ?_
     refine WL.val rfl rfl rfl rfl (r_pickT rfl (ev_t rfl) ev_c) ?_
     refine WL.val rfl rfl rfl rfl (r_move rfl (ev_t rfl)) ?_
     refine WL.skip rfl rfl rfl ?_
     refine WL.skip rfl rfl rfl ?_
     refine WL.skip rfl rfl rfl ?_
     refine WL.skip rfl rfl rfl ?_
     refine WL.skip rfl rfl rfl ?_
     refine WL.skip rfl rfl rfl ?_
     refine WL.val rfl rfl rfl rfl (r_pickT rfl (ev_t rfl) ev_c) ?_
     refine WL.nil ?_
     refine WX.keep [(0, _), (22, _)] ⟨rfl, rfl, trivial⟩ ?_
     refine WX.next ?_
     refine WC.cond_true rfl (ev_t rfl) ?_
     refine WC.seq ?_
     refine WC.region ?_
     refine WL.val rfl rfl rfl rfl (r_move rfl (ev_t rfl)) ?_
     refine WL.cons (SO.call (fail_nil _) rfl body_51 ⟨(ev_t rfl), trivial⟩ rfl rfl rfl rfl ?_)
     rintro v1 w1 rfl
     refine WL.nil ?_
     refine WX.keep [] trivial ?_
     refine WX.next ?_
     refine WC.seq ?_
     refine WC.region ?_
     refine WL.val rfl rfl rfl rfl (r_assign rfl ev_c) ?_
     refine WL.nil ?_
     refine WX.keep [(2, _)] ⟨rfl, trivial⟩ ?_
     refine WX.next ?_
     refine WC.ret ?_
     refine WX.thenRet ?_
     refine WX.retE1 rfl rfl ?_
     exact ⟨rfl, rfl⟩
  · exact absurd hb1_2 (by simp)

theorem upto_ok {w : World} {F : Nat → Prop} {g : Nat} {s s' : Option (List UInt8)} {x : Nat} {most : Int} (h : IsR w F g s) (hFg : ¬ F g) (hm : inK .i64 most) (hx : uptoR most s = (x, s')) :
    Ret Try.prog 42 #[.pointer (some ⟨g, 0, none⟩), .int .i64 most] w fun v w' => v = .int .i64 (x : Int) ∧ IsR w' F g s' ∧ Upd (At g) w w' := by
  have hlt := uintR_lt s
  simp only [inK] at hm
  unfold uptoR at hx
  cases hu : uintR s with | mk y s1 =>
  rw [hu] at hx hlt
  simp only at hlt
  cases s1 with
  | none =>
    simp only [Prod.mk.injEq] at hx
    obtain ⟨rfl, rfl⟩ := hx
    refine enterRet (vs := [_, _]) (N := 30) Try.func42 rfl rfl rfl ?_
    refine WC.keep [(0, _), (1, _)] ⟨rfl, rfl, trivial⟩ ?_
    refine WC.seq ?_
    refine WC.region ?_
    refine WL.val rfl rfl rfl rfl (r_assign rfl ev_c) ?_
    refine WL.nil ?_
    refine WX.keep [(0, _), (1, _)] ⟨rfl, rfl, trivial⟩ ?_
    refine WX.next ?_
    refine WC.seq ?_
    refine WC.region ?_
    refine WL.val rfl rfl rfl rfl (r_move rfl (ev_t rfl)) ?_
    refine WL.cons (SO.call (ruint_ok h hFg hu) rfl body_45 ⟨(ev_t rfl), trivial⟩ rfl rfl rfl rfl ?_)
    rintro v1 w1 ⟨rfl, hR, hu1⟩
    obtain ⟨A, n, c, hb⟩ := hR
    refine WL.val rfl rfl rfl rfl (r_assign rfl (ev_t rfl)) ?_
    refine WL.nil ?_
    refine WX.keep [(0, _), (1, _), (5, _)] ⟨rfl, rfl, rfl, trivial⟩ ?_
    refine WX.next ?_
    refine WC.seq ?_
    refine WC.seq ?_
    refine WC.region ?_
    refine WL.val rfl rfl rfl rfl (r_move rfl (ev_t rfl)) ?_
    refine WL.val rfl rfl rfl rfl (r_eqlPtrNil rfl (ev_t rfl) ev_c ptr_88) ?_
    refine WL.val rfl rfl rfl rfl (r_move rfl (ev_t rfl)) ?_
    refine WL.cases 10 rfl (fun hb2_2 => ?_) (fun hb2_2 => ?_)
    · exact absurd hb2_2 (by simp)
    · try (exfalso; first | (simp at hb2_2; done) | (simp only [decide_eq_true_eq, decide_eq_false_iff_not, Bool.not_eq_true', Bool.not_eq_false', Bool.not_eq_true, Bool.not_eq_false] at hb2_2; omega) | omega)
      all_goals
       try simp only [decide_eq_true_eq, decide_eq_false_iff_not, Bool.not_eq_true', Bool.not_eq_false', Bool.not_eq_true, Bool.not_eq_false, Option.isNone_none, Option.isNone_some, Option.isSome_none, Option.isSome_some, ne_eq, Decidable.not_not] at hb2_2
       refine WL.val rfl rfl rfl rfl (r_move rfl (ev_t rfl)) ?_
       refine WL.val rfl rfl rfl rfl (r_nilCheck rfl (ev_t rfl)) ?_
       first | refine WL.val rfl rfl rfl rfl (r_field0 rfl (ev_t rfl) fld_99_1) ?_ | refine WL.val rfl rfl rfl rfl (r_fieldAt rfl (ev_t rfl) fld_99_1) ?_
       refine WL.val rfl rfl rfl rfl (r_load rfl (ev_t rfl) flat_4 (Blk.cell hb rfl)) ?_
       refine WL.val rfl rfl rfl rfl (r_pickF rfl (ev_t rfl) (ev_t rfl)) ?_
       refine WL.val rfl rfl rfl rfl (r_move rfl (ev_t rfl)) ?_
       refine WL.cases 16 rfl (fun hb2_8 => ?_) (fun hb2_8 => ?_)
       · try (exfalso; first | (simp at hb2_8; done) | (simp only [decide_eq_true_eq, decide_eq_false_iff_not, Bool.not_eq_true', Bool.not_eq_false', Bool.not_eq_true, Bool.not_eq_false] at hb2_8; omega) | omega)
         all_goals
          try simp only [decide_eq_true_eq, decide_eq_false_iff_not, Bool.not_eq_true', Bool.not_eq_false', Bool.not_eq_true, Bool.not_eq_false, Option.isNone_none, Option.isNone_some, Option.isSome_none, Option.isSome_some, ne_eq, Decidable.not_not] at hb2_8
          refine WL.skip rfl rfl rfl ?_
          refine WL.skip rfl rfl rfl ?_
          refine WL.val rfl rfl rfl rfl (r_pickT rfl (ev_t rfl) ev_c) ?_
          refine WL.val rfl rfl rfl rfl (r_move rfl (ev_t rfl)) ?_
          refine WL.skip rfl rfl rfl ?_
          refine WL.skip rfl rfl rfl ?_
          refine WL.skip rfl rfl rfl ?_
          refine WL.skip rfl rfl rfl ?_
          refine WL.val rfl rfl rfl rfl (r_pickT rfl (ev_t rfl) ev_c) ?_
          refine WL.nil ?_
          refine WX.keep [(0, _), (5, _), (25, _)] ⟨rfl, rfl, rfl, trivial⟩ ?_
          refine WX.next ?_
          refine WC.cond_true rfl (ev_t rfl) ?_
          refine WC.seq ?_
          refine WC.region ?_
          refine WL.val rfl rfl rfl rfl (r_move rfl (ev_t rfl)) ?_
          refine WL.cons (SO.call (fail_blk hb F) rfl body_51 ⟨(ev_t rfl), trivial⟩ rfl rfl rfl rfl ?_)
          rintro v2 w2 ⟨hR, hu2⟩
          refine WL.nil ?_
          refine WX.keep [] trivial ?_
          refine WX.next ?_
          refine WC.seq ?_
          refine WC.region ?_
          refine WL.val rfl rfl rfl rfl (r_assign rfl ev_c) ?_
          refine WL.nil ?_
          refine WX.keep [(4, _)] ⟨rfl, trivial⟩ ?_
          refine WX.next ?_
          refine WC.ret ?_
          refine WX.thenRet ?_
          refine WX.retE1 rfl rfl ?_
          exact ⟨rfl, hR, hu1.trans_same hu2⟩
       · exact absurd hb2_8 (by simp)
  | some r =>
    simp only at hx
    refine enterRet (vs := [_, _]) (N := 30) Try.func42 rfl rfl rfl ?_
    refine WC.keep [(0, _), (1, _)] ⟨rfl, rfl, trivial⟩ ?_
    refine WC.seq ?_
    refine WC.region ?_
    refine WL.val rfl rfl rfl rfl (r_assign rfl ev_c) ?_
    refine WL.nil ?_
    refine WX.keep [(0, _), (1, _)] ⟨rfl, rfl, trivial⟩ ?_
    refine WX.next ?_
    refine WC.seq ?_
    refine WC.region ?_
    refine WL.val rfl rfl rfl rfl (r_move rfl (ev_t rfl)) ?_
    refine WL.cons (SO.call (ruint_ok h hFg hu) rfl body_45 ⟨(ev_t rfl), trivial⟩ rfl rfl rfl rfl ?_)
    rintro v1 w1 ⟨rfl, hR, hu1⟩
    obtain ⟨A, c, hb, hr⟩ := hR
    refine WL.val rfl rfl rfl rfl (r_assign rfl (ev_t rfl)) ?_
    refine WL.nil ?_
    refine WX.keep [(0, _), (1, _), (5, _)] ⟨rfl, rfl, rfl, trivial⟩ ?_
    refine WX.next ?_
    refine WC.seq ?_
    refine WC.seq ?_
    refine WC.region ?_
    refine WL.val rfl rfl rfl rfl (r_move rfl (ev_t rfl)) ?_
    refine WL.val rfl rfl rfl rfl (r_eqlPtrNil rfl (ev_t rfl) ev_c ptr_88) ?_
    refine WL.val rfl rfl rfl rfl (r_move rfl (ev_t rfl)) ?_
    refine WL.cases 10 rfl (fun hb2_2 => ?_) (fun hb2_2 => ?_)
    · exact absurd hb2_2 (by simp)
    · try (exfalso; first | (simp at hb2_2; done) | (simp only [decide_eq_true_eq, decide_eq_false_iff_not, Bool.not_eq_true', Bool.not_eq_false', Bool.not_eq_true, Bool.not_eq_false] at hb2_2; omega) | omega)
      all_goals
       try simp only [decide_eq_true_eq, decide_eq_false_iff_not, Bool.not_eq_true', Bool.not_eq_false', Bool.not_eq_true, Bool.not_eq_false, Option.isNone_none, Option.isNone_some, Option.isSome_none, Option.isSome_some, ne_eq, Decidable.not_not] at hb2_2
       refine WL.val rfl rfl rfl rfl (r_move rfl (ev_t rfl)) ?_
       refine WL.val rfl rfl rfl rfl (r_nilCheck rfl (ev_t rfl)) ?_
       first | refine WL.val rfl rfl rfl rfl (r_field0 rfl (ev_t rfl) fld_99_1) ?_ | refine WL.val rfl rfl rfl rfl (r_fieldAt rfl (ev_t rfl) fld_99_1) ?_
       refine WL.val rfl rfl rfl rfl (r_load rfl (ev_t rfl) flat_4 (Blk.cell hb rfl)) ?_
       refine WL.val rfl rfl rfl rfl (r_pickF rfl (ev_t rfl) (ev_t rfl)) ?_
       refine WL.val rfl rfl rfl rfl (r_move rfl (ev_t rfl)) ?_
       refine WL.cases 16 rfl (fun hb2_8 => ?_) (fun hb2_8 => ?_)
       · exact absurd hb2_8 (by simp)
       · try (exfalso; first | (simp at hb2_8; done) | (simp only [decide_eq_true_eq, decide_eq_false_iff_not, Bool.not_eq_true', Bool.not_eq_false', Bool.not_eq_true, Bool.not_eq_false] at hb2_8; omega) | omega)
         all_goals
          try simp only [decide_eq_true_eq, decide_eq_false_iff_not, Bool.not_eq_true', Bool.not_eq_false', Bool.not_eq_true, Bool.not_eq_false, Option.isNone_none, Option.isNone_some, Option.isSome_none, Option.isSome_some, ne_eq, Decidable.not_not] at hb2_8
          refine WL.val rfl rfl rfl rfl (r_move rfl (ev_t rfl)) ?_
          refine WL.val rfl rfl rfl rfl (r_lss rfl (ev_t rfl) ev_c) ?_
          refine WL.val rfl rfl rfl rfl (r_pickF rfl (ev_t rfl) (ev_t rfl)) ?_
          refine WL.val rfl rfl rfl rfl (r_move rfl (ev_t rfl)) ?_
          refine WL.cases 20 rfl (fun hb2_12 => ?_) (fun hb2_12 => ?_)
          · try (exfalso; first | (simp at hb2_12; done) | (simp only [decide_eq_true_eq, decide_eq_false_iff_not, Bool.not_eq_true', Bool.not_eq_false', Bool.not_eq_true, Bool.not_eq_false] at hb2_12; omega) | omega)
            all_goals
             try simp only [decide_eq_true_eq, decide_eq_false_iff_not, Bool.not_eq_true', Bool.not_eq_false', Bool.not_eq_true, Bool.not_eq_false, Option.isNone_none, Option.isNone_some, Option.isSome_none, Option.isSome_some, ne_eq, Decidable.not_not] at hb2_12
             refine WL.skip rfl rfl rfl ?_
             refine WL.skip rfl rfl rfl ?_
             refine WL.skip rfl rfl rfl ?_
             refine WL.skip rfl rfl rfl ?_
             refine WL.val rfl rfl rfl rfl (r_pickT rfl (ev_t rfl) ev_c) ?_
             refine WL.nil ?_
             refine WX.keep [(0, _), (5, _), (25, _)] ⟨rfl, rfl, rfl, trivial⟩ ?_
             refine WX.next ?_
             refine WC.cond_true rfl (ev_t rfl) ?_
             refine WC.seq ?_
             refine WC.region ?_
             refine WL.val rfl rfl rfl rfl (r_move rfl (ev_t rfl)) ?_
             refine WL.cons (SO.call (fail_blk hb F) rfl body_51 ⟨(ev_t rfl), trivial⟩ rfl rfl rfl rfl ?_)
             rintro v2 w2 ⟨hR, hu2⟩
             refine WL.nil ?_
             refine WX.keep [] trivial ?_
             refine WX.next ?_
             refine WC.seq ?_
             refine WC.region ?_
             refine WL.val rfl rfl rfl rfl (r_assign rfl ev_c) ?_
             refine WL.nil ?_
             refine WX.keep [(4, _)] ⟨rfl, trivial⟩ ?_
             refine WX.next ?_
             refine WC.ret ?_
             refine WX.thenRet ?_
             refine WX.retE1 rfl rfl ?_
             rw [if_neg (by omega)] at hx
             simp only [Prod.mk.injEq] at hx
             obtain ⟨rfl, rfl⟩ := hx
             exact ⟨rfl, hR, hu1.trans_same hu2⟩
          · try (exfalso; first | (simp at hb2_12; done) | (simp only [decide_eq_true_eq, decide_eq_false_iff_not, Bool.not_eq_true', Bool.not_eq_false', Bool.not_eq_true, Bool.not_eq_false] at hb2_12; omega) | omega)
            all_goals
             try simp only [decide_eq_true_eq, decide_eq_false_iff_not, Bool.not_eq_true', Bool.not_eq_false', Bool.not_eq_true, Bool.not_eq_false, Option.isNone_none, Option.isNone_some, Option.isSome_none, Option.isSome_some, ne_eq, Decidable.not_not] at hb2_12
             refine WL.val rfl rfl rfl rfl (r_move rfl (ev_t rfl)) ?_
             refine WL.val rfl rfl rfl rfl (r_move rfl (ev_t rfl)) ?_
             first | refine WL.val rfl rfl rfl rfl (r_convN rfl (ev_t rfl) some_3 int_29 (by simp only [inK]; omega)) ?_ | refine WL.val rfl rfl rfl rfl (r_conv rfl (ev_t rfl) some_3 int_29) ?_
             refine WL.val rfl rfl rfl rfl (r_gtr rfl (ev_t rfl) (ev_t rfl)) ?_
             refine WL.val rfl rfl rfl rfl (r_pickF rfl (ev_t rfl) (ev_t rfl)) ?_
             refine WL.nil ?_
             refine WX.keep [(0, _), (5, _), (25, _)] ⟨rfl, rfl, rfl, trivial⟩ ?_
             refine WX.next ?_
             refine WC.cond rfl (ev_t rfl) (fun hc2 => ?_) (fun hc2 => ?_)
             · try (exfalso; first | (simp at hc2; done) | (simp only [decide_eq_true_eq, decide_eq_false_iff_not, Bool.not_eq_true', Bool.not_eq_false', Bool.not_eq_true, Bool.not_eq_false] at hc2; omega) | omega)
               all_goals
                try simp only [decide_eq_true_eq, decide_eq_false_iff_not, Bool.not_eq_true', Bool.not_eq_false', Bool.not_eq_true, Bool.not_eq_false, Option.isNone_none, Option.isNone_some, Option.isSome_none, Option.isSome_some, ne_eq, Decidable.not_not] at hc2
                refine WC.seq ?_
                refine WC.region ?_
                refine WL.val rfl rfl rfl rfl (r_move rfl (ev_t rfl)) ?_
                refine WL.cons (SO.call (fail_blk hb F) rfl body_51 ⟨(ev_t rfl), trivial⟩ rfl rfl rfl rfl ?_)
                rintro v2 w3 ⟨hR, hu3⟩
                refine WL.nil ?_
                refine WX.keep [] trivial ?_
                refine WX.next ?_
                refine WC.seq ?_
                refine WC.region ?_
                refine WL.val rfl rfl rfl rfl (r_assign rfl ev_c) ?_
                refine WL.nil ?_
                refine WX.keep [(4, _)] ⟨rfl, trivial⟩ ?_
                refine WX.next ?_
                refine WC.ret ?_
                refine WX.thenRet ?_
                refine WX.retE1 rfl rfl ?_
                rw [if_neg (by omega)] at hx
                simp only [Prod.mk.injEq] at hx
                obtain ⟨rfl, rfl⟩ := hx
                exact ⟨rfl, hR, hu1.trans_same hu3⟩
             · try (exfalso; first | (simp at hc2; done) | (simp only [decide_eq_true_eq, decide_eq_false_iff_not, Bool.not_eq_true', Bool.not_eq_false', Bool.not_eq_true, Bool.not_eq_false] at hc2; omega) | omega)
               all_goals
                try simp only [decide_eq_true_eq, decide_eq_false_iff_not, Bool.not_eq_true', Bool.not_eq_false', Bool.not_eq_true, Bool.not_eq_false, Option.isNone_none, Option.isNone_some, Option.isSome_none, Option.isSome_some, ne_eq, Decidable.not_not] at hc2
                refine WC.skip ?_
                refine WX.next ?_
                refine WC.seq ?_
                refine WC.region ?_
                refine WL.val rfl rfl rfl rfl (r_move rfl (ev_t rfl)) ?_
                first | refine WL.val rfl rfl rfl rfl (r_convN rfl (ev_t rfl) some_29 int_3 (by simp only [inK]; omega)) ?_ | refine WL.val rfl rfl rfl rfl (r_conv rfl (ev_t rfl) some_29 int_3) ?_
                refine WL.val rfl rfl rfl rfl (r_assign rfl (ev_t rfl)) ?_
                refine WL.nil ?_
                refine WX.keep [(4, _)] ⟨rfl, trivial⟩ ?_
                refine WX.next ?_
                refine WC.ret ?_
                refine WX.retE1 rfl rfl ?_
                rw [if_pos (by omega)] at hx
                simp only [Prod.mk.injEq] at hx
                obtain ⟨rfl, rfl⟩ := hx
                exact ⟨rfl, ⟨A, c, hb, hr⟩, hu1⟩
end Go.Proofs.Ytnjfhmlfpfkllaa

/-
  octet.Reader: Int, Bytes, Text; a nil reader; NewReader.
-/
namespace Go.Proofs.Ytnjfhmlfpfkllaa
open Go
set_option linter.unusedSimpArgs false
set_option linter.unusedVariables false

theorem int_ok {w : World} {F : Nat → Prop} {g : Nat} {s s' : Option (List UInt8)} {x : Nat} (h : IsR w F g s) (hFg : ¬ F g) (hx : uintR s = (x, s')) :
    Ret Try.prog 46 #[.pointer (some ⟨g, 0, none⟩)] w fun v w' => v = .int .i64 (zag x) ∧ IsR w' F g s' ∧ Upd (At g) w w' := by
  have hlt := uintR_lt s
  rw [hx] at hlt
  simp only at hlt
  refine enterRet (vs := [_]) (N := 14) Try.func46 rfl rfl rfl ?_
  refine WC.keep [(0, _)] ⟨rfl, trivial⟩ ?_
  refine WC.seq ?_
  refine WC.region ?_
  refine WL.val rfl rfl rfl rfl (r_assign rfl ev_c) ?_
  refine WL.nil ?_
  refine WX.keep [(0, _)] ⟨rfl, trivial⟩ ?_
  refine WX.next ?_
  refine WC.seq ?_
  refine WC.region ?_
  refine WL.val rfl rfl rfl rfl (r_move rfl (ev_t rfl)) ?_
  refine WL.cons (SO.call (ruint_ok h hFg hx) rfl body_45 ⟨(ev_t rfl), trivial⟩ rfl rfl rfl rfl ?_)
  rintro v1 w1 ⟨rfl, hR, hu1⟩
  refine WL.val rfl rfl rfl rfl (r_assign rfl (ev_t rfl)) ?_
  refine WL.nil ?_
  refine WX.keep [(3, _)] ⟨rfl, trivial⟩ ?_
  refine WX.next ?_
  refine WC.seq ?_
  refine WC.region ?_
  refine WL.val rfl rfl rfl rfl (r_move rfl (ev_t rfl)) ?_
  refine WL.val rfl rfl rfl rfl (r_shr rfl (ev_t rfl) ev_c (by omega) (by simp only [IntKind.bits]; omega)) ?_
  first | refine WL.val rfl rfl rfl rfl (r_convN rfl (ev_t rfl) some_29 int_2 (by simp only [inK]; omega)) ?_ | refine WL.val rfl rfl rfl rfl (r_conv rfl (ev_t rfl) some_29 int_2) ?_
  refine WL.val rfl rfl rfl rfl (r_move rfl (ev_t rfl)) ?_
  refine WL.val rfl rfl rfl rfl (r_and rfl (ev_t rfl) ev_c) ?_
  first | refine WL.val rfl rfl rfl rfl (r_convN rfl (ev_t rfl) some_29 int_2 (by simp only [inK]; omega)) ?_ | refine WL.val rfl rfl rfl rfl (r_conv rfl (ev_t rfl) some_29 int_2) ?_
  first | refine WL.val rfl rfl rfl rfl (r_negN rfl (ev_t rfl) (by simp only [inK]; omega)) ?_ | refine WL.val rfl rfl rfl rfl (r_neg rfl (ev_t rfl)) ?_
  refine WL.val rfl rfl rfl rfl (r_xor rfl (ev_t rfl) (ev_t rfl)) ?_
  refine WL.val rfl rfl rfl rfl (r_assign rfl (ev_t rfl)) ?_
  refine WL.nil ?_
  refine WX.keep [(2, _)] ⟨rfl, trivial⟩ ?_
  refine WX.next ?_
  refine WC.ret ?_
  refine WX.retE1 rfl rfl ?_
  exact ⟨zag_bits x hlt, hR, hu1⟩

theorem bytes_ok {w : World} {F : Nat → Prop} {g : Nat} {s s' : Option (List UInt8)} {l : List UInt8} {most : Int} (h : IsR w F g s) (hFg : ¬ F g) (hm : inK .i64 most) (hx : bytesR most s = (l, s')) :
    Ret Try.prog 47 #[.pointer (some ⟨g, 0, none⟩), .int .i64 most] w fun v w' => Own w' (New w w') 5 1 v l.length (l.map U8) ∧ IsR w' F g s' ∧ Upd (At g) w w' ∧ l.length ≤ 140737488355328 := by
  unfold bytesR at hx
  cases hu : uptoR most s with | mk y s1 =>
  rw [hu] at hx
  cases s1 with
  | none =>
    simp only [Prod.mk.injEq] at hx
    obtain ⟨rfl, rfl⟩ := hx
    refine enterRet (vs := [_, _]) (N := 46) Try.func47 rfl rfl rfl ?_
    refine WC.keep [(0, _), (1, _)] ⟨rfl, rfl, trivial⟩ ?_
    refine WC.seq ?_
    refine WC.region ?_
    refine WL.val rfl rfl rfl rfl (r_assign rfl ev_c) ?_
    refine WL.nil ?_
    refine WX.keep [(0, _), (1, _)] ⟨rfl, rfl, trivial⟩ ?_
    refine WX.next ?_
    refine WC.seq ?_
    refine WC.region ?_
    refine WL.val rfl rfl rfl rfl (r_move rfl (ev_t rfl)) ?_
    refine WL.val rfl rfl rfl rfl (r_move rfl (ev_t rfl)) ?_
    refine WL.cons (SO.call (upto_ok h hFg hm hu) rfl body_42 ⟨(ev_t rfl), (ev_t rfl), trivial⟩ rfl rfl rfl rfl ?_)
    rintro v1 w1 ⟨rfl, hR, hu1⟩
    obtain ⟨A, n, c, hb⟩ := hR
    refine WL.val rfl rfl rfl rfl (r_assign rfl (ev_t rfl)) ?_
    refine WL.nil ?_
    refine WX.keep [(0, _), (5, _)] ⟨rfl, rfl, trivial⟩ ?_
    refine WX.next ?_
    refine WC.seq ?_
    refine WC.seq ?_
    refine WC.region ?_
    refine WL.val rfl rfl rfl rfl (r_move rfl (ev_t rfl)) ?_
    refine WL.val rfl rfl rfl rfl (r_eqlPtrNil rfl (ev_t rfl) ev_c ptr_88) ?_
    refine WL.val rfl rfl rfl rfl (r_move rfl (ev_t rfl)) ?_
    refine WL.cases 12 rfl (fun hb2_2 => ?_) (fun hb2_2 => ?_)
    · exact absurd hb2_2 (by simp)
    · try (exfalso; first | (simp at hb2_2; done) | (simp only [decide_eq_true_eq, decide_eq_false_iff_not, Bool.not_eq_true', Bool.not_eq_false', Bool.not_eq_true, Bool.not_eq_false] at hb2_2; omega) | omega)
      all_goals
       try simp only [decide_eq_true_eq, decide_eq_false_iff_not, Bool.not_eq_true', Bool.not_eq_false', Bool.not_eq_true, Bool.not_eq_false, Option.isNone_none, Option.isNone_some, Option.isSome_none, Option.isSome_some, ne_eq, Decidable.not_not] at hb2_2
       refine WL.val rfl rfl rfl rfl (r_move rfl (ev_t rfl)) ?_
       refine WL.val rfl rfl rfl rfl (r_nilCheck rfl (ev_t rfl)) ?_
       first | refine WL.val rfl rfl rfl rfl (r_field0 rfl (ev_t rfl) fld_99_1) ?_ | refine WL.val rfl rfl rfl rfl (r_fieldAt rfl (ev_t rfl) fld_99_1) ?_
       refine WL.val rfl rfl rfl rfl (r_load rfl (ev_t rfl) flat_4 (Blk.cell hb rfl)) ?_
       refine WL.val rfl rfl rfl rfl (r_pickF rfl (ev_t rfl) (ev_t rfl)) ?_
       refine WL.val rfl rfl rfl rfl (r_move rfl (ev_t rfl)) ?_
       refine WL.cases 18 rfl (fun hb2_8 => ?_) (fun hb2_8 => ?_)
       · try (exfalso; first | (simp at hb2_8; done) | (simp only [decide_eq_true_eq, decide_eq_false_iff_not, Bool.not_eq_true', Bool.not_eq_false', Bool.not_eq_true, Bool.not_eq_false] at hb2_8; omega) | omega)
         all_goals
          try simp only [decide_eq_true_eq, decide_eq_false_iff_not, Bool.not_eq_true', Bool.not_eq_false', Bool.not_eq_true, Bool.not_eq_false, Option.isNone_none, Option.isNone_some, Option.isSome_none, Option.isSome_some, ne_eq, Decidable.not_not] at hb2_8
          refine WL.skip rfl rfl rfl ?_
          refine WL.skip rfl rfl rfl ?_
          refine WL.skip rfl rfl rfl ?_
          refine WL.skip rfl rfl rfl ?_
          refine WL.skip rfl rfl rfl ?_
          refine WL.skip rfl rfl rfl ?_
          refine WL.skip rfl rfl rfl ?_
          refine WL.val rfl rfl rfl rfl (r_pickT rfl (ev_t rfl) ev_c) ?_
          refine WL.nil ?_
          refine WX.keep [(0, _), (5, _), (26, _)] ⟨rfl, rfl, rfl, trivial⟩ ?_
          refine WX.next ?_
          refine WC.cond_true rfl (ev_t rfl) ?_
          refine WC.seq ?_
          refine WC.region ?_
          refine WL.val rfl rfl rfl rfl (r_move rfl (ev_t rfl)) ?_
          refine WL.cons (SO.call (fail_blk hb F) rfl body_51 ⟨(ev_t rfl), trivial⟩ rfl rfl rfl rfl ?_)
          rintro v2 w2 ⟨hR, hu2⟩
          refine WL.nil ?_
          refine WX.keep [] trivial ?_
          refine WX.next ?_
          refine WC.seq ?_
          refine WC.region ?_
          refine WL.val rfl rfl rfl rfl (r_assign rfl ev_c) ?_
          refine WL.nil ?_
          refine WX.keep [(4, _)] ⟨rfl, trivial⟩ ?_
          refine WX.next ?_
          refine WC.ret ?_
          refine WX.thenRet ?_
          refine WX.retE1 rfl rfl ?_
          exact ⟨Own.nil _ _ _ _, hR, hu1.trans_same hu2, by simp⟩
       · exact absurd hb2_8 (by simp)
  | some r =>
    simp only at hx
    refine enterRet (vs := [_, _]) (N := 46) Try.func47 rfl rfl rfl ?_
    refine WC.keep [(0, _), (1, _)] ⟨rfl, rfl, trivial⟩ ?_
    refine WC.seq ?_
    refine WC.region ?_
    refine WL.val rfl rfl rfl rfl (r_assign rfl ev_c) ?_
    refine WL.nil ?_
    refine WX.keep [(0, _), (1, _)] ⟨rfl, rfl, trivial⟩ ?_
    refine WX.next ?_
    refine WC.seq ?_
    refine WC.region ?_
    refine WL.val rfl rfl rfl rfl (r_move rfl (ev_t rfl)) ?_
    refine WL.val rfl rfl rfl rfl (r_move rfl (ev_t rfl)) ?_
    refine WL.cons (SO.call (upto_ok h hFg hm hu) rfl body_42 ⟨(ev_t rfl), (ev_t rfl), trivial⟩ rfl rfl rfl rfl ?_)
    rintro v1 w1 ⟨rfl, hR, hu1⟩
    obtain ⟨A, c, hb, hr⟩ := hR
    have hcap := hr.cap
    have hgl := hb.lt
    have hle := hr.le
    refine WL.val rfl rfl rfl rfl (r_assign rfl (ev_t rfl)) ?_
    refine WL.nil ?_
    refine WX.keep [(0, _), (5, _)] ⟨rfl, rfl, trivial⟩ ?_
    refine WX.next ?_
    refine WC.seq ?_
    refine WC.seq ?_
    refine WC.region ?_
    refine WL.val rfl rfl rfl rfl (r_move rfl (ev_t rfl)) ?_
    refine WL.val rfl rfl rfl rfl (r_eqlPtrNil rfl (ev_t rfl) ev_c ptr_88) ?_
    refine WL.val rfl rfl rfl rfl (r_move rfl (ev_t rfl)) ?_
    refine WL.cases 12 rfl (fun hb2_2 => ?_) (fun hb2_2 => ?_)
    · exact absurd hb2_2 (by simp)
    · try (exfalso; first | (simp at hb2_2; done) | (simp only [decide_eq_true_eq, decide_eq_false_iff_not, Bool.not_eq_true', Bool.not_eq_false', Bool.not_eq_true, Bool.not_eq_false] at hb2_2; omega) | omega)
      all_goals
       try simp only [decide_eq_true_eq, decide_eq_false_iff_not, Bool.not_eq_true', Bool.not_eq_false', Bool.not_eq_true, Bool.not_eq_false, Option.isNone_none, Option.isNone_some, Option.isSome_none, Option.isSome_some, ne_eq, Decidable.not_not] at hb2_2
       refine WL.val rfl rfl rfl rfl (r_move rfl (ev_t rfl)) ?_
       refine WL.val rfl rfl rfl rfl (r_nilCheck rfl (ev_t rfl)) ?_
       first | refine WL.val rfl rfl rfl rfl (r_field0 rfl (ev_t rfl) fld_99_1) ?_ | refine WL.val rfl rfl rfl rfl (r_fieldAt rfl (ev_t rfl) fld_99_1) ?_
       refine WL.val rfl rfl rfl rfl (r_load rfl (ev_t rfl) flat_4 (Blk.cell hb rfl)) ?_
       refine WL.val rfl rfl rfl rfl (r_pickF rfl (ev_t rfl) (ev_t rfl)) ?_
       refine WL.val rfl rfl rfl rfl (r_move rfl (ev_t rfl)) ?_
       refine WL.cases 18 rfl (fun hb2_8 => ?_) (fun hb2_8 => ?_)
       · exact absurd hb2_8 (by simp)
       · try (exfalso; first | (simp at hb2_8; done) | (simp only [decide_eq_true_eq, decide_eq_false_iff_not, Bool.not_eq_true', Bool.not_eq_false', Bool.not_eq_true, Bool.not_eq_false] at hb2_8; omega) | omega)
         all_goals
          try simp only [decide_eq_true_eq, decide_eq_false_iff_not, Bool.not_eq_true', Bool.not_eq_false', Bool.not_eq_true, Bool.not_eq_false, Option.isNone_none, Option.isNone_some, Option.isSome_none, Option.isSome_some, ne_eq, Decidable.not_not] at hb2_8
          refine WL.val rfl rfl rfl rfl (r_move rfl (ev_t rfl)) ?_
          refine WL.val rfl rfl rfl rfl (r_move rfl (ev_t rfl)) ?_
          refine WL.val rfl rfl rfl rfl (r_nilCheck rfl (ev_t rfl)) ?_
          first | refine WL.val rfl rfl rfl rfl (r_field0 rfl (ev_t rfl) fld_99_0) ?_ | refine WL.val rfl rfl rfl rfl (r_fieldAt rfl (ev_t rfl) fld_99_0) ?_
          refine WL.val rfl rfl rfl rfl (r_load rfl (ev_t rfl) flat_22 (Blk.cell hb rfl)) ?_
          refine WL.val rfl rfl rfl rfl (r_lenSlice (ts := #[]) rfl (ev_t rfl) elem_22) ?_
          refine WL.val rfl rfl rfl rfl (r_gtr rfl (ev_t rfl) (ev_t rfl)) ?_
          refine WL.val rfl rfl rfl rfl (r_pickF rfl (ev_t rfl) (ev_t rfl)) ?_
          refine WL.nil ?_
          refine WX.keep [(0, _), (5, _), (26, _)] ⟨rfl, rfl, rfl, trivial⟩ ?_
          refine WX.next ?_
          refine WC.cond rfl (ev_t rfl) (fun hc2 => ?_) (fun hc2 => ?_)
          · try (exfalso; first | (simp at hc2; done) | (simp only [decide_eq_true_eq, decide_eq_false_iff_not, Bool.not_eq_true', Bool.not_eq_false', Bool.not_eq_true, Bool.not_eq_false] at hc2; omega) | omega)
            all_goals
             try simp only [decide_eq_true_eq, decide_eq_false_iff_not, Bool.not_eq_true', Bool.not_eq_false', Bool.not_eq_true, Bool.not_eq_false, Option.isNone_none, Option.isNone_some, Option.isSome_none, Option.isSome_some, ne_eq, Decidable.not_not] at hc2
             refine WC.seq ?_
             refine WC.region ?_
             refine WL.val rfl rfl rfl rfl (r_move rfl (ev_t rfl)) ?_
             refine WL.cons (SO.call (fail_blk hb F) rfl body_51 ⟨(ev_t rfl), trivial⟩ rfl rfl rfl rfl ?_)
             rintro v2 w2 ⟨hR, hu2⟩
             refine WL.nil ?_
             refine WX.keep [] trivial ?_
             refine WX.next ?_
             refine WC.seq ?_
             refine WC.region ?_
             refine WL.val rfl rfl rfl rfl (r_assign rfl ev_c) ?_
             refine WL.nil ?_
             refine WX.keep [(4, _)] ⟨rfl, trivial⟩ ?_
             refine WX.next ?_
             refine WC.ret ?_
             refine WX.thenRet ?_
             refine WX.retE1 rfl rfl ?_
             rw [if_neg (by omega)] at hx
             simp only [Prod.mk.injEq] at hx
             obtain ⟨rfl, rfl⟩ := hx
             exact ⟨Own.nil _ _ _ _, hR, hu1.trans_same hu2, by simp⟩
          · try (exfalso; first | (simp at hc2; done) | (simp only [decide_eq_true_eq, decide_eq_false_iff_not, Bool.not_eq_true', Bool.not_eq_false', Bool.not_eq_true, Bool.not_eq_false] at hc2; omega) | omega)
            all_goals
             try simp only [decide_eq_true_eq, decide_eq_false_iff_not, Bool.not_eq_true', Bool.not_eq_false', Bool.not_eq_true, Bool.not_eq_false, Option.isNone_none, Option.isNone_some, Option.isSome_none, Option.isSome_some, ne_eq, Decidable.not_not] at hc2
             refine WC.skip ?_
             refine WX.next ?_
             refine WC.seq ?_
             refine WC.region ?_
             refine WL.val rfl rfl rfl rfl (r_move rfl (ev_t rfl)) ?_
             refine WL.val rfl rfl rfl rfl (r_nilCheck rfl (ev_t rfl)) ?_
             first | refine WL.val rfl rfl rfl rfl (r_field0 rfl (ev_t rfl) fld_99_0) ?_ | refine WL.val rfl rfl rfl rfl (r_fieldAt rfl (ev_t rfl) fld_99_0) ?_
             refine WL.val rfl rfl rfl rfl (r_load rfl (ev_t rfl) flat_22 (Blk.cell hb rfl)) ?_
             refine WL.val rfl rfl rfl rfl (r_move rfl (ev_t rfl)) ?_
             refine WL.val rfl rfl rfl rfl (r_slice (l := _) (h := y) rfl (ev_t rfl) elem_22 size_5 bnd_none (bnd_some (ev_t rfl) (by omega)) (by omega) (by omega) (by omega)) ?_
             refine WL.cons (SO.call (clone_ok (hr.sliceB (lo := 0) (h := y) (by omega) (by omega))) rfl body_18 ⟨(ev_t rfl), trivial⟩ rfl rfl rfl rfl ?_)
             rintro v3 w3 ⟨ho, hu3⟩
             have hs3 := hu3.size
             replace hb := hb.updA hu3
             replace hr := hr.updA hu3
             refine WL.val rfl rfl rfl rfl (r_assign rfl (ev_t rfl)) ?_
             refine WL.nil ?_
             refine WX.keep [(0, _), (5, _), (6, _)] ⟨rfl, rfl, rfl, trivial⟩ ?_
             refine WX.next ?_
             refine WC.seq ?_
             refine WC.region ?_
             refine WL.val rfl rfl rfl rfl (r_move rfl (ev_t rfl)) ?_
             refine WL.val rfl rfl rfl rfl (r_move rfl (ev_t rfl)) ?_
             refine WL.val rfl rfl rfl rfl (r_nilCheck rfl (ev_t rfl)) ?_
             first | refine WL.val rfl rfl rfl rfl (r_field0 rfl (ev_t rfl) fld_99_0) ?_ | refine WL.val rfl rfl rfl rfl (r_fieldAt rfl (ev_t rfl) fld_99_0) ?_
             refine WL.val rfl rfl rfl rfl (r_load rfl (ev_t rfl) flat_22 (Blk.cell hb rfl)) ?_
             refine WL.val rfl rfl rfl rfl (r_move rfl (ev_t rfl)) ?_
             refine WL.val rfl rfl rfl rfl (r_slice (l := y) (h := _) rfl (ev_t rfl) elem_22 size_5 (bnd_some (ev_t rfl) (by omega)) bnd_none (by omega) (by omega) (by omega)) ?_
             refine WL.val rfl rfl rfl rfl (r_nilCheck rfl (ev_t rfl)) ?_
             first | refine WL.val rfl rfl rfl rfl (r_field0 rfl (ev_t rfl) fld_99_0) ?_ | refine WL.val rfl rfl rfl rfl (r_fieldAt rfl (ev_t rfl) fld_99_0) ?_
             refine WL.cons (SO.store rfl (ev_t rfl) (ev_t rfl) size_22 hb rfl rfl rfl rfl rfl ?_)
             intro w4 hu4 hb hz4
             have hs4 := hu4.size
             replace hr := hr.updA hu4
             replace ho := ho.updA hu4
             refine WL.nil ?_
             refine WX.keep [(6, _)] ⟨rfl, trivial⟩ ?_
             refine WX.next ?_
             refine WC.seq ?_
             refine WC.region ?_
             refine WL.val rfl rfl rfl rfl (r_move rfl (ev_t rfl)) ?_
             refine WL.val rfl rfl rfl rfl (r_assign rfl (ev_t rfl)) ?_
             refine WL.nil ?_
             refine WX.keep [(4, _)] ⟨rfl, trivial⟩ ?_
             refine WX.next ?_
             refine WC.ret ?_
             refine WX.retE1 rfl rfl ?_
             rw [if_pos (by omega)] at hx
             simp only [Prod.mk.injEq] at hx
             obtain ⟨rfl, rfl⟩ := hx
             have e1 : (List.take y r).length = y := by rw [List.length_take]; omega
             have hr2 := hr.sliceB (lo := y) (h := r.length) (by omega) (Nat.le_refl _)
             rw [List.take_of_length_le (by rw [List.length_drop]; omega), ← List.length_drop] at hr2
             rw [← List.length_drop] at hb
             refine ⟨?_, ⟨_, _, hb, hr2⟩, (hu1.trans_same hu3.no).trans_same hu4, by omega⟩
             rw [e1]
             simpa using ho.mono (fun k hk => ⟨by have := hk.1; have := hu1.size; omega, by have := hk.2; omega⟩)

theorem end_nil (w : World) : Ret Try.prog 43 #[.pointer none] w fun v w' => v = .bool false ∧ w' = w := by
  refine enterRet (vs := [_]) (N := 20) Try.func43 rfl rfl rfl ?_
  refine WC.keep [(0, _)] ⟨rfl, trivial⟩ ?_
  refine WC.seq ?_
  refine WC.region ?_
  refine WL.val rfl rfl rfl rfl (r_assign rfl ev_c) ?_
  refine WL.nil ?_
  refine WX.keep [(0, _)] ⟨rfl, trivial⟩ ?_
  refine WX.next ?_
  refine WC.seq ?_
  refine WC.region ?_
  refine WL.val rfl rfl rfl rfl (r_move rfl (ev_t rfl)) ?_
  refine WL.val rfl rfl rfl rfl (r_neqPtrNil rfl (ev_t rfl) ev_c ptr_88) ?_
  refine WL.val rfl rfl rfl rfl (r_move rfl (ev_t rfl)) ?_
  refine WL.cases 5 rfl (fun hb1_2 => ?_) (fun hb1_2 => ?_)
  · exact absurd hb1_2 (by simp)
  · try (exfalso; first | (simp at hb1_2; done) | (simp only [decide_eq_true_eq, decide_eq_false_iff_not, Bool.not_eq_true', Bool.not_eq_false', Bool.not_eq_true, Bool.not_eq_false] at hb1_2; omega) | omega)
    all_goals
     try simp only [decide_eq_true_eq, decide_eq_false_iff_not, Bool.not_eq_true', Bool.not_eq_false', Bool.not_eq_true, Bool.not_eq_false, Option.isNone_none, Option.isNone_some, Option.isSome_none, Option.isSome_some, ne_eq, Decidable.not_not] at hb1_2
     refine WL.skip rfl rfl rfl ?_
     refine WL.skip rfl rfl rfl ?_
     refine WL.skip rfl rfl rfl ?_
     refine WL.skip rfl rfl rfl ?_
     refine WL.skip rfl rfl rfl ?_
     refine WL.val rfl rfl rfl rfl (r_pickF rfl (ev_t rfl) ev_c) ?_
     refine WL.val rfl rfl rfl rfl (r_move rfl (ev_t rfl)) ?_
     refine WL.skip rfl rfl rfl ?_
     refine WL.skip rfl rfl rfl ?_
     refine WL.skip rfl rfl rfl ?_
     refine WL.skip rfl rfl rfl ?_
     refine WL.skip rfl rfl rfl ?_
     refine WL.skip rfl rfl rfl ?_
     refine WL.val rfl rfl rfl rfl (r_pickF rfl (ev_t rfl) ev_c) ?_
     refine WL.val rfl rfl rfl rfl (r_assign rfl (ev_t rfl)) ?_
     refine WL.nil ?_
     refine WX.keep [(2, _)] ⟨rfl, trivial⟩ ?_
     refine WX.next ?_
     refine WC.ret ?_
     refine WX.retE1 rfl rfl ?_
     exact ⟨rfl, rfl⟩
theorem upto_nil (w : World) (most : Int) : Ret Try.prog 42 #[.pointer none, .int .i64 most] w fun v w' => v = .int .i64 0 ∧ w' = w := by
  refine enterRet (vs := [_, _]) (N := 30) Try.func42 rfl rfl rfl ?_
  refine WC.keep [(0, _), (1, _)] ⟨rfl, rfl, trivial⟩ ?_
  refine WC.seq ?_
  refine WC.region ?_
  refine WL.val rfl rfl rfl rfl (r_assign rfl ev_c) ?_
  refine WL.nil ?_
  refine WX.keep [(0, _), (1, _)] ⟨rfl, rfl, trivial⟩ ?_
  refine WX.next ?_
  refine WC.seq ?_
  refine WC.region ?_
  refine WL.val rfl rfl rfl rfl (r_move rfl (ev_t rfl)) ?_
  refine WL.cons (SO.call (ruint_nil _) rfl body_45 ⟨(ev_t rfl), trivial⟩ rfl rfl rfl rfl ?_)
  rintro v1 w1 ⟨rfl, rfl⟩
  refine WL.val rfl rfl rfl rfl (r_assign rfl (ev_t rfl)) ?_
  refine WL.nil ?_
  refine WX.keep [(0, _), (1, _), (5, _)] ⟨rfl, rfl, rfl, trivial⟩ ?_
  refine WX.next ?_
  refine WC.seq ?_
  refine WC.seq ?_
  refine WC.region ?_
  refine WL.val rfl rfl rfl rfl (r_move rfl (ev_t rfl)) ?_
  refine WL.val rfl rfl rfl rfl (r_eqlPtrNil rfl (ev_t rfl) ev_c ptr_88) ?_
  refine WL.val rfl rfl rfl rfl (r_move rfl (ev_t rfl)) ?_
  refine WL.cases 10 rfl (fun hb2_2 => ?_) (fun hb2_2 => ?_)
  · try (exfalso; first | (simp at hb2_2; done) | (simp only [decide_eq_true_eq, decide_eq_false_iff_not, Bool.not_eq_true', Bool.not_eq_false', Bool.not_eq_true, Bool.not_eq_false] at hb2_2; omega) | omega)
    all_goals
     try simp only [decide_eq_true_eq, decide_eq_false_iff_not, Bool.not_eq_true', Bool.not_eq_false', Bool.not_eq_true, Bool.not_eq_false, Option.isNone_none, Option.isNone_some, Option.isSome_none, Option.isSome_some, ne_eq, Decidable.not_not] at hb2_2
     refine WL.skip rfl rfl rfl ?_
     refine WL.skip rfl rfl rfl ?_
     refine WL.skip rfl rfl rfl ?_
     refine WL.skip rfl rfl rfl ?_
     refine WL.val rfl rfl rfl rfl (r_pickT rfl (ev_t rfl) ev_c) ?_
     refine WL.val rfl rfl rfl rfl (r_move rfl (ev_t rfl)) ?_
     refine WL.skip rfl rfl rfl ?_
     refine WL.skip rfl rfl rfl ?_
     refine WL.val rfl rfl rfl rfl (r_pickT rfl (ev_t rfl) ev_c) ?_
     refine WL.val rfl rfl rfl rfl (r_move rfl (ev_t rfl)) ?_
     refine WL.skip rfl rfl rfl ?_
     refine WL.skip rfl rfl rfl ?_
     refine WL.skip rfl rfl rfl ?_
     refine WL.skip rfl rfl rfl ?_
     refine WL.val rfl rfl rfl rfl (r_pickT rfl (ev_t rfl) ev_c) ?_
     refine WL.nil ?_
     refine WX.keep [(0, _), (5, _), (25, _)] ⟨rfl, rfl, rfl, trivial⟩ ?_
     refine WX.next ?_
     refine WC.cond_true rfl (ev_t rfl) ?_
     refine WC.seq ?_
     refine WC.region ?_
     refine WL.val rfl rfl rfl rfl (r_move rfl (ev_t rfl)) ?_
     refine WL.cons (SO.call (fail_nil _) rfl body_51 ⟨(ev_t rfl), trivial⟩ rfl rfl rfl rfl ?_)
     rintro v2 w2 rfl
     refine WL.nil ?_
     refine WX.keep [] trivial ?_
     refine WX.next ?_
     refine WC.seq ?_
     refine WC.region ?_
     refine WL.val rfl rfl rfl rfl (r_assign rfl ev_c) ?_
     refine WL.nil ?_
     refine WX.keep [(4, _)] ⟨rfl, trivial⟩ ?_
     refine WX.next ?_
     refine WC.ret ?_
     refine WX.thenRet ?_
     refine WX.retE1 rfl rfl ?_
     exact ⟨rfl, rfl⟩
  · exact absurd hb2_2 (by simp)
theorem bytes_nil (w : World) (most : Int) : Ret Try.prog 47 #[.pointer none, .int .i64 most] w fun v w' => v = .slice none 0 0 ∧ w' = w := by
  refine enterRet (vs := [_, _]) (N := 46) Try.func47 rfl rfl rfl ?_
  refine WC.keep [(0, _), (1, _)] ⟨rfl, rfl, trivial⟩ ?_
  refine WC.seq ?_
  refine WC.region ?_
  refine WL.val rfl rfl rfl rfl (r_assign rfl ev_c) ?_
  refine WL.nil ?_
  refine WX.keep [(0, _), (1, _)] ⟨rfl, rfl, trivial⟩ ?_
  refine WX.next ?_
  refine WC.seq ?_
  refine WC.region ?_
  refine WL.val rfl rfl rfl rfl (r_move rfl (ev_t rfl)) ?_
  refine WL.val rfl rfl rfl rfl (r_move rfl (ev_t rfl)) ?_
  refine WL.cons (SO.call (upto_nil _ _) rfl body_42 ⟨(ev_t rfl), (ev_t rfl), trivial⟩ rfl rfl rfl rfl ?_)
  rintro v1 w1 ⟨rfl, rfl⟩
  refine WL.val rfl rfl rfl rfl (r_assign rfl (ev_t rfl)) ?_
  refine WL.nil ?_
  refine WX.keep [(0, _), (5, _)] ⟨rfl, rfl, trivial⟩ ?_
  refine WX.next ?_
  refine WC.seq ?_
  refine WC.seq ?_
  refine WC.region ?_
  refine WL.val rfl rfl rfl rfl (r_move rfl (ev_t rfl)) ?_
  refine WL.val rfl rfl rfl rfl (r_eqlPtrNil rfl (ev_t rfl) ev_c ptr_88) ?_
  refine WL.val rfl rfl rfl rfl (r_move rfl (ev_t rfl)) ?_
  refine WL.cases 12 rfl (fun hb2_2 => ?_) (fun hb2_2 => ?_)
  · try (exfalso; first | (simp at hb2_2; done) | (simp only [decide_eq_true_eq, decide_eq_false_iff_not, Bool.not_eq_true', Bool.not_eq_false', Bool.not_eq_true, Bool.not_eq_false] at hb2_2; omega) | omega)
    all_goals
     try simp only [decide_eq_true_eq, decide_eq_false_iff_not, Bool.not_eq_true', Bool.not_eq_false', Bool.not_eq_true, Bool.not_eq_false, Option.isNone_none, Option.isNone_some, Option.isSome_none, Option.isSome_some, ne_eq, Decidable.not_not] at hb2_2
     refine WL.skip rfl rfl rfl ?_
     refine WL.skip rfl rfl rfl ?_
     refine WL.skip rfl rfl rfl ?_
     refine WL.skip rfl rfl rfl ?_
     refine WL.val rfl rfl rfl rfl (r_pickT rfl (ev_t rfl) ev_c) ?_
     refine WL.val rfl rfl rfl rfl (r_move rfl (ev_t rfl)) ?_
     refine WL.skip rfl rfl rfl ?_
     refine WL.skip rfl rfl rfl ?_
     refine WL.skip rfl rfl rfl ?_
     refine WL.skip rfl rfl rfl ?_
     refine WL.skip rfl rfl rfl ?_
     refine WL.skip rfl rfl rfl ?_
     refine WL.skip rfl rfl rfl ?_
     refine WL.val rfl rfl rfl rfl (r_pickT rfl (ev_t rfl) ev_c) ?_
     refine WL.nil ?_
     refine WX.keep [(0, _), (5, _), (26, _)] ⟨rfl, rfl, rfl, trivial⟩ ?_
     refine WX.next ?_
     refine WC.cond_true rfl (ev_t rfl) ?_
     refine WC.seq ?_
     refine WC.region ?_
     refine WL.val rfl rfl rfl rfl (r_move rfl (ev_t rfl)) ?_
     refine WL.cons (SO.call (fail_nil _) rfl body_51 ⟨(ev_t rfl), trivial⟩ rfl rfl rfl rfl ?_)
     rintro v2 w2 rfl
     refine WL.nil ?_
     refine WX.keep [] trivial ?_
     refine WX.next ?_
     refine WC.seq ?_
     refine WC.region ?_
     refine WL.val rfl rfl rfl rfl (r_assign rfl ev_c) ?_
     refine WL.nil ?_
     refine WX.keep [(4, _)] ⟨rfl, trivial⟩ ?_
     refine WX.next ?_
     refine WC.ret ?_
     refine WX.thenRet ?_
     refine WX.retE1 rfl rfl ?_
     exact ⟨rfl, rfl⟩
  · exact absurd hb2_2 (by simp)
theorem newReader_ok {w : World} {F : Nat → Prop} {v : Value} {n : Nat} {l : List UInt8} (hr : Rd w F v n 1 (l.map U8)) :
    Ret Try.prog 41 #[v] w fun v' w' => v' = .pointer (some ⟨w.heap.size, 0, none⟩) ∧ IsR w' F w.heap.size (some l) ∧ Upd No w w' := by
  obtain ⟨A, c, rfl, hle⟩ := hr.slice_form
  obtain rfl : l.length = n := hr.lenB
  refine enterRet (vs := [_]) (N := 6) Try.func41 rfl rfl rfl ?_
  refine WC.keep [(0, _)] ⟨rfl, trivial⟩ ?_
  refine WC.seq ?_
  refine WC.region ?_
  refine WL.val rfl rfl rfl rfl (r_assign rfl ev_c) ?_
  refine WL.nil ?_
  refine WX.keep [(0, _)] ⟨rfl, trivial⟩ ?_
  refine WX.next ?_
  refine WC.seq ?_
  refine WC.region ?_
  refine WL.val rfl rfl rfl rfl (r_move rfl (ev_t rfl)) ?_
  refine WL.val rfl rfl rfl rfl (r_build (cs := #[_, _]) (vs := [(0, _)]) rfl ⟨⟨rfl, (ev_t rfl)⟩, trivial⟩ plc_99 zero_99 rfl) ?_
  refine WL.cons (SO.alloc rfl rfl rfl rfl (r_boxAgg rfl (ev_t rfl)) ?_)
  intro w1 hu1 hB1 hz1
  have hs1 := hu1.size
  replace hr := hr.updA hu1
  refine WL.val rfl rfl rfl rfl (r_assign rfl (ev_t rfl)) ?_
  refine WL.nil ?_
  refine WX.keep [(2, _)] ⟨rfl, trivial⟩ ?_
  refine WX.next ?_
  refine WC.ret ?_
  refine WX.retE1 rfl rfl ?_
  exact ⟨rfl, ⟨A, c, hB1, hr⟩, hu1⟩
end Go.Proofs.Ytnjfhmlfpfkllaa

/-
  octet.Writer: Uint.
-/
namespace Go.Proofs.Ytnjfhmlfpfkllaa
open Go
set_option linter.unusedSimpArgs false
set_option linter.unusedVariables false

/-- a writer at block g that has laid l; its blocks are of M -/
def IsW (w : World) (M : Nat → Prop) (g : Nat) (l : List UInt8) : Prop :=
  ∃ v F, Blk w g #[v] 84 ∧ Own w F 5 1 v l.length (l.map U8) ∧ ¬ F g ∧ M g ∧ ∀ k, F k → M k

theorem IsW.upd {w w' : World} {M S : Nat → Prop} {g : Nat} {l : List UInt8} (h : IsW w M g l) (hu : Upd S w w') (hM : ∀ k, M k → k < w.heap.size → ¬ S k) : IsW w' M g l := by
  obtain ⟨v, F, hb, ho, hn, hg, hF⟩ := h
  exact ⟨v, F, hb.upd hu (hM g hg hb.lt), ho.upd hu (fun k hk hl => hM k (hF k hk) hl), hn, hg, hF⟩
theorem IsW.lt {w : World} {M : Nat → Prop} {g : Nat} {l : List UInt8} (h : IsW w M g l) : g < w.heap.size := by
  obtain ⟨v, F, hb, _⟩ := h
  exact hb.lt
theorem IsW.mono {w : World} {M M' : Nat → Prop} {g : Nat} {l : List UInt8} (h : IsW w M g l) (hM : ∀ k, M k → M' k) : IsW w M' g l := by
  obtain ⟨v, F, hb, ho, hn, hg, hF⟩ := h
  exact ⟨v, F, hb, ho, hn, hM g hg, fun k hk => hM k (hF k hk)⟩
theorem IsW.of {w : World} {M : Nat → Prop} {g : Nat} (hb : Blk w g #[.slice none 0 0] 84) (hg : M g) : IsW w M g [] :=
  ⟨_, fun _ => False, hb, Own.nil _ _ _ _, fun h => h, hg, fun _ h => h.elim⟩
theorem Grow.two {M S S' : Nat → Prop} {w w1 w2 : World} (h : Upd S w w1) (h' : Upd S' w1 w2) (k : Nat) (hk : Grow (Grow M w w1) w1 w2 k) : Grow M w w2 k := Grow.trans h.size h'.size hk
theorem Upd.two {M : Nat → Prop} {w w1 w2 : World} (h : Upd M w w1) (h' : Upd (Grow M w w1) w1 w2) : Upd M w w2 :=
  h.trans h' fun k hk hG => by
    rcases hG with hG | hG
    · exact hG
    · omega

/-- more bytes: an append, a store -/
theorem IsW.put {w w1 w2 w3 : World} {F M : Nat → Prop} {g n : Nat} {l m : List UInt8} {v' : Value} {xs : List Value} {cs : Array Value} (hg : g < w.heap.size) (hFg : ¬ F g) (hMg : M g) (hFM : ∀ k, F k → M k) (hu1 : Upd No w w1) (hx : xs = m.map U8)
    (ho : Own w3 (Grow F w1 w2) 5 1 v' n (l.map U8 ++ xs)) (hn : n = l.length + m.length) (hu2 : Upd F w1 w2) (hu3 : Upd (At g) w2 w3) (hb : Blk w3 g (cs.setIfInBounds 0 v') 84) (hcs : cs.size = 1) :
    IsW w3 (Grow M w w3) g (l ++ m) ∧ Upd M w w3 := by
  have h1 := hu1.size
  have h2 := hu2.size
  have h3 := hu3.size
  refine ⟨⟨v', Grow F w1 w2, ?_, ?_, Grow.old (by omega) hFg, .inl hMg, fun k hk => ?_⟩, ?_⟩
  · have : cs.setIfInBounds 0 v' = #[v'] := by
      obtain ⟨l⟩ := cs
      match l, hcs with
      | [a], _ => rfl
    rw [← this]; exact hb
  · subst hx hn
    simpa using ho
  · rcases hk with hk | hk
    · exact .inl (hFM k hk)
    · exact .inr ⟨by omega, by omega⟩
  · refine (hu1.no.trans_same (hu2.mono fun k _ hk => hFM k hk)).trans_same (hu3.mono fun k _ hk => ?_)
    simp only [At] at hk
    subst hk
    exact hMg

theorem wuint_ok {w : World} {M : Nat → Prop} {g n : Nat} {l : List UInt8} (h : IsW w M g l) (hn : n < 18446744073709551616) (hl : l.length ≤ 140737488355000) :
    Ret Try.prog 29 #[.pointer (some ⟨g, 0, none⟩), .int .u64 (n : Int)] w fun v w' =>
      v = .pointer (some ⟨g, 0, none⟩) ∧ IsW w' (Grow M w w') g (l ++ encU n) ∧ Upd M w w' := by
  have hgl := h.lt
  obtain ⟨v, F, hb, ho, hFg, hMg, hFM⟩ := h
  have hbl : blen n ≤ 8 := blen_le (by simpa using hn)
  have key := fun i => lt_blen i n
  refine enterRet (vs := [_, _]) (N := 49) Try.func29 rfl rfl rfl ?_
  refine WC.keep [(0, _), (1, _)] ⟨rfl, rfl, trivial⟩ ?_
  refine WC.seq ?_
  refine WC.region ?_
  refine WL.val rfl rfl rfl rfl (r_assign rfl ev_c) ?_
  refine WL.nil ?_
  refine WX.keep [(0, _), (1, _)] ⟨rfl, rfl, trivial⟩ ?_
  refine WX.next ?_
  refine WC.seq ?_
  refine WC.region ?_
  refine WL.val rfl rfl rfl rfl (r_assign rfl ev_c) ?_
  refine WL.nil ?_
  refine WX.keep [(0, _), (1, _), (5, _)] ⟨rfl, rfl, rfl, trivial⟩ ?_
  refine WX.next ?_
  refine WC.seq ?_
  refine WC.block ?_
  -- loop 1: live [0, 1, 5]
  refine WC.keep [(0, _), (1, _), (5, _)] ⟨rfl, rfl, rfl, trivial⟩ ?_
  refine WC.loop (fun m E w' => ∃ i : Nat, i ≤ blen n ∧ m = blen n - i ∧ w = w' ∧ E = [(0, .pointer (some ⟨g, 0, none⟩)), (1, .int .u64 (n : Int)), (5, .int .i64 (i : Int))]) (blen n) ?_ ?_
  · exact ⟨0, by omega, by omega, rfl, rfl⟩
  · rintro m E w' ⟨i, hi, rfl, rfl, rfl⟩
    have hki := key i
    refine WC.seq ?_
    refine WC.seq ?_
    refine WC.region ?_
    refine WL.val rfl rfl rfl rfl (r_move rfl (ev_t rfl)) ?_
    refine WL.val rfl rfl rfl rfl (r_move rfl (ev_t rfl)) ?_
    first | refine WL.val rfl rfl rfl rfl (r_mulN rfl ev_c (ev_t rfl) (by simp only [inK]; omega)) ?_ | refine WL.val rfl rfl rfl rfl (r_mul rfl ev_c (ev_t rfl)) ?_
    refine WL.val rfl rfl rfl rfl (r_shr rfl (ev_t rfl) (ev_t rfl) (by omega) (by simp only [IntKind.bits]; omega)) ?_
    refine WL.val rfl rfl rfl rfl (r_gtr rfl (ev_t rfl) ev_c) ?_
    refine WL.val rfl rfl rfl rfl (r_move rfl (ev_t rfl)) ?_
    refine WL.cases 11 rfl (fun hb2_5 => ?_) (fun hb2_5 => ?_)
    · try (exfalso; first | (simp at hb2_5; done) | (simp only [decide_eq_true_eq, decide_eq_false_iff_not, Bool.not_eq_true', Bool.not_eq_false', Bool.not_eq_true, Bool.not_eq_false] at hb2_5; omega) | omega)
      all_goals
       try simp only [decide_eq_true_eq, decide_eq_false_iff_not, Bool.not_eq_true', Bool.not_eq_false', Bool.not_eq_true, Bool.not_eq_false, Option.isNone_none, Option.isNone_some, Option.isSome_none, Option.isSome_some, ne_eq, Decidable.not_not] at hb2_5
       rw [shr_byte] at hb2_5
       refine WL.val rfl rfl rfl rfl (r_move rfl (ev_t rfl)) ?_
       refine WL.val rfl rfl rfl rfl (r_lss rfl (ev_t rfl) ev_c) ?_
       refine WL.val rfl rfl rfl rfl (r_pickT rfl (ev_t rfl) (ev_t rfl)) ?_
       refine WL.nil ?_
       refine WX.keep [(0, _), (1, _), (5, _), (14, _)] ⟨rfl, rfl, rfl, rfl, trivial⟩ ?_
       refine WX.next ?_
       refine WC.cond rfl (ev_t rfl) (fun hc2 => ?_) (fun hc2 => ?_)
       · try (exfalso; first | (simp at hc2; done) | (simp only [decide_eq_true_eq, decide_eq_false_iff_not, Bool.not_eq_true', Bool.not_eq_false', Bool.not_eq_true, Bool.not_eq_false] at hc2; omega) | omega)
         all_goals
          try simp only [decide_eq_true_eq, decide_eq_false_iff_not, Bool.not_eq_true', Bool.not_eq_false', Bool.not_eq_true, Bool.not_eq_false, Option.isNone_none, Option.isNone_some, Option.isSome_none, Option.isSome_some, ne_eq, Decidable.not_not] at hc2
          refine WC.skip ?_
          refine WX.next ?_
          refine WC.block ?_
          refine WC.region ?_
          refine WL.val rfl rfl rfl rfl (r_move rfl (ev_t rfl)) ?_
          first | refine WL.val rfl rfl rfl rfl (r_addN rfl (ev_t rfl) ev_c (by simp only [inK]; omega)) ?_ | refine WL.val rfl rfl rfl rfl (r_add rfl (ev_t rfl) ev_c) ?_
          refine WL.val rfl rfl rfl rfl (r_assign rfl (ev_t rfl)) ?_
          refine WL.nil ?_
          refine WX.keep [(0, _), (1, _), (5, _)] ⟨rfl, rfl, rfl, trivial⟩ ?_
          refine WX.blockNormal ?_
          refine WX.meet [(0, _), (1, _), (5, _)] ⟨rfl, rfl, rfl, trivial⟩ ?_
          exact ⟨blen n - (i + 1), by omega, i + 1, by omega, rfl, rfl, rfl⟩
       · try simp only [decide_eq_true_eq, decide_eq_false_iff_not, Bool.not_eq_true', Bool.not_eq_false', Bool.not_eq_true, Bool.not_eq_false, Option.isNone_none, Option.isNone_some, Option.isSome_none, Option.isSome_some, ne_eq, Decidable.not_not] at hc2
         exfalso
         exact absurd (hki.2 (by exact_mod_cast hb2_5)) (by omega)
    · try (exfalso; first | (simp at hb2_5; done) | (simp only [decide_eq_true_eq, decide_eq_false_iff_not, Bool.not_eq_true', Bool.not_eq_false', Bool.not_eq_true, Bool.not_eq_false] at hb2_5; omega) | omega)
      all_goals
       try simp only [decide_eq_true_eq, decide_eq_false_iff_not, Bool.not_eq_true', Bool.not_eq_false', Bool.not_eq_true, Bool.not_eq_false, Option.isNone_none, Option.isNone_some, Option.isSome_none, Option.isSome_some, ne_eq, Decidable.not_not] at hb2_5
       rw [shr_byte] at hb2_5
       obtain rfl : i = blen n := by omega
       refine WL.skip rfl rfl rfl ?_
       refine WL.skip rfl rfl rfl ?_
       refine WL.val rfl rfl rfl rfl (r_pickF rfl (ev_t rfl) ev_c) ?_
       refine WL.nil ?_
       refine WX.keep [(0, _), (1, _), (5, _), (14, _)] ⟨rfl, rfl, rfl, rfl, trivial⟩ ?_
       refine WX.next ?_
       refine WC.cond_false rfl (ev_t rfl) ?_
       refine WC.exit ?_
       refine WX.thenExit ?_
       refine WX.thenExit ?_
       refine WX.blockHere ?_
       refine WX.next ?_
       refine WC.seq ?_
       refine WC.region ?_
       refine WL.val rfl rfl rfl rfl (r_move rfl (ev_t rfl)) ?_
       refine WL.val rfl rfl rfl rfl (r_move rfl (ev_t rfl)) ?_
       refine WL.val rfl rfl rfl rfl (r_nilCheck rfl (ev_t rfl)) ?_
       first | refine WL.val rfl rfl rfl rfl (r_field0 rfl (ev_t rfl) fld_84_0) ?_ | refine WL.val rfl rfl rfl rfl (r_fieldAt rfl (ev_t rfl) fld_84_0) ?_
       refine WL.val rfl rfl rfl rfl (r_load rfl (ev_t rfl) flat_22 (Blk.cell hb rfl)) ?_
       refine WL.val rfl rfl rfl rfl (r_move rfl (ev_t rfl)) ?_
       first | refine WL.val rfl rfl rfl rfl (r_convN rfl (ev_t rfl) some_3 int_5 (by simp only [inK]; omega)) ?_ | refine WL.val rfl rfl rfl rfl (r_conv rfl (ev_t rfl) some_3 int_5) ?_
       refine WL.cons (SO.alloc rfl rfl rfl rfl (r_buildSlice1 (vs := [_]) rfl ⟨(ev_t rfl), trivial⟩ rfl row_22 rfl rfl) ?_)
       intro w1 hu1 hB1 hz1
       have hs1 := hu1.size
       replace hb := hb.updA hu1
       replace ho := ho.updA hu1
       refine WL.cons (SO.append ho (Rd.of_blk (F := At _) (n := 1) (sz := 1) hB1 rfl rfl (by omega)) row_22 (oneCell_one rfl) (le_maxLen (by omega)) (by omega) rfl (ev_t rfl) (ev_t rfl) rfl rfl rfl rfl ?_)
       intro v2 w2 ho hu2
       have hs2 := hu2.size
       replace hb := hb.updA hu2
       obtain ⟨A2, c2, rfl, hc2⟩ := Own.form ho
       refine WL.val rfl rfl rfl rfl (r_nilCheck rfl (ev_t rfl)) ?_
       first | refine WL.val rfl rfl rfl rfl (r_field0 rfl (ev_t rfl) fld_84_0) ?_ | refine WL.val rfl rfl rfl rfl (r_fieldAt rfl (ev_t rfl) fld_84_0) ?_
       refine WL.cons (SO.store rfl (ev_t rfl) (ev_t rfl) size_22 hb rfl rfl rfl rfl rfl ?_)
       intro w3 hu3 hb hz3
       have hs3 := hu3.size
       replace ho := ho.updA hu3
       refine WL.nil ?_
       refine WX.keep [(0, _), (1, _), (5, _)] ⟨rfl, rfl, rfl, trivial⟩ ?_
       obtain ⟨hI, hU⟩ := IsW.put (m := [UInt8.ofNat (blen n)]) hgl hFg hMg hFM hu1 (by simp [U8]; omega) ho rfl hu2 hu3 hb rfl
       refine WX.next ?_
       refine WC.seq ?_
       refine WC.seq ?_
       refine WC.region ?_
       refine WL.val rfl rfl rfl rfl (r_move rfl (ev_t rfl)) ?_
       first | refine WL.val rfl rfl rfl rfl (r_subN rfl (ev_t rfl) ev_c (by simp only [inK]; omega)) ?_ | refine WL.val rfl rfl rfl rfl (r_sub rfl (ev_t rfl) ev_c) ?_
       refine WL.val rfl rfl rfl rfl (r_assign rfl (ev_t rfl)) ?_
       refine WL.nil ?_
       refine WX.keep [(0, _), (1, _), (5, _)] ⟨rfl, rfl, rfl, trivial⟩ ?_
       refine WX.next ?_
       refine WC.block ?_
       -- loop 2: live [0, 1, 5]
       refine WC.keep [(0, _), (1, _), (5, _)] ⟨rfl, rfl, rfl, trivial⟩ ?_
       refine WC.loop (fun k E w2 => k ≤ blen n ∧ E = [(0, .pointer (some ⟨g, 0, none⟩)), (1, .int .u64 (n : Int)), (5, .int .i64 ((k : Int) - 1))] ∧ Upd M w w2 ∧ ∃ acc, acc ++ beB n k = encU n ∧ IsW w2 (Grow M w w2) g (l ++ acc)) (blen n) ?_ ?_
       · exact ⟨Nat.le_refl _, rfl, hU, _, rfl, hI⟩
       · rintro k E w2 ⟨hk, rfl, hU, acc, hacc, hI⟩
         have hal := congrArg List.length hacc
         rw [List.length_append, beB_length, encU_length] at hal
         have hgl2 := hI.lt
         have hI0 := hI
         have hla : (l ++ acc).length = l.length + acc.length := List.length_append
         obtain ⟨v2, F2, hb, ho, hFg2, hMg2, hFM2⟩ := hI
         refine WC.seq ?_
         refine WC.seq ?_
         refine WC.region ?_
         refine WL.val rfl rfl rfl rfl (r_move rfl (ev_t rfl)) ?_
         refine WL.val rfl rfl rfl rfl (r_geq rfl (ev_t rfl) ev_c) ?_
         refine WL.nil ?_
         refine WX.keep [(0, _), (1, _), (5, _), (31, _)] ⟨rfl, rfl, rfl, rfl, trivial⟩ ?_
         refine WX.next ?_
         refine WC.cond rfl (ev_t rfl) (fun hc6 => ?_) (fun hc6 => ?_)
         · try (exfalso; first | (simp at hc6; done) | (simp only [decide_eq_true_eq, decide_eq_false_iff_not, Bool.not_eq_true', Bool.not_eq_false', Bool.not_eq_true, Bool.not_eq_false] at hc6; omega) | omega)
           all_goals
            try simp only [decide_eq_true_eq, decide_eq_false_iff_not, Bool.not_eq_true', Bool.not_eq_false', Bool.not_eq_true, Bool.not_eq_false, Option.isNone_none, Option.isNone_some, Option.isSome_none, Option.isSome_some, ne_eq, Decidable.not_not] at hc6
            obtain ⟨j, rfl⟩ : ∃ j, k = j + 1 := ⟨k - 1, by omega⟩
            refine WC.skip ?_
            refine WX.next ?_
            refine WC.seq ?_
            refine WC.block ?_
            refine WC.draws' (fun u0_ u1_ => Upd No u0_ u1_) (fun j => [0, 0, 0, 0, 0, 0, 0, 0, 0, 0, 1, 2, 0, 0, 2].getD j 0) (.calm 0 (.calm 1 (.calm 2 (.calm 3 (.calm 5 (.calm 6 (.calm 7 (.calm 8 (.calm 9 (.held 4 (.one 10 (.one 11 (.calm 12 (.calm 13 (.one 14 (.done)))))))))))))))) mixed (by kernel_rfl) (by repeat (first | with_reducible exact Deaf.body | with_reducible apply Deaf.then | with_reducible apply Deaf.block)) ?_
            intro w4 hu4
            have hz4 := congrArg Array.size hu4.2.2.2
            replace hu4 := Upd.of_draw hu4
            have hs4 := hu4.size
            replace hb := hb.updA hu4
            replace ho := ho.updA hu4
            have hS8 := Upd.refl No w4
            refine WN.calm _ rfl rfl rfl rfl rfl (fun _ => r_move rfl (ev_t rfl)) ?_
            refine WN.calm _ rfl rfl rfl rfl rfl (fun _ => r_move rfl (ev_t rfl)) ?_
            refine WN.calm _ rfl rfl rfl rfl rfl (fun _ => r_nilCheck rfl (ev_t rfl)) ?_
            first | refine WN.calm _ rfl rfl rfl rfl rfl (fun _ => r_field0 rfl (ev_t rfl) fld_84_0) ?_ | refine WN.calm _ rfl rfl rfl rfl rfl (fun _ => r_fieldAt rfl (ev_t rfl) fld_84_0) ?_
            refine WN.calm _ rfl rfl rfl rfl rfl (fun _ => r_move rfl (ev_t rfl)) ?_
            refine WN.calm _ rfl rfl rfl rfl rfl (fun _ => r_move rfl (ev_t rfl)) ?_
            first | refine WN.calm _ rfl rfl rfl rfl rfl (fun _ => r_mulN rfl ev_c (ev_t rfl) (by simp only [inK]; omega)) ?_ | refine WN.calm _ rfl rfl rfl rfl rfl (fun _ => r_mul rfl ev_c (ev_t rfl)) ?_
            refine WN.calm _ rfl rfl rfl rfl rfl (fun _ => r_shr rfl (ev_t rfl) (ev_t rfl) (by omega) (by simp only [IntKind.bits]; omega)) ?_
            first | refine WN.calm _ rfl rfl rfl rfl rfl (fun _ => r_convN rfl (ev_t rfl) some_29 int_5 (by simp only [inK]; omega)) ?_ | refine WN.calm _ rfl rfl rfl rfl rfl (fun _ => r_conv rfl (ev_t rfl) some_29 int_5) ?_
            refine WN.held _ rfl rfl rfl rfl rfl hS8 (fun w' hS => r_load rfl (ev_t rfl) flat_22 (Blk.cell (hb.upd hS (fun h => h)) rfl)) ?_
            refine WN.step _ rfl (SO.alloc rfl rfl rfl rfl (r_buildSlice1 (vs := [_]) rfl ⟨(ev_t rfl), trivial⟩ rfl row_22 rfl rfl) ?_)
            intro w5 hu5 hB5 hz5
            have hs5 := hu5.size
            replace hS8 := Upd.transA hS8 hu5
            replace hb := hb.updA hu5
            replace ho := ho.updA hu5
            refine ⟨hS8, ?_⟩
            refine WN.step _ rfl (SO.append ho (Rd.of_blk (F := At _) (n := 1) (sz := 1) hB5 rfl rfl (by omega)) row_22 (oneCell_one rfl) (le_maxLen (by omega)) (by omega) rfl (ev_t rfl) (ev_t rfl) rfl rfl rfl rfl ?_)
            intro v6 w6 ho hu6
            have hs6 := hu6.size
            try replace hS8 := Upd.transA hS8 hu6
            replace hb := hb.updA hu6
            refine ⟨trivial, ?_⟩
            obtain ⟨A6, c6, rfl, hc6⟩ := Own.form ho
            refine WN.calm _ rfl rfl rfl rfl rfl (fun _ => r_nilCheck rfl (ev_t rfl)) ?_
            first | refine WN.calm _ rfl rfl rfl rfl rfl (fun _ => r_field0 rfl (ev_t rfl) fld_84_0) ?_ | refine WN.calm _ rfl rfl rfl rfl rfl (fun _ => r_fieldAt rfl (ev_t rfl) fld_84_0) ?_
            refine WN.step _ rfl (SO.store rfl (ev_t rfl) (ev_t rfl) size_22 hb rfl rfl rfl rfl rfl ?_)
            intro w7 hu7 hb hz7
            have hs7 := hu7.size
            try replace hS8 := Upd.transA hS8 hu7
            replace ho := ho.updA hu7
            refine ⟨trivial, ?_⟩
            refine WN.done ?_
            refine WX.keep [(0, _), (1, _), (5, _)] ⟨rfl, rfl, rfl, trivial⟩ ?_
            have hx : [Value.int .u8 (IntKind.u8.wrap ((n : Int) / 2 ^ ((8 : Int) * (((j + 1 : Nat) : Int) - 1)).toNat))] = [byteAt n j].map U8 := by
              rw [show ((j + 1 : Nat) : Int) - 1 = (j : Int) by omega, shr_byte, wrap_u8_byte]
              rfl
            obtain ⟨hI, hU'⟩ := IsW.put (m := [byteAt n j]) hgl2 hFg2 hMg2 hFM2 (hu4.trans_same hu5) hx ho rfl hu6 hu7 hb rfl
            refine WX.blockNormal ?_
            refine WX.next ?_
            refine WC.region ?_
            refine WL.val rfl rfl rfl rfl (r_move rfl (ev_t rfl)) ?_
            first | refine WL.val rfl rfl rfl rfl (r_subN rfl (ev_t rfl) ev_c (by simp only [inK]; omega)) ?_ | refine WL.val rfl rfl rfl rfl (r_sub rfl (ev_t rfl) ev_c) ?_
            refine WL.val rfl rfl rfl rfl (r_assign rfl (ev_t rfl)) ?_
            refine WL.nil ?_
            refine WX.keep [(0, _), (1, _), (5, _)] ⟨rfl, rfl, rfl, trivial⟩ ?_
            refine WX.meet [(0, _), (1, _), (5, _)] ⟨rfl, rfl, rfl, trivial⟩ ?_
            exact ⟨j, by omega, by omega, by simp <;> omega, hU.two hU', acc ++ [byteAt n j], by rw [← hacc]; simp [beB], by rw [← List.append_assoc]; exact hI.mono (Grow.two hU hU')⟩
         · try (exfalso; first | (simp at hc6; done) | (simp only [decide_eq_true_eq, decide_eq_false_iff_not, Bool.not_eq_true', Bool.not_eq_false', Bool.not_eq_true, Bool.not_eq_false] at hc6; omega) | omega)
           all_goals
            try simp only [decide_eq_true_eq, decide_eq_false_iff_not, Bool.not_eq_true', Bool.not_eq_false', Bool.not_eq_true, Bool.not_eq_false, Option.isNone_none, Option.isNone_some, Option.isSome_none, Option.isSome_some, ne_eq, Decidable.not_not] at hc6
            obtain rfl : k = 0 := by omega
            rw [beB, List.append_nil] at hacc
            subst hacc
            refine WC.exit ?_
            refine WX.thenExit ?_
            refine WX.thenExit ?_
            refine WX.blockHere ?_
            refine WX.next ?_
            refine WC.seq ?_
            refine WC.region ?_
            refine WL.val rfl rfl rfl rfl (r_move rfl (ev_t rfl)) ?_
            refine WL.val rfl rfl rfl rfl (r_assign rfl (ev_t rfl)) ?_
            refine WL.nil ?_
            refine WX.keep [(4, _)] ⟨rfl, trivial⟩ ?_
            refine WX.next ?_
            refine WC.ret ?_
            refine WX.retE1 rfl rfl ?_
            exact ⟨rfl, hI0, hU⟩
end Go.Proofs.Ytnjfhmlfpfkllaa

/-
  octet.Writer: Int, Done, Bytes, Text.
-/
namespace Go.Proofs.Ytnjfhmlfpfkllaa
open Go
set_option linter.unusedSimpArgs false
set_option linter.unusedVariables false

theorem IsW.bound {w : World} {M : Nat → Prop} {g : Nat} {l : List UInt8} (h : IsW w M g l) : IsW w (fun k => M k ∧ k < w.heap.size) g l := by
  have hg := h.lt
  obtain ⟨v, F, hb, ho, hn, hM, hF⟩ := h
  have := ho.bound
  exact ⟨v, _, hb, this, fun h => hn h.1, ⟨hM, hg⟩, fun k hk => ⟨hF k hk.1, hk.2⟩⟩

theorem wint_ok {w : World} {M : Nat → Prop} {g : Nat} {x : Int} {l : List UInt8} (h : IsW w M g l) (h1 : -9223372036854775808 ≤ x) (h2 : x ≤ 9223372036854775807) (hl : l.length ≤ 140737488355000) :
    Ret Try.prog 30 #[.pointer (some ⟨g, 0, none⟩), .int .i64 x] w fun v w' =>
      v = .pointer (some ⟨g, 0, none⟩) ∧ IsW w' (Grow M w w') g (l ++ encU (zig x)) ∧ Upd M w w' := by
  refine enterRet (vs := [_, _]) (N := 14) Try.func30 rfl rfl rfl ?_
  refine WC.keep [(0, _), (1, _)] ⟨rfl, rfl, trivial⟩ ?_
  refine WC.seq ?_
  refine WC.region ?_
  refine WL.val rfl rfl rfl rfl (r_assign rfl ev_c) ?_
  refine WL.nil ?_
  refine WX.keep [(0, _), (1, _)] ⟨rfl, rfl, trivial⟩ ?_
  refine WX.next ?_
  refine WC.seq ?_
  refine WC.region ?_
  refine WL.val rfl rfl rfl rfl (r_move rfl (ev_t rfl)) ?_
  refine WL.val rfl rfl rfl rfl (r_move rfl (ev_t rfl)) ?_
  refine WL.val rfl rfl rfl rfl (r_shl rfl (ev_t rfl) ev_c (by omega) (by simp only [IntKind.bits]; omega)) ?_
  refine WL.val rfl rfl rfl rfl (r_conv rfl (ev_t rfl) some_2 int_29) ?_
  refine WL.val rfl rfl rfl rfl (r_move rfl (ev_t rfl)) ?_
  refine WL.val rfl rfl rfl rfl (r_shr rfl (ev_t rfl) ev_c (by omega) (by simp only [IntKind.bits]; omega)) ?_
  refine WL.val rfl rfl rfl rfl (r_conv rfl (ev_t rfl) some_2 int_29) ?_
  refine WL.val rfl rfl rfl rfl (r_xor rfl (ev_t rfl) (ev_t rfl)) ?_
  rw [zig_bits h1 h2]
  refine WL.cons (SO.call (wuint_ok h (zig_lt h1 h2) hl) rfl body_29 ⟨(ev_t rfl), (ev_t rfl), trivial⟩ rfl rfl rfl rfl ?_)
  rintro v w1 ⟨rfl, hI, hu1⟩
  refine WL.val rfl rfl rfl rfl (r_assign rfl (ev_t rfl)) ?_
  refine WL.nil ?_
  refine WX.keep [(4, _)] ⟨rfl, trivial⟩ ?_
  refine WX.next ?_
  refine WC.ret ?_
  refine WX.retE1 rfl rfl ?_
  exact ⟨rfl, hI, hu1⟩

theorem wdone_ok {w : World} {M : Nat → Prop} {g : Nat} {l : List UInt8} (h : IsW w M g l) (hl : l.length ≤ 140737488355328) :
    Ret Try.prog 38 #[.pointer (some ⟨g, 0, none⟩)] w fun v w' =>
      Own w' (New w w') 5 1 v l.length (l.map U8) ∧ Upd No w w' := by
  obtain ⟨v, F, hb, ho, hFg, hMg, hFM⟩ := h
  refine enterRet (vs := [_]) (N := 8) Try.func38 rfl rfl rfl ?_
  refine WC.keep [(0, _)] ⟨rfl, trivial⟩ ?_
  refine WC.seq ?_
  refine WC.region ?_
  refine WL.val rfl rfl rfl rfl (r_assign rfl ev_c) ?_
  refine WL.nil ?_
  refine WX.keep [(0, _)] ⟨rfl, trivial⟩ ?_
  refine WX.next ?_
  refine WC.seq ?_
  refine WC.region ?_
  refine WL.val rfl rfl rfl rfl (r_move rfl (ev_t rfl)) ?_
  refine WL.val rfl rfl rfl rfl (r_nilCheck rfl (ev_t rfl)) ?_
  first | refine WL.val rfl rfl rfl rfl (r_field0 rfl (ev_t rfl) fld_84_0) ?_ | refine WL.val rfl rfl rfl rfl (r_fieldAt rfl (ev_t rfl) fld_84_0) ?_
  refine WL.val rfl rfl rfl rfl (r_load rfl (ev_t rfl) flat_22 (Blk.cell hb rfl)) ?_
  refine WL.cons (SO.call (clone_ok (ho.rd hl)) rfl body_18 ⟨(ev_t rfl), trivial⟩ rfl rfl rfl rfl ?_)
  rintro v' w1 ⟨ho', hu1⟩
  refine WL.val rfl rfl rfl rfl (r_assign rfl (ev_t rfl)) ?_
  refine WL.nil ?_
  refine WX.keep [(2, _)] ⟨rfl, trivial⟩ ?_
  refine WX.next ?_
  refine WC.ret ?_
  refine WX.retE1 rfl rfl ?_
  exact ⟨ho', hu1⟩

theorem wbytes_ok {w : World} {M F' : Nat → Prop} {g n : Nat} {l m : List UInt8} {b : Value} (h : IsW w M g l) (hr : Rd w F' b n 1 (m.map U8)) (hd : ∀ k, F' k → ¬ M k) (hl : l.length + m.length ≤ 140737488354000) :
    Ret Try.prog 32 #[.pointer (some ⟨g, 0, none⟩), b] w fun v w' =>
      v = .pointer (some ⟨g, 0, none⟩) ∧ IsW w' (Grow M w w') g (l ++ (encU m.length ++ m)) ∧ Upd M w w' := by
  obtain ⟨A, c, rfl, hle⟩ := hr.slice_form
  have hn := hr.lenB
  subst hn
  have hx := encU_length m.length
  have hy : blen m.length ≤ 8 := blen_le (by omega)
  replace h := h.bound
  have hgd : ¬ (F' g ∧ g < w.heap.size) := fun h' => hd g h'.1 (by obtain ⟨_, _, _, _, _, hM, _⟩ := h; exact hM.1)
  replace hr := hr.bound
  refine enterRet (vs := [_, _]) (N := 20) Try.func32 rfl rfl rfl ?_
  refine WC.keep [(0, _), (1, _)] ⟨rfl, rfl, trivial⟩ ?_
  refine WC.seq ?_
  refine WC.region ?_
  refine WL.val rfl rfl rfl rfl (r_assign rfl ev_c) ?_
  refine WL.nil ?_
  refine WX.keep [(0, _), (1, _)] ⟨rfl, rfl, trivial⟩ ?_
  refine WX.next ?_
  refine WC.seq ?_
  refine WC.region ?_
  refine WL.val rfl rfl rfl rfl (r_move rfl (ev_t rfl)) ?_
  refine WL.val rfl rfl rfl rfl (r_move rfl (ev_t rfl)) ?_
  refine WL.val rfl rfl rfl rfl (r_lenSlice (ts := #[]) rfl (ev_t rfl) elem_22) ?_
  first | refine WL.val rfl rfl rfl rfl (r_convN rfl (ev_t rfl) some_3 int_29 (by simp only [inK]; omega)) ?_ | refine WL.val rfl rfl rfl rfl (r_conv rfl (ev_t rfl) some_3 int_29) ?_
  refine WL.cons (SO.call (wuint_ok h (by omega) (by omega)) rfl body_29 ⟨(ev_t rfl), (ev_t rfl), trivial⟩ rfl rfl rfl rfl ?_)
  rintro v w1 ⟨rfl, hI, hu1⟩
  have hs1 := hu1.size
  replace hr := hr.upd hu1 (by first | exact (fun k hk hl hS => hd k hk.1 hS.1) | exact (fun k hk hl => hd1 k hk) | (intro k hk hl hS; simp only [At] at hS; subst hS; exact hgd hk))
  have hgl := hI.lt
  have hU1 := hu1
  obtain ⟨v1, F1, hb, ho, hFg, hMg, hFM⟩ := hI
  have hd1 : ∀ k, F' k ∧ k < w.heap.size → ¬ F1 k := fun k hk h1 => by
    rcases hFM k h1 with h2 | h2
    · exact hd k hk.1 h2.1
    · have := h2.1; have := hk.2; omega
  have hla : (l ++ encU m.length).length = l.length + (encU m.length).length := List.length_append
  refine WL.nil ?_
  refine WX.keep [(0, _), (1, _)] ⟨rfl, rfl, trivial⟩ ?_
  refine WX.next ?_
  refine WC.seq ?_
  refine WC.region ?_
  refine WL.val rfl rfl rfl rfl (r_move rfl (ev_t rfl)) ?_
  refine WL.val rfl rfl rfl rfl (r_move rfl (ev_t rfl)) ?_
  refine WL.val rfl rfl rfl rfl (r_nilCheck rfl (ev_t rfl)) ?_
  first | refine WL.val rfl rfl rfl rfl (r_field0 rfl (ev_t rfl) fld_84_0) ?_ | refine WL.val rfl rfl rfl rfl (r_fieldAt rfl (ev_t rfl) fld_84_0) ?_
  refine WL.val rfl rfl rfl rfl (r_load rfl (ev_t rfl) flat_22 (Blk.cell hb rfl)) ?_
  refine WL.val rfl rfl rfl rfl (r_move rfl (ev_t rfl)) ?_
  refine WL.cons (SO.append ho hr row_22 (U8_one m) (le_maxLen (by omega)) (by omega) rfl (ev_t rfl) (ev_t rfl) rfl rfl rfl rfl ?_)
  intro v2 w2 ho hu2
  have hs2 := hu2.size
  replace hr := hr.upd hu2 (by first | exact (fun k hk hl hS => hd k hk.1 hS.1) | exact (fun k hk hl => hd1 k hk) | (intro k hk hl hS; simp only [At] at hS; subst hS; exact hgd hk))
  replace hb := hb.upd hu2 (by first | exact hFg | simp only [No, At]; omega)
  obtain ⟨A2, c2, rfl, hc2⟩ := Own.form ho
  refine WL.val rfl rfl rfl rfl (r_nilCheck rfl (ev_t rfl)) ?_
  first | refine WL.val rfl rfl rfl rfl (r_field0 rfl (ev_t rfl) fld_84_0) ?_ | refine WL.val rfl rfl rfl rfl (r_fieldAt rfl (ev_t rfl) fld_84_0) ?_
  refine WL.cons (SO.store rfl (ev_t rfl) (ev_t rfl) size_22 hb rfl rfl rfl rfl rfl ?_)
  intro w3 hu3 hb hz3
  have hs3 := hu3.size
  replace hr := hr.upd hu3 (by first | exact (fun k hk hl hS => hd k hk.1 hS.1) | exact (fun k hk hl => hd1 k hk) | (intro k hk hl hS; simp only [At] at hS; subst hS; exact hgd hk))
  replace ho := ho.upd hu3 (by intro k hk hl hS; simp only [At] at hS; subst hS; exact Grow.old (by omega) hFg hk)
  refine WL.nil ?_
  refine WX.keep [(0, _)] ⟨rfl, trivial⟩ ?_
  refine WX.next ?_
  refine WC.seq ?_
  refine WC.region ?_
  refine WL.val rfl rfl rfl rfl (r_move rfl (ev_t rfl)) ?_
  refine WL.val rfl rfl rfl rfl (r_assign rfl (ev_t rfl)) ?_
  refine WL.nil ?_
  refine WX.keep [(4, _)] ⟨rfl, trivial⟩ ?_
  refine WX.next ?_
  refine WC.ret ?_
  refine WX.retE1 rfl rfl ?_
  obtain ⟨hI', hU'⟩ := IsW.put (m := m) hgl hFg hMg hFM (Upd.refl _ _) rfl ho rfl hu2 hu3 hb rfl
  refine ⟨rfl, ?_, ?_⟩
  · rw [← List.append_assoc]
    exact (hI'.mono (Grow.two hU1 hU')).mono (fun k hk => hk.imp (fun h => h.1) id)
  · exact (hU1.two hU').mono (fun k _ hk => hk.1)

end Go.Proofs.Ytnjfhmlfpfkllaa

/-
  octet.Sum; slices.Equal of bytes.
-/
namespace Go.Proofs.Ytnjfhmlfpfkllaa
open Go
set_option linter.unusedSimpArgs false
set_option linter.unusedVariables false

theorem sum_ok {w : World} {F : Nat → Prop} {v : Value} {n : Nat} {l : List UInt8} (hr : Rd w F v n 1 (l.map U8)) :
    Ret Try.prog 48 #[v] w fun v' w' => v' = .int .u32 (crc l : Int) ∧ w' = w := by
  obtain ⟨A, c, rfl, hle⟩ := hr.slice_form
  have hn := hr.lenB
  subst hn
  have hm := hr.le
  refine enterRet (vs := [_]) (N := 29) Try.func48 rfl rfl rfl ?_
  refine WC.keep [(0, _)] ⟨rfl, trivial⟩ ?_
  refine WC.seq ?_
  refine WC.region ?_
  refine WL.val rfl rfl rfl rfl (r_assign rfl ev_c) ?_
  refine WL.nil ?_
  refine WX.keep [(0, _)] ⟨rfl, trivial⟩ ?_
  refine WX.next ?_
  refine WC.seq ?_
  refine WC.region ?_
  refine WL.val rfl rfl rfl rfl (r_assign rfl ev_c) ?_
  refine WL.nil ?_
  refine WX.keep [(0, _), (3, _)] ⟨rfl, rfl, trivial⟩ ?_
  refine WX.next ?_
  refine WC.seq ?_
  refine WC.seq ?_
  refine WC.region ?_
  refine WL.val rfl rfl rfl rfl (r_move rfl (ev_t rfl)) ?_
  refine WL.val rfl rfl rfl rfl (r_lenSlice (ts := #[]) rfl (ev_t rfl) elem_22) ?_
  refine WL.val rfl rfl rfl rfl (r_move rfl ev_c) ?_
  refine WL.nil ?_
  refine WX.keep [(3, _), (6, _), (7, _), (8, _)] ⟨rfl, rfl, rfl, rfl, trivial⟩ ?_
  refine WX.next ?_
  refine WC.block ?_
  -- loop 1: live [3, 6, 7, 8]
  refine WC.keep [(3, _), (6, _), (7, _), (8, _)] ⟨rfl, rfl, rfl, rfl, trivial⟩ ?_
  refine WC.loop (fun m E w' => ∃ i : Nat, i ≤ l.length ∧ m = l.length - i ∧ w = w' ∧ E = [(3, .int .u32 ((l.take i).foldl crcB 4294967295 : Nat)), (6, .slice A l.length c), (7, .int .i64 (l.length : Int)), (8, .int .i64 (i : Int))]) (l.length) ?_ ?_
  · exact ⟨0, by omega, by omega, rfl, rfl⟩
  · rintro m E w' ⟨i, hi, rfl, rfl, rfl⟩
    have hc32 := foldl_crcB_lt (l.take i) (c := 4294967295) (by omega)
    generalize hcc : (l.take i).foldl crcB 4294967295 = cc at hc32 ⊢
    refine WC.seq ?_
    refine WC.region ?_
    refine WL.val rfl rfl rfl rfl (r_lss rfl (ev_t rfl) (ev_t rfl)) ?_
    refine WL.nil ?_
    refine WX.keep [(3, _), (6, _), (7, _), (8, _), (9, _)] ⟨rfl, rfl, rfl, rfl, rfl, trivial⟩ ?_
    refine WX.next ?_
    refine WC.seq ?_
    refine WC.cond rfl (ev_t rfl) (fun hc3 => ?_) (fun hc3 => ?_)
    · try (exfalso; first | (simp at hc3; done) | (simp only [decide_eq_true_eq, decide_eq_false_iff_not, Bool.not_eq_true', Bool.not_eq_false', Bool.not_eq_true, Bool.not_eq_false] at hc3; omega) | omega)
      all_goals
       try simp only [decide_eq_true_eq, decide_eq_false_iff_not, Bool.not_eq_true', Bool.not_eq_false', Bool.not_eq_true, Bool.not_eq_false, Option.isNone_none, Option.isNone_some, Option.isSome_none, Option.isSome_some, ne_eq, Decidable.not_not] at hc3
       have hi' : i < l.length := by omega
       obtain ⟨b, off, rfl, _⟩ := hr.open (by omega)
       have hci : (l.map U8)[i]? = some (.int .u8 (l[i].toNat : Int)) := by simp [U8, hi']
       have hb8 := l[i].toNat_lt
       refine WC.skip ?_
       refine WX.next ?_
       refine WC.seq ?_
       refine WC.block ?_
       refine WC.seq ?_
       refine WC.region ?_
       refine WL.val rfl rfl rfl rfl (r_indexAddr rfl (ev_t rfl) (ev_t rfl) elem_22 size_5 (by omega) (by omega)) ?_
       refine WL.val rfl rfl rfl rfl (r_load rfl (ev_t rfl) flat_5 (hr.cell (by omega) hci)) ?_
       refine WL.val rfl rfl rfl rfl (r_assign rfl (ev_t rfl)) ?_
       refine WL.nil ?_
       refine WX.keep [(3, _), (5, _), (6, _), (7, _), (8, _)] ⟨rfl, rfl, rfl, rfl, rfl, trivial⟩ ?_
       refine WX.next ?_
       refine WC.seq ?_
       refine WC.region ?_
       refine WL.val rfl rfl rfl rfl (r_move rfl (ev_t rfl)) ?_
       refine WL.val rfl rfl rfl rfl (r_move rfl (ev_t rfl)) ?_
       first | refine WL.val rfl rfl rfl rfl (r_convN rfl (ev_t rfl) some_5 int_96 (by simp only [inK]; omega)) ?_ | refine WL.val rfl rfl rfl rfl (r_conv rfl (ev_t rfl) some_5 int_96) ?_
       refine WL.val rfl rfl rfl rfl (r_xor rfl (ev_t rfl) (ev_t rfl)) ?_
       rw [bits_xor_u32 _ _ hc32 (by omega)]
       refine WL.val rfl rfl rfl rfl (r_assign rfl (ev_t rfl)) ?_
       refine WL.nil ?_
       refine WX.keep [(3, _), (6, _), (7, _), (8, _)] ⟨rfl, rfl, rfl, rfl, trivial⟩ ?_
       refine WX.next ?_
       refine WC.seq ?_
       refine WC.region ?_
       refine WL.val rfl rfl rfl rfl (r_move rfl ev_c) ?_
       refine WL.nil ?_
       refine WX.keep [(3, _), (6, _), (7, _), (8, _), (16, _)] ⟨rfl, rfl, rfl, rfl, rfl, trivial⟩ ?_
       refine WX.next ?_
       refine WC.block ?_
       -- loop 2: live [3, 6, 7, 8, 16]
       refine WC.keep [(3, _), (6, _), (7, _), (8, _), (16, _)] ⟨rfl, rfl, rfl, rfl, rfl, trivial⟩ ?_
       refine WC.loop (fun m E w' => ∃ j : Nat, j ≤ 8 ∧ m = 8 - j ∧ w = w' ∧ E = [(3, .int .u32 (stepN j (cc ^^^ l[i].toNat) : Nat)), (6, .slice (some ⟨b, off, none⟩) l.length c), (7, .int .i64 (l.length : Int)), (8, .int .i64 (i : Int)), (16, .int .i64 (j : Int))]) (8) ?_ ?_
       · exact ⟨0, by omega, by omega, rfl, rfl⟩
       · rintro m E w' ⟨j, hj, rfl, rfl, rfl⟩
         have hc33 := stepN_lt j (c := cc ^^^ l[i].toNat) (Nat.xor_lt_two_pow (n := 32) hc32 (by omega))
         refine WC.seq ?_
         refine WC.region ?_
         refine WL.val rfl rfl rfl rfl (r_lss rfl (ev_t rfl) ev_c) ?_
         refine WL.nil ?_
         refine WX.keep [(3, _), (6, _), (7, _), (8, _), (16, _), (17, _)] ⟨rfl, rfl, rfl, rfl, rfl, rfl, trivial⟩ ?_
         refine WX.next ?_
         refine WC.seq ?_
         refine WC.cond rfl (ev_t rfl) (fun hc7 => ?_) (fun hc7 => ?_)
         · try (exfalso; first | (simp at hc7; done) | (simp only [decide_eq_true_eq, decide_eq_false_iff_not, Bool.not_eq_true', Bool.not_eq_false', Bool.not_eq_true, Bool.not_eq_false] at hc7; omega) | omega)
           all_goals
            try simp only [decide_eq_true_eq, decide_eq_false_iff_not, Bool.not_eq_true', Bool.not_eq_false', Bool.not_eq_true, Bool.not_eq_false, Option.isNone_none, Option.isNone_some, Option.isSome_none, Option.isSome_some, ne_eq, Decidable.not_not] at hc7
            refine WC.skip ?_
            refine WX.next ?_
            refine WC.seq ?_
            refine WC.block ?_
            refine WC.region ?_
            refine WL.val rfl rfl rfl rfl (r_move rfl (ev_t rfl)) ?_
            refine WL.val rfl rfl rfl rfl (r_shr rfl (ev_t rfl) ev_c (by omega) (by simp only [IntKind.bits]; omega)) ?_
            refine WL.val rfl rfl rfl rfl (r_move rfl (ev_t rfl)) ?_
            refine WL.val rfl rfl rfl rfl (r_and rfl (ev_t rfl) ev_c) ?_
            first | refine WL.val rfl rfl rfl rfl (r_negN rfl (ev_t rfl) (by simp only [inK]; omega)) ?_ | refine WL.val rfl rfl rfl rfl (r_neg rfl (ev_t rfl)) ?_
            refine WL.val rfl rfl rfl rfl (r_and rfl ev_c (ev_t rfl)) ?_
            refine WL.val rfl rfl rfl rfl (r_xor rfl (ev_t rfl) (ev_t rfl)) ?_
            rw [step_bits hc33]
            refine WL.val rfl rfl rfl rfl (r_assign rfl (ev_t rfl)) ?_
            refine WL.nil ?_
            refine WX.keep [(3, _), (6, _), (7, _), (8, _), (16, _)] ⟨rfl, rfl, rfl, rfl, rfl, trivial⟩ ?_
            refine WX.blockNormal ?_
            refine WX.next ?_
            refine WC.region ?_
            first | refine WL.val rfl rfl rfl rfl (r_addN rfl (ev_t rfl) ev_c (by simp only [inK]; omega)) ?_ | refine WL.val rfl rfl rfl rfl (r_add rfl (ev_t rfl) ev_c) ?_
            refine WL.val rfl rfl rfl rfl (r_move rfl (ev_t rfl)) ?_
            refine WL.nil ?_
            refine WX.keep [(3, _), (6, _), (7, _), (8, _), (16, _)] ⟨rfl, rfl, rfl, rfl, rfl, trivial⟩ ?_
            refine WX.meet [(3, _), (6, _), (7, _), (8, _), (16, _)] ⟨rfl, rfl, rfl, rfl, rfl, trivial⟩ ?_
            exact ⟨8 - (j + 1), by omega, j + 1, by omega, rfl, rfl, rfl⟩
         · try (exfalso; first | (simp at hc7; done) | (simp only [decide_eq_true_eq, decide_eq_false_iff_not, Bool.not_eq_true', Bool.not_eq_false', Bool.not_eq_true, Bool.not_eq_false] at hc7; omega) | omega)
           all_goals
            try simp only [decide_eq_true_eq, decide_eq_false_iff_not, Bool.not_eq_true', Bool.not_eq_false', Bool.not_eq_true, Bool.not_eq_false, Option.isNone_none, Option.isNone_some, Option.isSome_none, Option.isSome_some, ne_eq, Decidable.not_not] at hc7
            obtain rfl : j = 8 := by omega
            refine WC.exit ?_
            refine WX.thenExit ?_
            refine WX.thenExit ?_
            refine WX.blockHere ?_
            refine WX.blockNormal ?_
            refine WX.next ?_
            refine WC.region ?_
            first | refine WL.val rfl rfl rfl rfl (r_addN rfl (ev_t rfl) ev_c (by simp only [inK]; omega)) ?_ | refine WL.val rfl rfl rfl rfl (r_add rfl (ev_t rfl) ev_c) ?_
            refine WL.val rfl rfl rfl rfl (r_move rfl (ev_t rfl)) ?_
            refine WL.nil ?_
            refine WX.keep [(3, _), (6, _), (7, _), (8, _)] ⟨rfl, rfl, rfl, rfl, trivial⟩ ?_
            refine WX.meet [(3, _), (6, _), (7, _), (8, _)] ⟨rfl, rfl, rfl, rfl, trivial⟩ ?_
            refine ⟨l.length - (i + 1), by omega, i + 1, by omega, rfl, rfl, ?_⟩
            rw [List.take_succ_eq_append_getElem hi', List.foldl_append, hcc]
            rfl
    · try (exfalso; first | (simp at hc3; done) | (simp only [decide_eq_true_eq, decide_eq_false_iff_not, Bool.not_eq_true', Bool.not_eq_false', Bool.not_eq_true, Bool.not_eq_false] at hc3; omega) | omega)
      all_goals
       try simp only [decide_eq_true_eq, decide_eq_false_iff_not, Bool.not_eq_true', Bool.not_eq_false', Bool.not_eq_true, Bool.not_eq_false, Option.isNone_none, Option.isNone_some, Option.isSome_none, Option.isSome_some, ne_eq, Decidable.not_not] at hc3
       obtain rfl : i = l.length := by omega
       rw [List.take_length] at hcc
       refine WC.exit ?_
       refine WX.thenExit ?_
       refine WX.thenExit ?_
       refine WX.blockHere ?_
       refine WX.next ?_
       refine WC.seq ?_
       refine WC.region ?_
       refine WL.val rfl rfl rfl rfl (r_move rfl (ev_t rfl)) ?_
       refine WL.val rfl rfl rfl rfl (r_com rfl (ev_t rfl)) ?_
       refine WL.val rfl rfl rfl rfl (r_assign rfl (ev_t rfl)) ?_
       refine WL.nil ?_
       refine WX.keep [(2, _)] ⟨rfl, trivial⟩ ?_
       refine WX.next ?_
       refine WC.ret ?_
       refine WX.retE1 rfl rfl ?_
       refine ⟨?_, rfl⟩
       subst hcc
       rw [show (if IntKind.u32.signed = true then (-1 : Int) else IntKind.u32.max) = ((4294967295 : Nat) : Int) from rfl, bits_xor_u32 _ _ (by omega) hc32, Nat.xor_comm]
       rfl

theorem byte_inj {a b : UInt8} (h : (a.toNat : Int) = (b.toNat : Int)) : a = b := UInt8.toNat_inj.1 (by omega)

theorem equal_ok {w : World} {F F' : Nat → Prop} {v v' : Value} {n n' : Nat} {l m : List UInt8} (hr : Rd w F v n 1 (l.map U8)) (hs : Rd w F' v' n' 1 (m.map U8)) :
    Ret Try.prog 44 #[v, v'] w fun v' w' => v' = .bool (decide (l = m)) ∧ Upd No w w' := by
  obtain ⟨A, c, rfl, hle⟩ := hr.slice_form
  obtain ⟨A', c', rfl, hle'⟩ := hs.slice_form
  have hn := hr.lenB
  subst hn
  have hn := hs.lenB
  subst hn
  have hm := hr.le
  have hm' := hs.le
  refine enterRet (vs := [_, _]) (N := 26) Try.func44 rfl rfl rfl ?_
  refine WC.keep [(0, _), (1, _)] ⟨rfl, rfl, trivial⟩ ?_
  refine WC.seq ?_
  refine WC.region ?_
  refine WL.val rfl rfl rfl rfl (r_assign rfl ev_c) ?_
  refine WL.nil ?_
  refine WX.keep [(0, _), (1, _)] ⟨rfl, rfl, trivial⟩ ?_
  refine WX.next ?_
  refine WC.seq ?_
  refine WC.seq ?_
  refine WC.region ?_
  refine WL.val rfl rfl rfl rfl (r_move rfl (ev_t rfl)) ?_
  refine WL.val rfl rfl rfl rfl (r_lenSlice (ts := #[]) rfl (ev_t rfl) elem_22) ?_
  refine WL.val rfl rfl rfl rfl (r_move rfl (ev_t rfl)) ?_
  refine WL.val rfl rfl rfl rfl (r_lenSlice (ts := #[]) rfl (ev_t rfl) elem_22) ?_
  refine WL.val rfl rfl rfl rfl (r_neq rfl (ev_t rfl) (ev_t rfl)) ?_
  refine WL.nil ?_
  refine WX.keep [(0, _), (1, _), (10, _)] ⟨rfl, rfl, rfl, trivial⟩ ?_
  refine WX.next ?_
  refine WC.cond rfl (ev_t rfl) (fun hc1 => ?_) (fun hc1 => ?_)
  · try (exfalso; first | (simp at hc1; done) | (simp only [decide_eq_true_eq, decide_eq_false_iff_not, Bool.not_eq_true', Bool.not_eq_false', Bool.not_eq_true, Bool.not_eq_false] at hc1; omega) | omega)
    all_goals
     try simp only [decide_eq_true_eq, decide_eq_false_iff_not, Bool.not_eq_true', Bool.not_eq_false', Bool.not_eq_true, Bool.not_eq_false, Option.isNone_none, Option.isNone_some, Option.isSome_none, Option.isSome_some, ne_eq, Decidable.not_not] at hc1
     refine WC.seq ?_
     refine WC.region ?_
     refine WL.val rfl rfl rfl rfl (r_assign rfl ev_c) ?_
     refine WL.nil ?_
     refine WX.keep [(4, _)] ⟨rfl, trivial⟩ ?_
     refine WX.next ?_
     refine WC.ret ?_
     refine WX.thenRet ?_
     refine WX.retE1 rfl rfl ?_
     refine ⟨?_, Upd.refl _ _⟩
     have : l ≠ m := fun e => hc1 (by rw [e])
     rw [decide_eq_false this]
  · try (exfalso; first | (simp at hc1; done) | (simp only [decide_eq_true_eq, decide_eq_false_iff_not, Bool.not_eq_true', Bool.not_eq_false', Bool.not_eq_true, Bool.not_eq_false] at hc1; omega) | omega)
    all_goals
     try simp only [decide_eq_true_eq, decide_eq_false_iff_not, Bool.not_eq_true', Bool.not_eq_false', Bool.not_eq_true, Bool.not_eq_false, Option.isNone_none, Option.isNone_some, Option.isSome_none, Option.isSome_some, ne_eq, Decidable.not_not] at hc1
     have hlm : l.length = m.length := by omega
     refine WC.skip ?_
     refine WX.next ?_
     refine WC.seq ?_
     refine WC.seq ?_
     refine WC.region ?_
     refine WL.val rfl rfl rfl rfl (r_move rfl (ev_t rfl)) ?_
     refine WL.val rfl rfl rfl rfl (r_lenSlice (ts := #[]) rfl (ev_t rfl) elem_22) ?_
     refine WL.val rfl rfl rfl rfl (r_move rfl ev_c) ?_
     refine WL.nil ?_
     refine WX.keep [(0, _), (1, _), (12, _), (13, _)] ⟨rfl, rfl, rfl, rfl, trivial⟩ ?_
     refine WX.next ?_
     refine WC.block ?_
     -- loop 1: live [0, 1, 12, 13]
     refine WC.keep [(0, _), (1, _), (12, _), (13, _)] ⟨rfl, rfl, rfl, rfl, trivial⟩ ?_
     refine WC.loop (fun k E w' => ∃ i : Nat, i ≤ l.length ∧ k = l.length - i ∧ Upd No w w' ∧ l.take i = m.take i ∧ E = [(0, .slice A l.length c), (1, .slice A' m.length c'), (12, .int .i64 (l.length : Int)), (13, .int .i64 (i : Int))]) (l.length) ?_ ?_
     · exact ⟨0, by omega, by omega, (Upd.refl _ _), rfl, rfl⟩
     · rintro k E w' ⟨i, hi, rfl, hU, htk, rfl⟩
       replace hr := hr.upd hU (fun _ _ _ h => h)
       replace hs := hs.upd hU (fun _ _ _ h => h)
       refine WC.seq ?_
       refine WC.region ?_
       refine WL.val rfl rfl rfl rfl (r_lss rfl (ev_t rfl) (ev_t rfl)) ?_
       refine WL.nil ?_
       refine WX.keep [(0, _), (1, _), (12, _), (13, _), (14, _)] ⟨rfl, rfl, rfl, rfl, rfl, trivial⟩ ?_
       refine WX.next ?_
       refine WC.seq ?_
       refine WC.cond rfl (ev_t rfl) (fun hc4 => ?_) (fun hc4 => ?_)
       · try (exfalso; first | (simp at hc4; done) | (simp only [decide_eq_true_eq, decide_eq_false_iff_not, Bool.not_eq_true', Bool.not_eq_false', Bool.not_eq_true, Bool.not_eq_false] at hc4; omega) | omega)
         all_goals
          try simp only [decide_eq_true_eq, decide_eq_false_iff_not, Bool.not_eq_true', Bool.not_eq_false', Bool.not_eq_true, Bool.not_eq_false, Option.isNone_none, Option.isNone_some, Option.isSome_none, Option.isSome_some, ne_eq, Decidable.not_not] at hc4
          have hi' : i < l.length := by omega
          have hj' : i < m.length := by omega
          obtain ⟨b, off, rfl, _⟩ := hr.open (by omega)
          obtain ⟨b', off', rfl, _⟩ := hs.open (by omega)
          have hci : (l.map U8)[i]? = some (.int .u8 (l[i].toNat : Int)) := by simp [U8, hi']
          have hcj : (m.map U8)[i]? = some (.int .u8 (m[i].toNat : Int)) := by simp [U8, hj']
          refine WC.skip ?_
          refine WX.next ?_
          refine WC.seq ?_
          refine WC.block ?_
          refine WC.seq ?_
          refine WC.region ?_
          refine WL.val rfl rfl rfl rfl (r_move rfl (ev_t rfl)) ?_
          refine WL.val rfl rfl rfl rfl (r_assign rfl (ev_t rfl)) ?_
          refine WL.nil ?_
          refine WX.keep [(0, _), (1, _), (5, _), (12, _), (13, _)] ⟨rfl, rfl, rfl, rfl, rfl, trivial⟩ ?_
          refine WX.next ?_
          refine WC.seq ?_
          refine WC.draws' (fun u0_ u1_ => Upd No u0_ u1_) (fun j => [0, 0, 0, 0, 0, 0, 0, 1, 0].getD j 0) (.calm 0 (.calm 1 (.calm 2 (.calm 4 (.calm 5 (.calm 6 (.held 3 (.one 7 (.calm 8 (.done)))))))))) mixed (by kernel_rfl) (by repeat (first | with_reducible exact Deaf.body | with_reducible apply Deaf.then | with_reducible apply Deaf.block)) ?_
          intro w1 hu1
          have hz1 := congrArg Array.size hu1.2.2.2
          replace hu1 := Upd.of_draw hu1
          have hs1 := hu1.size
          replace hr := hr.updA hu1
          replace hs := hs.updA hu1
          have hS6 := Upd.refl No w1
          refine WN.calm _ rfl rfl rfl rfl rfl (fun _ => r_move rfl (ev_t rfl)) ?_
          refine WN.calm _ rfl rfl rfl rfl rfl (fun _ => r_move rfl (ev_t rfl)) ?_
          refine WN.calm _ rfl rfl rfl rfl rfl (fun _ => r_indexAddr rfl (ev_t rfl) (ev_t rfl) elem_22 size_5 (by omega) (by omega)) ?_
          refine WN.calm _ rfl rfl rfl rfl rfl (fun _ => r_move rfl (ev_t rfl)) ?_
          refine WN.calm _ rfl rfl rfl rfl rfl (fun _ => r_move rfl (ev_t rfl)) ?_
          refine WN.calm _ rfl rfl rfl rfl rfl (fun _ => r_indexAddr rfl (ev_t rfl) (ev_t rfl) elem_22 size_5 (by omega) (by omega)) ?_
          refine WN.held _ rfl rfl rfl rfl rfl hS6 (fun w' hS => r_load rfl (ev_t rfl) flat_5 ((hr.upd hS (fun _ _ _ h => h)).cell (j := i) (by omega) hci)) ?_
          refine WN.step _ rfl (SO.val rfl rfl rfl rfl (r_load rfl (ev_t rfl) flat_5 (hs.cell (j := i) (by omega) hcj)) ?_)
          refine ⟨hS6, ?_⟩
          refine WN.calm _ rfl rfl rfl rfl rfl (fun _ => r_neq rfl (ev_t rfl) (ev_t rfl)) ?_
          refine WN.done ?_
          refine WX.keep [(0, _), (1, _), (12, _), (13, _), (24, _)] ⟨rfl, rfl, rfl, rfl, rfl, trivial⟩ ?_
          refine WX.next ?_
          refine WC.cond rfl (ev_t rfl) (fun hc6 => ?_) (fun hc6 => ?_)
          · try (exfalso; first | (simp at hc6; done) | (simp only [decide_eq_true_eq, decide_eq_false_iff_not, Bool.not_eq_true', Bool.not_eq_false', Bool.not_eq_true, Bool.not_eq_false] at hc6; omega) | omega)
            all_goals
             try simp only [decide_eq_true_eq, decide_eq_false_iff_not, Bool.not_eq_true', Bool.not_eq_false', Bool.not_eq_true, Bool.not_eq_false, Option.isNone_none, Option.isNone_some, Option.isSome_none, Option.isSome_some, ne_eq, Decidable.not_not] at hc6
             refine WC.seq ?_
             refine WC.region ?_
             refine WL.val rfl rfl rfl rfl (r_assign rfl ev_c) ?_
             refine WL.nil ?_
             refine WX.keep [(4, _)] ⟨rfl, trivial⟩ ?_
             refine WX.next ?_
             refine WC.ret ?_
             refine WX.blockRet ?_
             refine WX.thenRet ?_
             refine WX.thenRet ?_
             refine WX.blockRet ?_
             refine WX.thenRet ?_
             refine WX.retE1 rfl rfl ?_
             refine ⟨?_, hU.trans_same hu1⟩
             have : l ≠ m := fun e => hc6 (by subst e; rfl)
             rw [decide_eq_false this]
          · try (exfalso; first | (simp at hc6; done) | (simp only [decide_eq_true_eq, decide_eq_false_iff_not, Bool.not_eq_true', Bool.not_eq_false', Bool.not_eq_true, Bool.not_eq_false] at hc6; omega) | omega)
            all_goals
             try simp only [decide_eq_true_eq, decide_eq_false_iff_not, Bool.not_eq_true', Bool.not_eq_false', Bool.not_eq_true, Bool.not_eq_false, Option.isNone_none, Option.isNone_some, Option.isSome_none, Option.isSome_some, ne_eq, Decidable.not_not] at hc6
             have hlm2 : l[i] = m[i] := byte_inj (by omega)
             refine WC.skip ?_
             refine WX.blockNormal ?_
             refine WX.next ?_
             refine WC.region ?_
             first | refine WL.val rfl rfl rfl rfl (r_addN rfl (ev_t rfl) ev_c (by simp only [inK]; omega)) ?_ | refine WL.val rfl rfl rfl rfl (r_add rfl (ev_t rfl) ev_c) ?_
             refine WL.val rfl rfl rfl rfl (r_move rfl (ev_t rfl)) ?_
             refine WL.nil ?_
             refine WX.keep [(0, _), (1, _), (12, _), (13, _)] ⟨rfl, rfl, rfl, rfl, trivial⟩ ?_
             refine WX.meet [(0, _), (1, _), (12, _), (13, _)] ⟨rfl, rfl, rfl, rfl, trivial⟩ ?_
             refine ⟨l.length - (i + 1), by omega, i + 1, by omega, rfl, hU.trans_same hu1, ?_, rfl⟩
             rw [List.take_succ_eq_append_getElem hi', List.take_succ_eq_append_getElem hj', htk, hlm2]
       · try (exfalso; first | (simp at hc4; done) | (simp only [decide_eq_true_eq, decide_eq_false_iff_not, Bool.not_eq_true', Bool.not_eq_false', Bool.not_eq_true, Bool.not_eq_false] at hc4; omega) | omega)
         all_goals
          try simp only [decide_eq_true_eq, decide_eq_false_iff_not, Bool.not_eq_true', Bool.not_eq_false', Bool.not_eq_true, Bool.not_eq_false, Option.isNone_none, Option.isNone_some, Option.isSome_none, Option.isSome_some, ne_eq, Decidable.not_not] at hc4
          obtain rfl : i = l.length := by omega
          refine WC.exit ?_
          refine WX.thenExit ?_
          refine WX.thenExit ?_
          refine WX.blockHere ?_
          refine WX.next ?_
          refine WC.seq ?_
          refine WC.region ?_
          refine WL.val rfl rfl rfl rfl (r_assign rfl ev_c) ?_
          refine WL.nil ?_
          refine WX.keep [(4, _)] ⟨rfl, trivial⟩ ?_
          refine WX.next ?_
          refine WC.ret ?_
          refine WX.retE1 rfl rfl ?_
          refine ⟨?_, hU⟩
          rw [List.take_length, hlm, List.take_length] at htk
          rw [decide_eq_true htk]
end Go.Proofs.Ytnjfhmlfpfkllaa

/-
  octet.Seal, octet.Open.
-/
namespace Go.Proofs.Ytnjfhmlfpfkllaa
open Go
set_option linter.unusedSimpArgs false
set_option linter.unusedVariables false

/-- the sum's bytes, the lowest first -/
def le4 (c : Nat) : List UInt8 := [byteAt c 0, byteAt c 1, byteAt c 2, byteAt c 3]
def sealB (l : List UInt8) : List UInt8 := l ++ le4 (crc l)
def openB (l : List UInt8) : List UInt8 × Nat := if l.length < 4 then ([], 3) else if sealB (l.take (l.length - 4)) = l then (l.take (l.length - 4), 0) else ([], 14)
theorem sealB_length (l : List UInt8) : (sealB l).length = l.length + 4 := by simp [sealB, le4]

theorem le4_bits (c : Nat) : [Value.int .u8 (IntKind.u8.wrap (c : Int)), Value.int .u8 (IntKind.u8.wrap ((c : Int) / 2 ^ Int.toNat 8)), Value.int .u8 (IntKind.u8.wrap ((c : Int) / 2 ^ Int.toNat 16)), Value.int .u8 (IntKind.u8.wrap ((c : Int) / 2 ^ Int.toNat 24))] = (le4 c).map U8 := by
  have h0 := wrap_u8_byte c 0
  have h1 := wrap_u8_byte c 1
  have h2 := wrap_u8_byte c 2
  have h3 := wrap_u8_byte c 3
  rw [← shr_byte] at h1 h2 h3
  have e0 : (c / 256 ^ 0 : Nat) = c := by simp
  rw [e0] at h0
  have e1 : ((8 : Int) * ((1 : Nat) : Int)).toNat = Int.toNat 8 := rfl
  have e2 : ((8 : Int) * ((2 : Nat) : Int)).toNat = Int.toNat 16 := rfl
  have e3 : ((8 : Int) * ((3 : Nat) : Int)).toNat = Int.toNat 24 := rfl
  rw [e1] at h1
  rw [e2] at h2
  rw [e3] at h3
  rw [h0, h1, h2, h3]
  rfl
theorem New.of {w w1 w2 w3 : World} {k : Nat} (h : Grow (New w w1) w2 w3 k) (h1 : w.heap.size ≤ w2.heap.size) (h2 : w1.heap.size ≤ w3.heap.size) : New w w3 k := by
  rcases h with h | h
  · exact ⟨h.1, by have := h.2; omega⟩
  · exact ⟨by have := h.1; omega, h.2⟩

theorem seal_ok {w : World} {F : Nat → Prop} {v : Value} {n : Nat} {l : List UInt8} (hr : Rd w F v n 1 (l.map U8)) (hl : l.length ≤ 140737488355000) :
    Ret Try.prog 37 #[v] w fun v' w' => Own w' (New w w') 5 1 v' (sealB l).length ((sealB l).map U8) ∧ Upd No w w' := by
  have hn := hr.lenB
  subst hn
  refine enterRet (vs := [_]) (N := 21) Try.func37 rfl rfl rfl ?_
  refine WC.keep [(0, _)] ⟨rfl, trivial⟩ ?_
  refine WC.seq ?_
  refine WC.region ?_
  refine WL.val rfl rfl rfl rfl (r_assign rfl ev_c) ?_
  refine WL.nil ?_
  refine WX.keep [(0, _)] ⟨rfl, trivial⟩ ?_
  refine WX.next ?_
  refine WC.seq ?_
  refine WC.region ?_
  refine WL.val rfl rfl rfl rfl (r_move rfl (ev_t rfl)) ?_
  refine WL.cons (SO.call (sum_ok hr) rfl body_48 ⟨(ev_t rfl), trivial⟩ rfl rfl rfl rfl ?_)
  rintro v1 w1 ⟨rfl, rfl⟩
  refine WL.val rfl rfl rfl rfl (r_assign rfl (ev_t rfl)) ?_
  refine WL.nil ?_
  refine WX.keep [(0, _), (3, _)] ⟨rfl, rfl, trivial⟩ ?_
  refine WX.next ?_
  refine WC.seq ?_
  refine WC.region ?_
  refine WL.val rfl rfl rfl rfl (r_move rfl (ev_t rfl)) ?_
  refine WL.cons (SO.call (clone_ok hr) rfl body_18 ⟨(ev_t rfl), trivial⟩ rfl rfl rfl rfl ?_)
  rintro v2 w2 ⟨ho, hu2⟩
  refine WL.val rfl rfl rfl rfl (r_move rfl (ev_t rfl)) ?_
  refine WL.val rfl rfl rfl rfl (r_conv rfl (ev_t rfl) some_96 int_5) ?_
  refine WL.val rfl rfl rfl rfl (r_move rfl (ev_t rfl)) ?_
  refine WL.val rfl rfl rfl rfl (r_shr rfl (ev_t rfl) ev_c (by omega) (by simp only [IntKind.bits]; omega)) ?_
  refine WL.val rfl rfl rfl rfl (r_conv rfl (ev_t rfl) some_96 int_5) ?_
  refine WL.val rfl rfl rfl rfl (r_move rfl (ev_t rfl)) ?_
  refine WL.val rfl rfl rfl rfl (r_shr rfl (ev_t rfl) ev_c (by omega) (by simp only [IntKind.bits]; omega)) ?_
  refine WL.val rfl rfl rfl rfl (r_conv rfl (ev_t rfl) some_96 int_5) ?_
  refine WL.val rfl rfl rfl rfl (r_move rfl (ev_t rfl)) ?_
  refine WL.val rfl rfl rfl rfl (r_shr rfl (ev_t rfl) ev_c (by omega) (by simp only [IntKind.bits]; omega)) ?_
  refine WL.val rfl rfl rfl rfl (r_conv rfl (ev_t rfl) some_96 int_5) ?_
  refine WL.cons (SO.alloc rfl rfl rfl rfl (r_buildSlice1 (vs := [_, _, _, _]) rfl ⟨(ev_t rfl), (ev_t rfl), (ev_t rfl), (ev_t rfl), trivial⟩ rfl row_22 rfl rfl) ?_)
  intro w3 hu3 hB3 hz3
  have hs3 := hu3.size
  replace ho := ho.updA hu3
  refine WL.cons (SO.append ho (Rd.of_blk (F := At _) (n := 4) (sz := 1) hB3 rfl rfl (by omega)) row_22 (by intro u hu; simp at hu; rcases hu with rfl | rfl | rfl | rfl <;> rfl) (le_maxLen (by omega)) (by omega) rfl (ev_t rfl) (ev_t rfl) rfl rfl rfl rfl ?_)
  intro v4 w4 ho hu4
  have hs4 := hu4.size
  obtain ⟨A4, c4, rfl, hc4⟩ := Own.form ho
  refine WL.val rfl rfl rfl rfl (r_assign rfl (ev_t rfl)) ?_
  refine WL.nil ?_
  refine WX.keep [(2, _)] ⟨rfl, trivial⟩ ?_
  refine WX.next ?_
  refine WC.ret ?_
  refine WX.retE1 rfl rfl ?_
  rw [show (#[Value.int .u8 (IntKind.u8.wrap (crc l : Int)), Value.int .u8 (IntKind.u8.wrap ((crc l : Int) / 2 ^ Int.toNat 8)), Value.int .u8 (IntKind.u8.wrap ((crc l : Int) / 2 ^ Int.toNat 16)), Value.int .u8 (IntKind.u8.wrap ((crc l : Int) / 2 ^ Int.toNat 24))] : Array Value).toList = (le4 (crc l)).map U8 from le4_bits _, ← List.map_append] at ho
  have h2 := hu2.size
  have h4 := hu4.size
  refine ⟨?_, (hu2.trans_same hu3).fresh hu4 (fun k hk => hk.1)⟩
  rw [sealB_length]
  exact ho.mono fun k hk => New.of hk (by omega) (by omega)

theorem open_ok {w : World} {F : Nat → Prop} {v : Value} {n : Nat} {l : List UInt8} (hr : Rd w F v n 1 (l.map U8)) (hl : l.length ≤ 140737488355000) :
    Ret Try.prog 35 #[v] w fun v' w' => ∃ u, v' = .tuple #[u, .int .i64 ((openB l).2 : Int)] ∧ Own w' (New w w') 5 1 u (openB l).1.length ((openB l).1.map U8) ∧ Upd No w w' := by
  obtain ⟨A, c, rfl, hle⟩ := hr.slice_form
  have hn := hr.lenB
  subst hn
  replace hr := hr.bound
  refine enterRet (vs := [_]) (N := 21) Try.func35 rfl rfl rfl ?_
  refine WC.keep [(0, _)] ⟨rfl, trivial⟩ ?_
  refine WC.seq ?_
  refine WC.region ?_
  refine WL.val rfl rfl rfl rfl (r_assign rfl ev_c) ?_
  refine WL.val rfl rfl rfl rfl (r_assign rfl ev_c) ?_
  refine WL.nil ?_
  refine WX.keep [(0, _)] ⟨rfl, trivial⟩ ?_
  refine WX.next ?_
  refine WC.seq ?_
  refine WC.region ?_
  refine WL.val rfl rfl rfl rfl (r_move rfl (ev_t rfl)) ?_
  refine WL.val rfl rfl rfl rfl (r_lenSlice (ts := #[]) rfl (ev_t rfl) elem_22) ?_
  first | refine WL.val rfl rfl rfl rfl (r_subN rfl (ev_t rfl) ev_c (by simp only [inK]; omega)) ?_ | refine WL.val rfl rfl rfl rfl (r_sub rfl (ev_t rfl) ev_c) ?_
  refine WL.val rfl rfl rfl rfl (r_assign rfl (ev_t rfl)) ?_
  refine WL.nil ?_
  refine WX.keep [(0, _), (4, _)] ⟨rfl, rfl, trivial⟩ ?_
  refine WX.next ?_
  refine WC.seq ?_
  refine WC.seq ?_
  refine WC.region ?_
  refine WL.val rfl rfl rfl rfl (r_move rfl (ev_t rfl)) ?_
  refine WL.val rfl rfl rfl rfl (r_lss rfl (ev_t rfl) ev_c) ?_
  refine WL.nil ?_
  refine WX.keep [(0, _), (4, _), (9, _)] ⟨rfl, rfl, rfl, trivial⟩ ?_
  refine WX.next ?_
  refine WC.cond rfl (ev_t rfl) (fun hc2 => ?_) (fun hc2 => ?_)
  · try (exfalso; first | (simp at hc2; done) | (simp only [decide_eq_true_eq, decide_eq_false_iff_not, Bool.not_eq_true', Bool.not_eq_false', Bool.not_eq_true, Bool.not_eq_false] at hc2; omega) | omega)
    all_goals
     try simp only [decide_eq_true_eq, decide_eq_false_iff_not, Bool.not_eq_true', Bool.not_eq_false', Bool.not_eq_true, Bool.not_eq_false, Option.isNone_none, Option.isNone_some, Option.isSome_none, Option.isSome_some, ne_eq, Decidable.not_not] at hc2
     refine WC.seq ?_
     refine WC.region ?_
     refine WL.val rfl rfl rfl rfl (r_assign rfl ev_c) ?_
     refine WL.val rfl rfl rfl rfl (r_assign rfl ev_c) ?_
     refine WL.nil ?_
     refine WX.keep [(2, _), (3, _)] ⟨rfl, rfl, trivial⟩ ?_
     refine WX.next ?_
     refine WC.ret ?_
     refine WX.thenRet ?_
     refine WX.retE2 rfl rfl rfl ?_
     have ho : openB l = ([], 3) := by unfold openB; rw [if_pos (by omega)]
     rw [ho]
     exact ⟨_, rfl, Own.nil _ _ _ _, Upd.refl _ _⟩
  · try (exfalso; first | (simp at hc2; done) | (simp only [decide_eq_true_eq, decide_eq_false_iff_not, Bool.not_eq_true', Bool.not_eq_false', Bool.not_eq_true, Bool.not_eq_false] at hc2; omega) | omega)
    all_goals
     try simp only [decide_eq_true_eq, decide_eq_false_iff_not, Bool.not_eq_true', Bool.not_eq_false', Bool.not_eq_true, Bool.not_eq_false, Option.isNone_none, Option.isNone_some, Option.isSome_none, Option.isSome_some, ne_eq, Decidable.not_not] at hc2
     obtain ⟨n, hn⟩ : ∃ n : Nat, l.length = n + 4 := ⟨l.length - 4, by omega⟩
     have hcut : ((l.length : Nat) : Int) - 4 = (n : Int) := by omega
     rw [hcut]
     refine WC.skip ?_
     refine WX.next ?_
     refine WC.seq ?_
     refine WC.seq ?_
     refine WC.region ?_
     refine WL.val rfl rfl rfl rfl (r_move rfl (ev_t rfl)) ?_
     refine WL.val rfl rfl rfl rfl (r_move rfl (ev_t rfl)) ?_
     refine WL.val rfl rfl rfl rfl (r_slice (l := 0) (h := n) rfl (ev_t rfl) elem_22 size_5 bnd_none (bnd_some (ev_t rfl) (by omega)) (by omega) (by omega) (by omega)) ?_
     refine WL.cons (SO.call (seal_ok (l := l.take n) (by have := hr.sliceB (lo := 0) (h := n) (by omega) (by omega); simpa using this) (by rw [List.length_take]; omega)) rfl body_37 ⟨(ev_t rfl), trivial⟩ rfl rfl rfl rfl ?_)
     rintro v1 w1 ⟨ho, hu1⟩
     have hs1 := hu1.size
     replace hr := hr.updA hu1
     refine WL.val rfl rfl rfl rfl (r_move rfl (ev_t rfl)) ?_
     refine WL.cons (SO.call (equal_ok (ho.rd (by rw [sealB_length, List.length_take]; omega)) hr) rfl body_44 ⟨(ev_t rfl), (ev_t rfl), trivial⟩ rfl rfl rfl rfl ?_)
     rintro v2 w2 ⟨rfl, hu2⟩
     have hs2 := hu2.size
     replace hr := hr.updA hu2
     replace ho := ho.updA hu2
     refine WL.val rfl rfl rfl rfl (r_not rfl (ev_t rfl)) ?_
     refine WL.nil ?_
     refine WX.keep [(0, _), (4, _), (16, _)] ⟨rfl, rfl, rfl, trivial⟩ ?_
     refine WX.next ?_
     refine WC.cond rfl (ev_t rfl) (fun hc4 => ?_) (fun hc4 => ?_)
     · try (exfalso; first | (simp at hc4; done) | (simp only [decide_eq_true_eq, decide_eq_false_iff_not, Bool.not_eq_true', Bool.not_eq_false', Bool.not_eq_true, Bool.not_eq_false] at hc4; omega) | omega)
       all_goals
        try simp only [decide_eq_true_eq, decide_eq_false_iff_not, Bool.not_eq_true', Bool.not_eq_false', Bool.not_eq_true, Bool.not_eq_false, Option.isNone_none, Option.isNone_some, Option.isSome_none, Option.isSome_some, ne_eq, Decidable.not_not] at hc4
        refine WC.seq ?_
        refine WC.region ?_
        refine WL.val rfl rfl rfl rfl (r_assign rfl ev_c) ?_
        refine WL.val rfl rfl rfl rfl (r_assign rfl ev_c) ?_
        refine WL.nil ?_
        refine WX.keep [(2, _), (3, _)] ⟨rfl, rfl, trivial⟩ ?_
        refine WX.next ?_
        refine WC.ret ?_
        refine WX.thenRet ?_
        refine WX.retE2 rfl rfl rfl ?_
        have he : openB l = ([], 14) := by
          unfold openB
          rw [if_neg (by omega), show l.length - 4 = n by omega, if_neg hc4]
        rw [he]
        exact ⟨_, rfl, Own.nil _ _ _ _, hu1.trans_same hu2⟩
     · try (exfalso; first | (simp at hc4; done) | (simp only [decide_eq_true_eq, decide_eq_false_iff_not, Bool.not_eq_true', Bool.not_eq_false', Bool.not_eq_true, Bool.not_eq_false] at hc4; omega) | omega)
       all_goals
        try simp only [decide_eq_true_eq, decide_eq_false_iff_not, Bool.not_eq_true', Bool.not_eq_false', Bool.not_eq_true, Bool.not_eq_false, Option.isNone_none, Option.isNone_some, Option.isSome_none, Option.isSome_some, ne_eq, Decidable.not_not] at hc4
        refine WC.skip ?_
        refine WX.next ?_
        refine WC.seq ?_
        refine WC.region ?_
        refine WL.val rfl rfl rfl rfl (r_move rfl (ev_t rfl)) ?_
        refine WL.val rfl rfl rfl rfl (r_move rfl (ev_t rfl)) ?_
        refine WL.val rfl rfl rfl rfl (r_slice (l := 0) (h := n) rfl (ev_t rfl) elem_22 size_5 bnd_none (bnd_some (ev_t rfl) (by omega)) (by omega) (by omega) (by omega)) ?_
        refine WL.cons (SO.call (clone_ok (l := l.take n) (n := n - 0) (by have := hr.sliceB (lo := 0) (h := n) (by omega) (by omega); simpa using this)) rfl body_18 ⟨(ev_t rfl), trivial⟩ rfl rfl rfl rfl ?_)
        rintro v3 w3 ⟨ho3, hu3⟩
        refine WL.val rfl rfl rfl rfl (r_assign rfl (ev_t rfl)) ?_
        refine WL.val rfl rfl rfl rfl (r_assign rfl ev_c) ?_
        refine WL.nil ?_
        refine WX.keep [(2, _), (3, _)] ⟨rfl, rfl, trivial⟩ ?_
        refine WX.next ?_
        refine WC.ret ?_
        refine WX.retE2 rfl rfl rfl ?_
        have he : openB l = (l.take n, 0) := by
          unfold openB
          rw [if_neg (by omega), show l.length - 4 = n by omega, if_pos hc4]
        rw [he]
        have hlt : (l.take n).length = n := by rw [List.length_take]; omega
        have h1 := hu1.size
        have h2 := hu2.size
        refine ⟨_, rfl, ?_, (hu1.trans_same hu2).trans_same hu3⟩
        show Own _ _ _ _ _ (l.take n).length _
        rw [hlt]
        exact ho3.mono fun k hk => ⟨by have := hk.1; omega, hk.2⟩
end Go.Proofs.Ytnjfhmlfpfkllaa

/-
  More operations: a field of a struct's value.
-/
namespace Go.Proofs.Ytnjfhmlfpfkllaa
open Go
set_option linter.unusedSimpArgs false
set_option linter.unusedVariables false

/-- the offset of a field that is of one cell -/
def fieldV (P : Program) (s : TypeId) (f : Nat) : Option Nat := match P.underlying s with
  | some (.struct fs) => match fs[f]? with
    | some q => if flatB P q.type then some q.offset else none
    | none => none
  | _ => none
section
variable {P : Program} {ρ : Operand → Value} {o : Oper} {w : World} {x : Operand} {t : TypeId}
theorem r_fieldV {f n : Nat} {cs : Array Value} {v : Value} (ho : o.op = .field t x f) (hx : ρ x = .agg cs) (hf : fieldV P t f = some n) (hv : cs[n]? = some v) : (execOp ρ o).run P w = .ok (.value v) w := by
  unfold fieldV at hf
  cases hu : P.underlying t with
  | none => simp [hu] at hf
  | some d =>
    rw [hu] at hf
    cases d <;> simp at hf
    rename_i fs
    cases hq : fs[f]? with
    | none => simp [hq] at hf
    | some q =>
      simp only [hq] at hf
      split at hf
      · rename_i hfl
        injection hf with hf
        subst hf
        simp [execOp, ho, hx, Instr.field, run_underlying hu, hq, asAgg, part, run_isAgg_flat hfl, hv]
      · cases hf
end
end Go.Proofs.Ytnjfhmlfpfkllaa

/-
  Function values: made, and called.
-/
namespace Go.Proofs.Ytnjfhmlfpfkllaa
open Go
set_option linter.unusedSimpArgs false
set_option linter.unusedVariables false

section
variable {P : Program} {N : Nat} {ops : Array Oper} {Q : Exit → Act → World → Prop} {o : Oper} {E : Env} {w w' : World} {d : Nat} {v : Value} {K : Env → World → Prop}
theorem r_makeFunc {f : FuncId} {xs ys : List Operand} {vs us : List Value} (hop : o.op = .makeFunc (.func f) xs.toArray ys.toArray) (h1 : evs E xs vs) (h2 : evs E ys us) :
    (execOp E.ev o).run P w = .ok (.value (.func (.func f) vs.toArray us.toArray)) w := by
  have e1 := evs_map h1
  have e2 := evs_map h2
  simp [execOp, hop, Instr.makeFunc, e1, e2]
theorem r_callV {f : FuncId} {x : Operand} {xs : List Operand} {ts : Array TypeId} {first cap vs : List Value} (hop : o.op = .call { callee := .value x, args := xs.toArray, argTypes := ts }) (hx : Env.ev E x = .func (.func f) first.toArray cap.toArray) (hb : hasBody P f = true) (hvs : evs E xs vs) :
    (execOp E.ev o).run P w = .ok (.enter f (first ++ (vs ++ cap)).toArray) w := by
  have e1 := evs_map hvs
  simp [execOp, hop, resolve, Deferred.ofValue, hx, invoke, e1, run_callFunc_body hb]
/-- a call of a function value -/
theorem SO.callV {f : FuncId} {x : Operand} {xs : List Operand} {ts : Array TypeId} {first cap vs all : List Value} {R : Value → World → Prop} (hop : o.op = .call { callee := .value x, args := xs.toArray, argTypes := ts }) (hx : Env.ev E x = .func (.func f) first.toArray cap.toArray) (hb : hasBody P f = true) (hvs : evs E xs vs)
    (hall : first ++ (vs ++ cap) = all) (hc : Ret P f all.toArray w R)
    (hd : o.dst = some d) (hN : Nat.blt d N = true) (ho : opsOK E o = true) (hw : wantedE ops E o = some true) (k : ∀ v w'', R v w'' → K ((d, v) :: E) w'') : SO P N ops Q o K E w :=
  SO.enter hd hN ho hw (r_callV hop hx hb hvs) (hall ▸ hc) k
end
end Go.Proofs.Ytnjfhmlfpfkllaa

/-
  Upd facts as tracked facts; rows copied into places; appended zeros.
-/
namespace Go.Proofs.Ytnjfhmlfpfkllaa
open Go
set_option linter.unusedSimpArgs false
set_option linter.unusedVariables false

theorem Upd.upd {S S' : Nat → Prop} {w w1 w2 : World} (h : Upd S w w1) (h' : Upd S' w1 w2) (hs : ∀ k, k < w.heap.size → S' k → S k) : Upd S w w2 := h.trans h' hs
theorem Upd.updA {S S' : Nat → Prop} {w w1 w2 : World} (h : Upd S w w1) (h' : Upd S' w1 w2) (hs : ∀ k, k < w.heap.size → S' k → S k := by first | exact (fun _ _ h => h) | exact (fun _ _ h => h.elim) | (intro k hl hk; (try simp only [At, New, Grow, From, No] at hk ⊢); omega)) : Upd S w w2 := h.trans h' hs

section
variable {P : Program} {o : Oper} {w : World} {x y : Operand} {t : TypeId} {N : Nat} {ops : Array Oper} {Q : Exit → Act → World → Prop} {K : Env → World → Prop} {E : Env}

theorem run_copy_at (w : World) (dT sT ty elem : TypeId) (g o dLen dCap sz : Nat) (a : Addr) (sLen sCap : Nat) (cur : Array Value) (t : TypeId) (cs : List Value)
    (hu : P.underlying dT = some (.slice elem)) (hs : sizeIs P elem sz = true) (hm : Nat) (hmn : hm = Nat.min sLen dLen)
    (hg : w.heap[g]? = some (.cells cur t (0, 0))) (hn : cs.length = hm * sz)
    (hsrc : ∀ j v, cs[j]? = some v → w.cell? (a.add j) = some v) (hfit : o + cs.length ≤ cur.size) (h1 : ∀ v ∈ cs, v.oneCell' = true) :
    (Builtin.copy_ #[dT, sT] ty #[.slice (some ⟨g, o, none⟩) dLen dCap, .slice (some a) sLen sCap]).run P w =
      .ok (goInt hm) (w.setRow g (cur.toList.take o ++ cs ++ cur.toList.drop (o + cs.length)).toArray) := by
  have hl := run_loadCells_list (P := P) w a cs hsrc
  have hst := run_storeCells_at P g o t cs 0 cur w hg (by simpa using hfit) h1
  cases hq : P.info? elem with
  | none => simp [sizeIs, hq] at hs
  | some i =>
    have hi : i.size = sz := by simpa [sizeIs, hq] using hs
    rw [hn] at hl
    simp [Builtin.copy_, run_underlying hu, Builtin.lenOf, Builtin.firstCells, sizeOf, typeInfo, hq, hi, ← hmn, hl, hst]

/-- some elements copied into a row -/
theorem SO.copyAt {d : Nat} {t2 e : TypeId} {g off n c m c2 b2 off2 sz k : Nat} {cur : Array Value} {T : TypeId} {xs : List Value} (hk : k = Nat.min m n) (hb : Blk w g cur T) (hl : xs.length = k * sz) (hsrc : ∀ j u, xs[j]? = some u → w.cell? ⟨b2, off2 + j, none⟩ = some u)
    (h1 : ∀ u ∈ xs, u.oneCell' = true) (hfit : off + xs.length ≤ cur.size) (hu : sliceElem P t = some e) (hs : sizeIs P e sz = true)
    (hop : o.op = .call { callee := .builtin .copy, args := #[x, y], argTypes := #[t, t2] }) (hx : Env.ev E x = .slice (some ⟨g, off, none⟩) n c) (hy : Env.ev E y = .slice (some ⟨b2, off2, none⟩) m c2)
    (hd : o.dst = some d) (hN : Nat.blt d N = true) (ho : opsOK E o = true) (hw : wantedE ops E o = some true)
    (kk : ∀ w', Upd (At g) w w' → Blk w' g (cur.toList.take off ++ xs ++ cur.toList.drop (off + xs.length)).toArray T → w'.heap.size = w.heap.size → K ((d, .int .i64 (k : Int)) :: E) w') : SO P N ops Q o K E w := by
  have hrun := run_copy_at (P := P) w t t2 o.type e g off n c sz ⟨b2, off2, none⟩ m c2 cur T xs (sliceElem_und hu) hs k hk hb hl (fun j u hj => by rw [Addr.add_lit]; exact hsrc j u hj) hfit h1
  refine SO.val (v := .int .i64 (k : Int)) hd hN ho hw ?_ (kk _ (Upd.setRow _ _ _) (setRow_heap w g cur _ T _ hb) (by simp [World.setRow]))
  unfold execOp
  simp only [hop, resolve, invoke, builtin, Sem.run_bind, Sem.run_pure, Result.andThen_ok, List.map_toArray, List.map_cons, List.map_nil, hx, hy, hrun]
  rfl
/-- what a slice holds, and as many zeros more: a new row -/
theorem SO.appendZeros {d : Nat} {tn e : TypeId} {by_ sz n c k : Nat} {z : Value} {A : Option Addr} {xs : List Value} {F : Nat → Prop} {kq kn : IntKind} (hr : Rd w F (.slice A n c) n sz xs) (ht : RowT P t e sz by_ z) (htn : P.underlying tn = some (.int kn))
    (h0 : 0 < k) (hg : c < n + k) (hb : (n + k) * by_ ≤ 140737488355328) (hm : n + k ≤ 140737488355328) (hp : 0 < by_)
    (hop : o.op = .call { callee := .builtin .append, args := #[x, y], argTypes := #[t, tn] }) (hx : Env.ev E x = .slice A n c) (hy : Env.ev E y = .int kq (k : Int))
    (hd : o.dst = some d) (hN : Nat.blt d N = true) (ho : opsOK E o = true) (hw : wantedE ops E o = some true)
    (kk : ∀ (w' : World) (C : Nat) (cs : Array Value), Upd No w w' → Blk w' w.heap.size cs e → n + k ≤ C → C ≤ maxLen → cs.size = C * sz → cs.toList.take (n * sz) = xs → w'.heap.size = w.heap.size + 1 → K ((d, .slice (some ⟨w.heap.size, 0, none⟩) (n + k) C) :: E) w') : SO P N ops Q o K E w := by
  obtain ⟨i, hi, hz, hsz, hby⟩ := ht.parts
  have hold : (Builtin.firstCells i.size n (.slice A n c)).run P w.drew = .ok xs.toArray w.drew := by
    rw [hsz]
    rcases hr.src ht.pos with ⟨h, hxs, A', c', e9⟩ | ⟨ad, c', e9, hc⟩
    · subst h
      subst hxs
      cases A with
      | none => simp [Builtin.firstCells, loadCells, loadCellsFrom]
      | some a => simp [Builtin.firstCells, loadCells, loadCellsFrom]
    · injection e9 with e1 e2 e3
      subst e1 e3
      exact run_firstCells_some w.drew sz n ad n c xs hr.len (fun j u hj => hc j u hj)
  have hfit : Builtin.nextslicecap (n + k) c * i.bytes ≤ 281474976710656 := by rw [hby]; exact growslice_fits hg hb
  have hrun := Lib.run_append_grow_zeros (P := P) w t tn o.type e i z kq kn ht.und htn hi hz A n c xs hold k h0 (by rw [hsz]; exact ht.pos) hg (by omega) (by
    rw [hby]
    have : k * by_ ≤ (n + k) * by_ := Nat.mul_le_mul_right _ (by omega)
    omega) hfit
  have hC1 : n + k ≤ grownCap w (n + k) c e := grownCap_ge _ _ _ _
  have hC2 : grownCap w (n + k) c e ≤ maxLen := grownCap_le_maxLen _ _ _ _ (le_maxLen hm)
  have hzc : ∀ m, (Builtin.zeroCells z.cells m).size = m * sz := fun m => by simp [Builtin.zeroCells, ht.cells]
  refine SO.val hd hN ho hw (v := .slice (some ⟨w.heap.size, 0, none⟩) (n + k) (grownCap w (n + k) c e)) (w' := w.drew.alloc (.cells (xs.toArray ++ Builtin.zeroCells z.cells k ++ Builtin.zeroCells z.cells (grownCap w (n + k) c e - (n + k))) e)) ?_
    (kk _ _ (xs.toArray ++ Builtin.zeroCells z.cells k ++ Builtin.zeroCells z.cells (grownCap w (n + k) c e - (n + k))) ?_ (Blk.alloc_new w.drew _ _) hC1 hC2 ?_ ?_ ?_)
  · unfold execOp
    simp only [hop, resolve, invoke, builtin, Sem.run_bind, Sem.run_pure, Result.andThen_ok, List.map_toArray, List.map_cons, List.map_nil, hx, hy, hrun]
  · exact (Upd.drew No w).trans_same (Upd.alloc No _ _)
  · rw [Array.size_append, Array.size_append, hzc, hzc, List.size_toArray, hr.len, ← Nat.add_mul, ← Nat.add_mul]
    congr 1
    omega
  · rw [Array.toList_append, Array.toList_append, List.append_assoc, List.take_left' hr.len]
  · simp

theorem r_capSlice {ρ : Operand → Value} {e : TypeId} {A : Option Addr} {len cap : Nat} {ts : Array TypeId} (ho : o.op = .call { callee := .builtin .cap, args := #[x], argTypes := #[t] }) (hx : ρ x = .slice A len cap) (hu : sliceElem P t = some e) :
    (execOp ρ o).run P w = .ok (.value (.int .i64 cap)) w := by
  unfold sliceElem at hu
  cases hd : P.underlying t with
  | none => simp [hd] at hu
  | some d =>
    rw [hd] at hu
    cases d <;> simp at hu
    simp [execOp, ho, resolve, invoke, builtin, hx, Builtin.cap_, run_underlying hd, goInt]

theorem cutA_lt {g off c l sz : Nat} (h : l < c) : cutA (some ⟨g, off, none⟩) c l sz = some ⟨g, off + l * sz, none⟩ := by
  unfold cutA
  rw [if_neg (by omega)]
  simp [Addr.add_lit]
theorem cutA_zero {A : Option Addr} {c sz : Nat} : cutA A c 0 sz = A := by
  unfold cutA
  split
  · rfl
  · cases A with
    | none => rfl
    | some a => simp [Addr.add_zero']

/-- a call of what the model gives itself -/
theorem SO.extern {d : Nat} {f : FuncId} {fn : Func} {ext : Array Value → Sem Value} {xs : List Operand} {ts : Array TypeId} {vs : List Value} {v : Value} {w' : World} (hf : P.funcs[f]? = some fn) (hname : (fn.name == "runtime.NumGoroutine") = false)
    (hb : fn.body.isNone = true) (hn : Extern.findNext fn = none) (he : Extern.find fn = some ext) (hrun : (ext vs.toArray).run P w = .ok v w')
    (hop : o.op = .call { callee := .value (.func f), args := xs.toArray, argTypes := ts }) (hvs : evs E xs vs)
    (hd : o.dst = some d) (hN : Nat.blt d N = true) (ho : opsOK E o = true) (hw : wantedE ops E o = some true) (k : K ((d, v) :: E) w') : SO P N ops Q o K E w := by
  have e1 := evs_map hvs
  have h2 := run_callFunc_extern (P := P) hf hname hb hn he vs.toArray w
  rw [hrun] at h2
  refine SO.val hd hN ho hw ?_ k
  simp [execOp, hop, resolve, Deferred.ofValue, Env.ev, invoke, e1, h2, Result.andThen]

theorem SO.overlaps {d : Nat} {f : FuncId} {fn : Func} {ts : Array TypeId} {tR e : TypeId} {ga oa gb ob la ca lb cb sz : Nat} {csA csB : Array Value} {TA TB : TypeId} (hf : P.funcs[f]? = some fn) (hname : (fn.name == "runtime.NumGoroutine") = false)
    (hb : fn.body.isNone = true) (hn : Extern.findNext fn = none) (he : Extern.find fn = some (Extern.SlicesOverlaps.overlaps #[t, t] #[tR])) (hu : sliceElem P t = some e) (hs : sizeIs P e sz = true)
    (hA : Blk w ga csA TA) (hB : Blk w gb csB TB) (hne : ga ≠ gb) (h0 : csB.size ≠ 0)
    (hop : o.op = .call { callee := .value (.func f), args := #[x, y], argTypes := ts }) (hx : Env.ev E x = .slice (some ⟨ga, oa, none⟩) la ca) (hy : Env.ev E y = .slice (some ⟨gb, ob, none⟩) lb cb)
    (hd : o.dst = some d) (hN : Nat.blt d N = true) (ho : opsOK E o = true) (hw : wantedE ops E o = some true) (k : K ((d, .bool false) :: E) w) : SO P N ops Q o K E w := by
  have hrun := Lib.run_overlaps_apart (P := P) w t tR e (sliceElem_und hu) sz (fun w => run_sizeOf hs) ⟨ga, oa, none⟩ ⟨gb, ob, none⟩ la ca lb cb hne TA TB csA.size csB.size (by
    unfold Blk at hA; simp [World.shape?, hA]) (by unfold Blk at hB; simp [World.shape?, hB]) h0 (hA.free _) (hA.free _)
  exact SO.extern (xs := [x, y]) (vs := [_, _]) hf hname hb hn he hrun hop ⟨hx, hy, trivial⟩ hd hN ho hw k

/-- a slice up to its capacity -/
theorem r_sliceC {ρ : Operand → Value} {e : TypeId} {A : Option Addr} {n c l h sz : Nat} {lo hi : Option Operand} (ho : o.op = .slice t x lo hi none) (hx : ρ x = .slice A n c) (hu : sliceElem P t = some e) (hz : sizeIs P e sz = true)
    (hlo : bnd ρ lo 0 l) (hhi : bnd ρ hi n h) (h1 : l ≤ h) (h2 : h ≤ c) : (execOp ρ o).run P w = .ok (.value (.slice (cutA A c l sz) (h - l) (c - l))) w := by
  unfold sliceElem at hu
  cases hd : P.underlying t with
  | none => simp [hd] at hu
  | some d =>
    rw [hd] at hu
    cases d <;> simp at hu
    subst hu
    have hsz := run_sizeOf (P := P) (w := w) hz
    unfold cutA
    rcases hlo with ⟨rfl, rfl⟩ | ⟨y1, k1, b1, rfl, hy1, hb1⟩ <;> rcases hhi with ⟨rfl, rfl⟩ | ⟨y2, k2, b2, rfl, hy2, hb2⟩
    · simp [execOp, ho, hx, Instr.sliceAt, Instr.slice, run_underlying hd, Instr.sliceBounds, hsz]
    · simp [execOp, ho, hx, hy2, Instr.sliceAt, Instr.slice, run_underlying hd, Instr.sliceBounds, hsz, run_sliceBound_in hb2 h2]
    · simp [execOp, ho, hx, hy1, Instr.sliceAt, Instr.slice, run_underlying hd, Instr.sliceBounds, hsz, run_sliceBound_in hb1 h1]
    · simp [execOp, ho, hx, hy1, hy2, Instr.sliceAt, Instr.slice, run_underlying hd, Instr.sliceBounds, hsz, run_sliceBound_in hb1 h1, run_sliceBound_in hb2 h2]
end

theorem ins_grow {cs rc xs : List Value} {a s N M : Nat} (ha : a ≤ N) (hx : xs.length = N) (hrc : rc.length = s) (hc : N + s ≤ cs.length) (h : cs.take a = xs.take a) (hM : M = a + s + (N - a)) :
    ((cs.take a ++ rc ++ cs.drop (a + s)).take (a + s) ++ xs.drop a ++ (cs.take a ++ rc ++ cs.drop (a + s)).drop M).take (N + s) = xs.take a ++ rc ++ xs.drop a := by
  have e1 : (cs.take a ++ rc ++ cs.drop (a + s)).take (a + s) = xs.take a ++ rc := by
    rw [List.take_left' (by simp only [List.length_append, List.length_take, hrc]; omega), h]
  rw [e1, List.take_left' (by simp only [List.length_append, List.length_take, List.length_drop, hrc, hx]; omega)]
theorem ins_shift {cur rc xs : List Value} {a s N M : Nat} (ha : a ≤ N) (hx : cur.take N = xs) (hrc : rc.length = s) (hc : N + s ≤ cur.length) (hM : M = a + s + (N - a)) :
    ((cur.take (a + s) ++ xs.drop a ++ cur.drop M).take a ++ rc ++ (cur.take (a + s) ++ xs.drop a ++ cur.drop M).drop (a + s)).take (N + s) = xs.take a ++ rc ++ xs.drop a := by
  subst hM
  have hxl : xs.length = N := by rw [← hx, List.length_take]; omega
  have e1 : (cur.take (a + s) ++ xs.drop a ++ cur.drop (a + s + (N - a))).take a = xs.take a := by
    rw [List.append_assoc, List.take_append_of_le_length (by rw [List.length_take]; omega), List.take_take, ← hx, List.take_take]
    congr 1
    omega
  have e2 : (cur.take (a + s) ++ xs.drop a ++ cur.drop (a + s + (N - a))).drop (a + s) = xs.drop a ++ cur.drop (a + s + (N - a)) := by
    rw [List.append_assoc, List.drop_left' (by rw [List.length_take]; omega)]
  rw [e1, e2, ← List.append_assoc, List.take_left' (by simp only [List.length_append, List.length_take, List.length_drop, hrc, hxl]; omega)]

/-- a condition whose temporary is asked again -/
theorem WC.condT {P : Program} {N : Nat} {Q : Exit → Act → World → Prop} {x y : Code} {E : Env} {w : World} {t : Nat} {b : Bool} (hb : Env.get E t = some (.bool b)) (k1 : b = true → WC P N Q x ((t, .bool true) :: E) w) (k2 : b = false → WC P N Q y ((t, .bool false) :: E) w) : WC P N Q (.cond (.tmp t) x y) E w := by
  have hsub : ∀ c : Bool, b = c → ∀ a, Sat N E a → Sat N ((t, .bool c) :: E) a := fun c e a h => ⟨h.size, h.defers, fun s v hs => by
    simp only [Env.get] at hs
    split at hs
    · rename_i hq
      have := Nat.eq_of_beq_eq_true hq
      subst this
      injection hs with hs
      subst hs
      rw [← e]
      exact h.vals _ _ hb
    · exact h.vals s v hs⟩
  refine WC.cond (b := b) (by simp [Env.has, hb]) (by simp [Env.ev, hb]) (fun e => ?_) (fun e => ?_)
  · exact fun a h => k1 e a (hsub true e a h)
  · exact fun a h => k2 e a (hsub false e a h)
end Go.Proofs.Ytnjfhmlfpfkllaa
