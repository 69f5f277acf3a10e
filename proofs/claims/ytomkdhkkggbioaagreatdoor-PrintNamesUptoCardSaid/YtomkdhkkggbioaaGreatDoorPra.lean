/-
  Names of variables; numbers in digits, the reference's.
-/
import Derived.Test.YtomkdhkkggbioaaGreatDoorPrR
import Derived.Test.YtomkdhkkggbioaaGreatDoorFn
namespace Go.Proofs.YtomkdhkkggbioaaGreatDoor
open Go
set_option linter.unusedSimpArgs false
set_option linter.unusedVariables false

theorem decD_len20 {u : Nat} (h : u < 100000000000000000000) : (Lib.decDigits u).length ≤ 20 := by
  rw [Lib.decDigits_length]
  rcases Nat.lt_or_ge 20 (Lib.nDigits u) with h9 | h9
  · exfalso
    have h8 : ∀ (k v : Nat), k < Lib.nDigits v → 10 ^ k ≤ v ∨ k = 0 := by
      intro k
      induction k with
      | zero => intro v _; exact .inr rfl
      | succ k ih =>
        intro v hv
        by_cases h10 : v < 10
        · rw [Lib.nDigits_small h10] at hv; omega
        · rw [Lib.nDigits_big h10] at hv
          rcases ih (v / 10) (by omega) with h7 | h7
          · left; rw [Nat.pow_succ]; omega
          · subst h7; left; rw [Nat.pow_succ, Nat.pow_zero]; omega
    rcases h8 20 u h9 with h7 | h7
    · rw [show (10 : Nat) ^ 20 = 100000000000000000000 by decide] at h7; omega
    · cases h7
  · exact h9
theorem itoa_len {n : Int} (hn : inK .i64 n) : (Lib.itoa n).length ≤ 21 := by
  simp only [inK] at hn
  unfold Lib.itoa
  split
  · rw [List.length_cons]
    have := decD_len20 (u := n.natAbs) (by omega)
    omega
  · have := decD_len20 (u := n.toNat) (by omega)
    omega
theorem varS_len {n : Int} (hn : inK .i64 n) : (varS n).length ≤ 23 := by
  have := itoa_len hn
  unfold varS
  split
  · simp
  · simp only [List.length_cons]; omega

theorem Var_ok {w : World} {n : Int} (hn : inK .i64 n) (ht : Pow10 w) : Ret Tryz.prog 19 #[.int .i64 n] w fun v w' => v = Sv (varS n) ∧ Upd No w w' := by
  have hl := itoa_len hn
  have hn9 := hn
  simp only [inK] at hn9
  refine enterRet (vs := [_]) (N := 18) Tryz.func19 rfl rfl rfl ?_
  have hU := Upd.refl No w
  refine WC.keep [(0, _)] ⟨rfl, trivial⟩ ?_
  refine WC.seq ?_
  refine WC.region ?_
  refine WL.val rfl rfl rfl rfl (r_assign rfl ev_c) ?_
  refine WL.nil ?_
  refine WX.keep [(0, _)] ⟨rfl, trivial⟩ ?_
  refine WX.next ?_
  refine WC.seq ?_
  refine WC.seq ?_
  refine WC.region ?_
  refine WL.val rfl rfl rfl rfl (r_move rfl (ev_t rfl)) ?_
  refine WL.val rfl rfl rfl rfl (r_geq rfl (ev_t rfl) ev_c) ?_
  refine WL.val rfl rfl rfl rfl (r_move rfl (ev_t rfl)) ?_
  refine WL.cases 5 rfl (fun hb1_2 => ?_) (fun hb1_2 => ?_)
  · try (exfalso; first | (simp at hb1_2; done) | (simp only [decide_eq_true_eq, decide_eq_false_iff_not, Bool.not_eq_true', Bool.not_eq_false', Bool.not_eq_true, Bool.not_eq_false] at hb1_2; omega) | omega)
    all_goals
     try simp only [decide_eq_true_eq, decide_eq_false_iff_not, Bool.not_eq_true', Bool.not_eq_false', Bool.not_eq_true, Bool.not_eq_false, Option.isNone_none, Option.isNone_some, Option.isSome_none, Option.isSome_some, ne_eq, Decidable.not_not] at hb1_2
     refine WL.val rfl rfl rfl rfl (r_move rfl (ev_t rfl)) ?_
     refine WL.val rfl rfl rfl rfl (r_leq rfl (ev_t rfl) ev_c) ?_
     refine WL.val rfl rfl rfl rfl (r_pickT rfl (ev_t rfl) (ev_t rfl)) ?_
     refine WL.nil ?_
     refine WX.keep [(0, _), (8, _)] ⟨rfl, rfl, trivial⟩ ?_
     refine WX.next ?_
     refine WC.cond rfl (ev_t rfl) (fun hc1 => ?_) (fun hc1 => ?_)
     · try (exfalso; first | (simp at hc1; done) | (simp only [decide_eq_true_eq, decide_eq_false_iff_not, Bool.not_eq_true', Bool.not_eq_false', Bool.not_eq_true, Bool.not_eq_false] at hc1; omega) | omega)
       all_goals
        try simp only [decide_eq_true_eq, decide_eq_false_iff_not, Bool.not_eq_true', Bool.not_eq_false', Bool.not_eq_true, Bool.not_eq_false, Option.isNone_none, Option.isNone_some, Option.isSome_none, Option.isSome_some, ne_eq, Decidable.not_not] at hc1
        refine WC.seq ?_
        refine WC.region ?_
        refine WL.val rfl rfl rfl rfl (r_move rfl (ev_t rfl)) ?_
        first | refine WL.val rfl rfl rfl rfl (r_addN rfl ev_c (ev_t rfl) (by simp only [inK]; omega)) ?_ | refine WL.val rfl rfl rfl rfl (r_add rfl ev_c (ev_t rfl)) ?_
        first | refine WL.val rfl rfl rfl rfl (r_subN rfl (ev_t rfl) ev_c (by simp only [inK]; omega)) ?_ | refine WL.val rfl rfl rfl rfl (r_sub rfl (ev_t rfl) ev_c) ?_
        first | refine WL.val rfl rfl rfl rfl (r_convN rfl (ev_t rfl) some_3 int_21 (by simp only [inK]; omega)) ?_ | refine WL.val rfl rfl rfl rfl (r_conv rfl (ev_t rfl) some_3 int_21) ?_
        rw [show (97 : Int) + n - 1 = ((96 + n.toNat : Nat) : Int) by omega]
        refine WL.val rfl rfl rfl rfl (r_runeStr rfl (ev_t rfl) int_21 str_9 (by omega)) ?_
        refine WL.val rfl rfl rfl rfl (r_addStrL (s := [39]) (s' := [UInt8.ofNat (96 + n.toNat)]) rfl ev_c (ev_t rfl) (by simp)) ?_
        refine WL.val rfl rfl rfl rfl (r_assign rfl (ev_t rfl)) ?_
        refine WL.nil ?_
        refine WX.keep [(2, _)] ⟨rfl, trivial⟩ ?_
        refine WX.next ?_
        refine WC.ret ?_
        refine WX.thenRet ?_
        refine WX.retE1 rfl rfl ?_
        exact ⟨by unfold varS Sv; rw [if_pos (by omega)]; rfl, hU⟩
     · try (exfalso; first | (simp at hc1; done) | (simp only [decide_eq_true_eq, decide_eq_false_iff_not, Bool.not_eq_true', Bool.not_eq_false', Bool.not_eq_true, Bool.not_eq_false] at hc1; omega) | omega)
       all_goals
        try simp only [decide_eq_true_eq, decide_eq_false_iff_not, Bool.not_eq_true', Bool.not_eq_false', Bool.not_eq_true, Bool.not_eq_false, Option.isNone_none, Option.isNone_some, Option.isSome_none, Option.isSome_some, ne_eq, Decidable.not_not] at hc1
        refine WC.skip ?_
        refine WX.next ?_
        refine WC.seq ?_
        refine WC.region ?_
        refine WL.val rfl rfl rfl rfl (r_move rfl (ev_t rfl)) ?_
        refine WL.cons (SO.call (itoa_ok hn (ht.upd hU (fun k _ h => h))) rfl body_38 ⟨(ev_t rfl), trivial⟩ rfl rfl rfl rfl ?_)
        rintro v9 w1 ⟨rfl, hu1⟩
        have hs1 := hu1.size
        replace hU := hU.transA hu1
        refine WL.val rfl rfl rfl rfl (r_addStrL (s := [39, 116]) (s' := Lib.itoa n) rfl ev_c (ev_t rfl) (by simp only [List.length_cons, List.length_nil]; omega)) ?_
        refine WL.val rfl rfl rfl rfl (r_assign rfl (ev_t rfl)) ?_
        refine WL.nil ?_
        refine WX.keep [(2, _)] ⟨rfl, trivial⟩ ?_
        refine WX.next ?_
        refine WC.ret ?_
        refine WX.retE1 rfl rfl ?_
        exact ⟨by unfold varS Sv; rw [if_neg (by omega)]; rfl, hU⟩
  · try (exfalso; first | (simp at hb1_2; done) | (simp only [decide_eq_true_eq, decide_eq_false_iff_not, Bool.not_eq_true', Bool.not_eq_false', Bool.not_eq_true, Bool.not_eq_false] at hb1_2; omega) | omega)
    all_goals
     try simp only [decide_eq_true_eq, decide_eq_false_iff_not, Bool.not_eq_true', Bool.not_eq_false', Bool.not_eq_true, Bool.not_eq_false, Option.isNone_none, Option.isNone_some, Option.isSome_none, Option.isSome_some, ne_eq, Decidable.not_not] at hb1_2
     refine WL.skip rfl rfl rfl ?_
     refine WL.skip rfl rfl rfl ?_
     refine WL.val rfl rfl rfl rfl (r_pickF rfl (ev_t rfl) ev_c) ?_
     refine WL.nil ?_
     refine WX.keep [(0, _), (8, _)] ⟨rfl, rfl, trivial⟩ ?_
     refine WX.next ?_
     refine WC.cond_false rfl (ev_t rfl) ?_
     refine WC.skip ?_
     refine WX.next ?_
     refine WC.seq ?_
     refine WC.region ?_
     refine WL.val rfl rfl rfl rfl (r_move rfl (ev_t rfl)) ?_
     refine WL.cons (SO.call (itoa_ok hn (ht.upd hU (fun k _ h => h))) rfl body_38 ⟨(ev_t rfl), trivial⟩ rfl rfl rfl rfl ?_)
     rintro v9 w2 ⟨rfl, hu2⟩
     have hs2 := hu2.size
     replace hU := hU.transA hu2
     refine WL.val rfl rfl rfl rfl (r_addStrL (s := [39, 116]) (s' := Lib.itoa n) rfl ev_c (ev_t rfl) (by simp only [List.length_cons, List.length_nil]; omega)) ?_
     refine WL.val rfl rfl rfl rfl (r_assign rfl (ev_t rfl)) ?_
     refine WL.nil ?_
     refine WX.keep [(2, _)] ⟨rfl, trivial⟩ ?_
     refine WX.next ?_
     refine WC.ret ?_
     refine WX.retE1 rfl rfl ?_
     exact ⟨by unfold varS Sv; rw [if_neg (by omega)]; rfl, hU⟩

theorem digits_ok : ∀ (u : Nat) (w : World), u < 18446744073709551616 → Ret Tryz.prog 63 #[.int .u64 (u : Int)] w fun v w' => v = Sv (Lib.decDigits u) ∧ Upd No w w' := by
  intro u
  induction u using Nat.strongRecOn with
  | ind u ih =>
  intro w hu
  have hl := decD_len20 (u := u / 10) (by omega)
  refine enterRet (vs := [_]) (N := 17) Tryz.func63 rfl rfl rfl ?_
  have hU := Upd.refl No w
  refine WC.keep [(0, _)] ⟨rfl, trivial⟩ ?_
  refine WC.seq ?_
  refine WC.region ?_
  refine WL.val rfl rfl rfl rfl (r_assign rfl ev_c) ?_
  refine WL.nil ?_
  refine WX.keep [(0, _)] ⟨rfl, trivial⟩ ?_
  refine WX.next ?_
  refine WC.seq ?_
  refine WC.region ?_
  refine WL.val rfl rfl rfl rfl (r_assign rfl ev_c) ?_
  refine WL.nil ?_
  refine WX.keep [(0, _), (3, _)] ⟨rfl, rfl, trivial⟩ ?_
  refine WX.next ?_
  refine WC.seq ?_
  refine WC.seq ?_
  refine WC.region ?_
  refine WL.val rfl rfl rfl rfl (r_move rfl (ev_t rfl)) ?_
  refine WL.val rfl rfl rfl rfl (r_gtr rfl (ev_t rfl) ev_c) ?_
  refine WL.nil ?_
  refine WX.keep [(0, _), (3, _), (5, _)] ⟨rfl, rfl, rfl, trivial⟩ ?_
  refine WX.next ?_
  refine WC.cond rfl (ev_t rfl) (fun hc2 => ?_) (fun hc2 => ?_)
  · try (exfalso; first | (simp at hc2; done) | (simp only [decide_eq_true_eq, decide_eq_false_iff_not, Bool.not_eq_true', Bool.not_eq_false', Bool.not_eq_true, Bool.not_eq_false] at hc2; omega) | omega)
    all_goals
     try simp only [decide_eq_true_eq, decide_eq_false_iff_not, Bool.not_eq_true', Bool.not_eq_false', Bool.not_eq_true, Bool.not_eq_false, Option.isNone_none, Option.isNone_some, Option.isSome_none, Option.isSome_some, ne_eq, Decidable.not_not] at hc2
     refine WC.region ?_
     refine WL.val rfl rfl rfl rfl (r_move rfl (ev_t rfl)) ?_
     first | refine WL.val rfl rfl rfl rfl (r_quoN rfl (ev_t rfl) ev_c (by omega) (by omega) (by simp only [inK]; omega)) ?_ | refine WL.val rfl rfl rfl rfl (r_quo rfl (ev_t rfl) ev_c (by omega)) ?_
     rw [show (u : Int) / 10 = ((u / 10 : Nat) : Int) by omega]
     refine WL.cons (SO.call (ih (u / 10) (by omega) _ (by omega)) rfl body_63 ⟨(ev_t rfl), trivial⟩ rfl rfl rfl rfl ?_)
     rintro v9 w1 ⟨rfl, hu1⟩
     have hs1 := hu1.size
     replace hU := hU.transA hu1
     refine WL.val rfl rfl rfl rfl (r_assign rfl (ev_t rfl)) ?_
     refine WL.nil ?_
     refine WX.keep [(0, _), (3, _)] ⟨rfl, rfl, trivial⟩ ?_
     refine WX.next ?_
     refine WC.seq ?_
     refine WC.region ?_
     refine WL.val rfl rfl rfl rfl (r_move rfl (ev_t rfl)) ?_
     refine WL.val rfl rfl rfl rfl (r_move rfl (ev_t rfl)) ?_
     first | refine WL.val rfl rfl rfl rfl (r_remN rfl (ev_t rfl) ev_c (by omega) (by omega)) ?_ | refine WL.val rfl rfl rfl rfl (r_rem rfl (ev_t rfl) ev_c (by omega)) ?_
     first | refine WL.val rfl rfl rfl rfl (r_addN rfl ev_c (ev_t rfl) (by simp only [inK]; omega)) ?_ | refine WL.val rfl rfl rfl rfl (r_add rfl ev_c (ev_t rfl)) ?_
     first | refine WL.val rfl rfl rfl rfl (r_convN rfl (ev_t rfl) some_103 int_5 (by simp only [inK]; omega)) ?_ | refine WL.val rfl rfl rfl rfl (r_conv rfl (ev_t rfl) some_103 int_5) ?_
     rw [show (48 : Int) + (u : Int) % 10 = ((UInt8.ofNat (48 + u % 10)).toNat : Int) by (simp only [UInt8.toNat_ofNat']; omega)]
     refine WL.cons (SO.alloc rfl rfl rfl rfl (r_buildSlice1 (vs := [_]) rfl ⟨(ev_t rfl), trivial⟩ rfl row_64 rfl rfl) ?_)
     intro w2 hu2 hB2 hz2
     have hs2 := hu2.size
     replace hU := hU.transA hu2
     refine WL.val rfl rfl rfl rfl (r_toStr rfl (ev_t rfl) (show Rd _ (At _) _ 1 1 ([UInt8.ofNat (48 + u % 10)].map U8) from Rd.of_blk (F := At _) (n := 1) (sz := 1) hB2 rfl rfl (by omega)) elem_64 int_5 str_9) ?_
     refine WL.val rfl rfl rfl rfl (r_addStrL (s := if 9 < u then Lib.decDigits (u / 10) else []) (s' := [UInt8.ofNat (48 + u % 10)]) rfl (by first | (rw [if_pos (by omega)]; exact ev_t rfl) | (rw [if_neg (by omega)]; exact ev_t rfl)) (ev_t rfl) (by split <;> simp only [List.length_cons, List.length_nil] <;> omega)) ?_
     refine WL.val rfl rfl rfl rfl (r_assign rfl (ev_t rfl)) ?_
     refine WL.nil ?_
     refine WX.keep [(2, _)] ⟨rfl, trivial⟩ ?_
     refine WX.next ?_
     refine WC.ret ?_
     refine WX.retE1 rfl rfl ?_
     refine ⟨?_, hU⟩
     by_cases h9 : 9 < u
     · rw [if_pos h9, decD_big (u := u) (by omega)]; rfl
     · rw [if_neg h9, decD_small (u := u) (by omega), Nat.mod_eq_of_lt (by omega)]; rfl
  · try (exfalso; first | (simp at hc2; done) | (simp only [decide_eq_true_eq, decide_eq_false_iff_not, Bool.not_eq_true', Bool.not_eq_false', Bool.not_eq_true, Bool.not_eq_false] at hc2; omega) | omega)
    all_goals
     try simp only [decide_eq_true_eq, decide_eq_false_iff_not, Bool.not_eq_true', Bool.not_eq_false', Bool.not_eq_true, Bool.not_eq_false, Option.isNone_none, Option.isNone_some, Option.isSome_none, Option.isSome_some, ne_eq, Decidable.not_not] at hc2
     refine WC.skip ?_
     refine WX.next ?_
     refine WC.seq ?_
     refine WC.region ?_
     refine WL.val rfl rfl rfl rfl (r_move rfl (ev_t rfl)) ?_
     refine WL.val rfl rfl rfl rfl (r_move rfl (ev_t rfl)) ?_
     first | refine WL.val rfl rfl rfl rfl (r_remN rfl (ev_t rfl) ev_c (by omega) (by omega)) ?_ | refine WL.val rfl rfl rfl rfl (r_rem rfl (ev_t rfl) ev_c (by omega)) ?_
     first | refine WL.val rfl rfl rfl rfl (r_addN rfl ev_c (ev_t rfl) (by simp only [inK]; omega)) ?_ | refine WL.val rfl rfl rfl rfl (r_add rfl ev_c (ev_t rfl)) ?_
     first | refine WL.val rfl rfl rfl rfl (r_convN rfl (ev_t rfl) some_103 int_5 (by simp only [inK]; omega)) ?_ | refine WL.val rfl rfl rfl rfl (r_conv rfl (ev_t rfl) some_103 int_5) ?_
     rw [show (48 : Int) + (u : Int) % 10 = ((UInt8.ofNat (48 + u % 10)).toNat : Int) by (simp only [UInt8.toNat_ofNat']; omega)]
     refine WL.cons (SO.alloc rfl rfl rfl rfl (r_buildSlice1 (vs := [_]) rfl ⟨(ev_t rfl), trivial⟩ rfl row_64 rfl rfl) ?_)
     intro w3 hu3 hB3 hz3
     have hs3 := hu3.size
     replace hU := hU.transA hu3
     refine WL.val rfl rfl rfl rfl (r_toStr rfl (ev_t rfl) (show Rd _ (At _) _ 1 1 ([UInt8.ofNat (48 + u % 10)].map U8) from Rd.of_blk (F := At _) (n := 1) (sz := 1) hB3 rfl rfl (by omega)) elem_64 int_5 str_9) ?_
     refine WL.val rfl rfl rfl rfl (r_addStrL (s := if 9 < u then Lib.decDigits (u / 10) else []) (s' := [UInt8.ofNat (48 + u % 10)]) rfl (by first | (rw [if_pos (by omega)]; exact ev_t rfl) | (rw [if_neg (by omega)]; exact ev_t rfl)) (ev_t rfl) (by split <;> simp only [List.length_cons, List.length_nil] <;> omega)) ?_
     refine WL.val rfl rfl rfl rfl (r_assign rfl (ev_t rfl)) ?_
     refine WL.nil ?_
     refine WX.keep [(2, _)] ⟨rfl, trivial⟩ ?_
     refine WX.next ?_
     refine WC.ret ?_
     refine WX.retE1 rfl rfl ?_
     refine ⟨?_, hU⟩
     by_cases h9 : 9 < u
     · rw [if_pos h9, decD_big (u := u) (by omega)]; rfl
     · rw [if_neg h9, decD_small (u := u) (by omega), Nat.mod_eq_of_lt (by omega)]; rfl
end Go.Proofs.YtomkdhkkggbioaaGreatDoor
