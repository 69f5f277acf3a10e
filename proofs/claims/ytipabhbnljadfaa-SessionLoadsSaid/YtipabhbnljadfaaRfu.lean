/-
  The reference's Uint, Int, Bytes.
-/
import Derived.Test.YtipabhbnljadfaaFh
import Derived.Test.YtipabhbnljadfaaRef
namespace Go.Proofs.Ytipabhbnljadfaa
open Go
set_option linter.unusedSimpArgs false
set_option linter.unusedVariables false

/-- so many bytes of a number, the lowest first -/
def lowB (n i : Nat) : List UInt8 := (List.range i).map (byteAt n)
theorem lowB_length (n i : Nat) : (lowB n i).length = i := by simp [lowB]
theorem lowB_succ (n i : Nat) : lowB n (i + 1) = lowB n i ++ [byteAt n i] := by simp [lowB, List.range_succ]
theorem U8_low (n i : Nat) : Value.int .u8 (((n / 256 ^ i : Nat) : Int) % 256) = U8 (byteAt n i) := by
  unfold U8 byteAt
  congr 1
  rw [UInt8.toNat_ofNat']
  generalize n / 256 ^ i = m
  omega
theorem U8_len {k : Nat} (h : k ≤ 8) : Value.int .u8 (k : Int) = U8 (UInt8.ofNat k) := by
  unfold U8
  congr 1
  rw [UInt8.toNat_ofNat']
  omega

theorem refUint_ok {w : World} {n : Nat} (hn : n < 18446744073709551616) :
    Ret Try.prog 33 #[.int .u64 (n : Int)] w fun v w' => Own w' (New w w') 5 1 v (encU n).length ((encU n).map U8) ∧ Upd No w w' := by
  have hbl : blen n ≤ 8 := blen_le (by simpa using hn)
  have key := fun i => lt_blen i n
  have lu := encU_length n
  refine enterRet (vs := [_]) (N := 35) Try.func33 rfl rfl rfl ?_
  have hU := Upd.refl No w
  refine WC.keep [(0, _)] ⟨rfl, trivial⟩ ?_
  refine WC.seq ?_
  refine WC.region ?_
  refine WL.val rfl rfl rfl rfl (r_assign rfl ev_c) ?_
  refine WL.nil ?_
  refine WX.keep [(0, _)] ⟨rfl, trivial⟩ ?_
  refine WX.next ?_
  refine WC.seq ?_
  refine WC.region ?_
  refine WL.val rfl rfl rfl rfl (r_assign rfl ev_c) ?_
  refine WL.nil ?_
  refine WX.keep [(0, _), (3, _)] ⟨rfl, rfl, trivial⟩ ?_
  refine WX.next ?_
  refine WC.seq ?_
  refine WC.block ?_
  -- loop 1: live [0, 3]
  refine WC.keep [(0, _), (3, _)] ⟨rfl, rfl, trivial⟩ ?_
  refine WC.loop (fun m E w' => ∃ (i : Nat) (A : Option Addr) (c : Nat), i ≤ blen n ∧ m = blen n - i ∧ Upd No w w' ∧ Own w' (New w w') 5 1 (.slice A i c) i ((lowB n i).map U8) ∧ E = [(0, .int .u64 ((n / 256 ^ i : Nat) : Int)), (3, .slice A i c)]) (blen n) ?_ ?_
  · exact ⟨0, _, _, by omega, by omega, hU, Own.nil _ _ _ _, by simp⟩
  · rintro m E w' ⟨i, A, c, hi, rfl, hU, ho, rfl⟩
    have hki := key i
    have hs0 := hU.size
    have hni : n / 256 ^ i ≤ n := Nat.div_le_self _ _
    have hdv : n / 256 ^ i / 256 = n / 256 ^ (i + 1) := by rw [Nat.pow_succ, Nat.div_div_eq_div_mul]
    refine WC.seq ?_
    refine WC.seq ?_
    refine WC.region ?_
    refine WL.val rfl rfl rfl rfl (r_move rfl (ev_t rfl)) ?_
    refine WL.val rfl rfl rfl rfl (r_gtr rfl (ev_t rfl) ev_c) ?_
    refine WL.nil ?_
    refine WX.keep [(0, _), (3, _), (7, _)] ⟨rfl, rfl, rfl, trivial⟩ ?_
    refine WX.next ?_
    refine WC.cond rfl (ev_t rfl) (fun hc2 => ?_) (fun hc2 => ?_)
    · try (exfalso; first | (simp at hc2; done) | (simp only [decide_eq_true_eq, decide_eq_false_iff_not, Bool.not_eq_true', Bool.not_eq_false', Bool.not_eq_true, Bool.not_eq_false] at hc2; omega) | omega)
      all_goals
       try simp only [decide_eq_true_eq, decide_eq_false_iff_not, Bool.not_eq_true', Bool.not_eq_false', Bool.not_eq_true, Bool.not_eq_false, Option.isNone_none, Option.isNone_some, Option.isSome_none, Option.isSome_some, ne_eq, Decidable.not_not] at hc2
       refine WC.skip ?_
       refine WX.next ?_
       refine WC.block ?_
       refine WC.seq ?_
       refine WC.region ?_
       refine WL.val rfl rfl rfl rfl (r_move rfl (ev_t rfl)) ?_
       refine WL.val rfl rfl rfl rfl (r_move rfl (ev_t rfl)) ?_
       first | refine WL.val rfl rfl rfl rfl (r_remN rfl (ev_t rfl) ev_c (by omega) (by omega)) ?_ | refine WL.val rfl rfl rfl rfl (r_rem rfl (ev_t rfl) ev_c (by omega)) ?_
       first | refine WL.val rfl rfl rfl rfl (r_convN rfl (ev_t rfl) some_27 int_5 (by simp only [inK]; omega)) ?_ | refine WL.val rfl rfl rfl rfl (r_conv rfl (ev_t rfl) some_27 int_5) ?_
       refine WL.cons (SO.alloc rfl rfl rfl rfl (r_buildSlice1 (vs := [_]) rfl ⟨(ev_t rfl), trivial⟩ rfl row_23 rfl rfl) ?_)
       intro w1 hu1 hB1 hz1
       have hs1 := hu1.size
       replace hU := hU.transA hu1
       replace ho := ho.updA hu1
       refine WL.cons (SO.append ho (Rd.of_blk (F := At _) (n := 1) (sz := 1) hB1 rfl rfl (by omega)) row_23 (oneCell_one rfl) (le_maxLen (by omega)) (by omega) rfl (ev_t rfl) (ev_t rfl) rfl rfl rfl rfl ?_)
       intro v2 w2 ho hu2
       have hs2 := hu2.size
       replace hU := hU.transA hu2
       obtain ⟨A2, c2, rfl, hc2⟩ := Own.form ho
       refine WL.val rfl rfl rfl rfl (r_assign rfl (ev_t rfl)) ?_
       refine WL.nil ?_
       refine WX.keep [(0, _), (3, _)] ⟨rfl, rfl, trivial⟩ ?_
       refine WX.next ?_
       refine WC.region ?_
       refine WL.val rfl rfl rfl rfl (r_move rfl (ev_t rfl)) ?_
       first | refine WL.val rfl rfl rfl rfl (r_quoN rfl (ev_t rfl) ev_c (by omega) (by omega) (by simp only [inK]; omega)) ?_ | refine WL.val rfl rfl rfl rfl (r_quo rfl (ev_t rfl) ev_c (by omega)) ?_
       refine WL.val rfl rfl rfl rfl (r_assign rfl (ev_t rfl)) ?_
       refine WL.nil ?_
       refine WX.keep [(0, _), (3, _)] ⟨rfl, rfl, trivial⟩ ?_
       refine WX.blockNormal ?_
       refine WX.meet [(0, _), (3, _)] ⟨rfl, rfl, trivial⟩ ?_
       have e : ∀ m : Nat, (m : Int) / 256 = ((m / 256 : Nat) : Int) := fun m => by omega
       rw [U8_low] at ho
       rw [e, hdv]
       refine ⟨blen n - (i + 1), by omega, i + 1, _, _, by omega, rfl, hU, ?_, rfl⟩
       have h1 := ho.mono (F' := New w _) (fun k hk => New.of hk (by omega) (by omega))
       rw [lowB_succ, List.map_append]
       exact h1
    · try (exfalso; first | (simp at hc2; done) | (simp only [decide_eq_true_eq, decide_eq_false_iff_not, Bool.not_eq_true', Bool.not_eq_false', Bool.not_eq_true, Bool.not_eq_false] at hc2; omega) | omega)
      all_goals
       try simp only [decide_eq_true_eq, decide_eq_false_iff_not, Bool.not_eq_true', Bool.not_eq_false', Bool.not_eq_true, Bool.not_eq_false, Option.isNone_none, Option.isNone_some, Option.isSome_none, Option.isSome_some, ne_eq, Decidable.not_not] at hc2
       have h0 : ¬ 0 < n / 256 ^ i := by exact_mod_cast hc2
       have hib : ¬ i < blen n := fun h => h0 (hki.1 h)
       obtain rfl : i = blen n := by omega
       refine WC.exit ?_
       refine WX.thenExit ?_
       refine WX.thenExit ?_
       refine WX.blockHere ?_
       refine WX.next ?_
       refine WC.seq ?_
       refine WC.region ?_
       refine WL.val rfl rfl rfl rfl (r_move rfl (ev_t rfl)) ?_
       refine WL.val rfl rfl rfl rfl (r_lenSlice (ts := #[]) rfl (ev_t rfl) elem_23) ?_
       first | refine WL.val rfl rfl rfl rfl (r_convN rfl (ev_t rfl) some_3 int_5 (by simp only [inK]; omega)) ?_ | refine WL.val rfl rfl rfl rfl (r_conv rfl (ev_t rfl) some_3 int_5) ?_
       refine WL.cons (SO.alloc rfl rfl rfl rfl (r_buildSlice1 (vs := [_]) rfl ⟨(ev_t rfl), trivial⟩ rfl row_23 rfl rfl) ?_)
       intro w3 hu3 hB3 hz3
       have hs3 := hu3.size
       replace hU := hU.transA hu3
       replace ho := ho.updA hu3
       refine WL.val rfl rfl rfl rfl (r_assign rfl (ev_t rfl)) ?_
       refine WL.nil ?_
       refine WX.keep [(3, _), (4, _)] ⟨rfl, rfl, trivial⟩ ?_
       rw [U8_len hbl] at hB3
       have hp := Own.of_blk (F := New w' w3) (n := 1) (sz := 1) hB3 ⟨by omega, by omega⟩ rfl (le_maxLen (by omega))
       refine WX.next ?_
       refine WC.seq ?_
       refine WC.seq ?_
       refine WC.region ?_
       refine WL.val rfl rfl rfl rfl (r_move rfl (ev_t rfl)) ?_
       refine WL.val rfl rfl rfl rfl (r_lenSlice (ts := #[]) rfl (ev_t rfl) elem_23) ?_
       first | refine WL.val rfl rfl rfl rfl (r_subN rfl (ev_t rfl) ev_c (by simp only [inK]; omega)) ?_ | refine WL.val rfl rfl rfl rfl (r_sub rfl (ev_t rfl) ev_c) ?_
       refine WL.val rfl rfl rfl rfl (r_assign rfl (ev_t rfl)) ?_
       refine WL.nil ?_
       refine WX.keep [(3, _), (4, _), (5, _)] ⟨rfl, rfl, rfl, trivial⟩ ?_
       refine WX.next ?_
       refine WC.block ?_
       -- loop 2: live [3, 4, 5]
       refine WC.keep [(3, _), (4, _), (5, _)] ⟨rfl, rfl, rfl, trivial⟩ ?_
       refine WC.loop (fun k E w2 => ∃ (acc : List UInt8) (L : Nat) (A4 : Option Addr) (c4 : Nat), k ≤ blen n ∧ acc.length = L ∧ acc ++ beB n k = encU n ∧ Upd No w w2 ∧ w'.heap.size ≤ w2.heap.size ∧ Own w2 (New w w') 5 1 (.slice A (blen n) c) (blen n) ((lowB n (blen n)).map U8) ∧ Own w2 (New w' w2) 5 1 (.slice A4 L c4) L (acc.map U8) ∧ E = [(3, .slice A (blen n) c), (4, .slice A4 L c4), (5, .int .i64 ((k : Int) - 1))]) (blen n) ?_ ?_
       · exact ⟨[UInt8.ofNat (blen n)], 1, _, _, Nat.le_refl _, rfl, rfl, hU, by omega, ho, hp, rfl⟩
       · rintro k E w2 ⟨acc, L, A4, c4, hk, hL, hacc, hU, hs2, ho, hp, rfl⟩
         have hs0 := hU.size
         have hal := congrArg List.length hacc
         rw [List.length_append, beB_length, encU_length] at hal
         refine WC.seq ?_
         refine WC.seq ?_
         refine WC.region ?_
         refine WL.val rfl rfl rfl rfl (r_move rfl (ev_t rfl)) ?_
         refine WL.val rfl rfl rfl rfl (r_geq rfl (ev_t rfl) ev_c) ?_
         refine WL.nil ?_
         refine WX.keep [(3, _), (4, _), (5, _), (24, _)] ⟨rfl, rfl, rfl, rfl, trivial⟩ ?_
         refine WX.next ?_
         refine WC.cond rfl (ev_t rfl) (fun hc7 => ?_) (fun hc7 => ?_)
         · try (exfalso; first | (simp at hc7; done) | (simp only [decide_eq_true_eq, decide_eq_false_iff_not, Bool.not_eq_true', Bool.not_eq_false', Bool.not_eq_true, Bool.not_eq_false] at hc7; omega) | omega)
           all_goals
            try simp only [decide_eq_true_eq, decide_eq_false_iff_not, Bool.not_eq_true', Bool.not_eq_false', Bool.not_eq_true, Bool.not_eq_false, Option.isNone_none, Option.isNone_some, Option.isSome_none, Option.isSome_some, ne_eq, Decidable.not_not] at hc7
            obtain ⟨j, rfl⟩ : ∃ j, k = j + 1 := ⟨k - 1, by omega⟩
            obtain ⟨b, off, rfl, _⟩ := (ho.rd (by omega)).open (by omega)
            have hcell : ((lowB n (blen n)).map U8)[j]? = some (U8 (byteAt n j)) := by simp [lowB, show j < blen n by omega]
            refine WC.skip ?_
            refine WX.next ?_
            refine WC.seq ?_
            refine WC.block ?_
            refine WC.region ?_
            refine WL.val rfl rfl rfl rfl (r_move rfl (ev_t rfl)) ?_
            refine WL.val rfl rfl rfl rfl (r_move rfl (ev_t rfl)) ?_
            refine WL.val rfl rfl rfl rfl (r_move rfl (ev_t rfl)) ?_
            refine WL.val rfl rfl rfl rfl (r_indexAddr rfl (ev_t rfl) (ev_t rfl) elem_23 size_5 (by omega) (by omega)) ?_
            refine WL.val rfl rfl rfl rfl (r_load rfl (ev_t rfl) flat_5 ((ho.rd (by omega)).cell (j := j) (by omega) hcell)) ?_
            refine WL.cons (SO.alloc rfl rfl rfl rfl (r_buildSlice1 (vs := [_]) rfl ⟨(ev_t rfl), trivial⟩ rfl row_23 rfl rfl) ?_)
            intro w4 hu4 hB4 hz4
            have hs4 := hu4.size
            replace hU := hU.transA hu4
            replace ho := ho.updA hu4
            replace hp := hp.updA hu4
            refine WL.cons (SO.append hp (Rd.of_blk (F := At _) (n := 1) (sz := 1) hB4 rfl rfl (by omega)) row_23 (oneCell_one rfl) (le_maxLen (by omega)) (by omega) rfl (ev_t rfl) (ev_t rfl) rfl rfl rfl rfl ?_)
            intro v5 w5 hp hu5
            have hs5 := hu5.size
            replace hU := hU.transA hu5
            replace ho := ho.updA hu5
            obtain ⟨A5, c5, rfl, hc5⟩ := Own.form hp
            refine WL.val rfl rfl rfl rfl (r_assign rfl (ev_t rfl)) ?_
            refine WL.nil ?_
            refine WX.keep [(3, _), (4, _), (5, _)] ⟨rfl, rfl, rfl, trivial⟩ ?_
            refine WX.blockNormal ?_
            refine WX.next ?_
            refine WC.region ?_
            refine WL.val rfl rfl rfl rfl (r_move rfl (ev_t rfl)) ?_
            first | refine WL.val rfl rfl rfl rfl (r_subN rfl (ev_t rfl) ev_c (by simp only [inK]; omega)) ?_ | refine WL.val rfl rfl rfl rfl (r_sub rfl (ev_t rfl) ev_c) ?_
            refine WL.val rfl rfl rfl rfl (r_assign rfl (ev_t rfl)) ?_
            refine WL.nil ?_
            refine WX.keep [(3, _), (4, _), (5, _)] ⟨rfl, rfl, rfl, trivial⟩ ?_
            refine WX.meet [(3, _), (4, _), (5, _)] ⟨rfl, rfl, rfl, trivial⟩ ?_
            rw [show (((j + 1 : Nat) : Int) - 1 - 1) = (j : Int) - 1 by omega]
            refine ⟨j, by omega, acc ++ [byteAt n j], L + 1, _, _, by omega, by simp [hL], by rw [← hacc]; simp [beB], hU, by omega, ho, ?_, rfl⟩
            have h1 := hp.mono (F' := New w' _) (fun k hk => New.of hk (by omega) (by omega))
            rw [List.map_append]
            exact h1
         · try (exfalso; first | (simp at hc7; done) | (simp only [decide_eq_true_eq, decide_eq_false_iff_not, Bool.not_eq_true', Bool.not_eq_false', Bool.not_eq_true, Bool.not_eq_false] at hc7; omega) | omega)
           all_goals
            try simp only [decide_eq_true_eq, decide_eq_false_iff_not, Bool.not_eq_true', Bool.not_eq_false', Bool.not_eq_true, Bool.not_eq_false, Option.isNone_none, Option.isNone_some, Option.isSome_none, Option.isSome_some, ne_eq, Decidable.not_not] at hc7
            obtain rfl : k = 0 := by omega
            rw [beB, List.append_nil] at hacc
            subst hacc
            subst hL
            refine WC.exit ?_
            refine WX.thenExit ?_
            refine WX.thenExit ?_
            refine WX.blockHere ?_
            refine WX.next ?_
            refine WC.seq ?_
            refine WC.region ?_
            refine WL.val rfl rfl rfl rfl (r_move rfl (ev_t rfl)) ?_
            refine WL.val rfl rfl rfl rfl (r_assign rfl (ev_t rfl)) ?_
            refine WL.nil ?_
            refine WX.keep [(2, _)] ⟨rfl, trivial⟩ ?_
            refine WX.next ?_
            refine WC.ret ?_
            refine WX.retE1 rfl rfl ?_
            exact ⟨hp.mono (fun k hk => ⟨by have := hk.1; omega, hk.2⟩), hU⟩
end Go.Proofs.Ytipabhbnljadfaa
