/-
  Several texts put together: Rfu, Rrd, Rre, Coi.
-/
import Derived.Test.YtipabhbnljadfaaDoorZd
/-
  The reference's Uint, Int, Bytes.
-/
namespace Go.Proofs.YtipabhbnljadfaaDoor
open Go
set_option linter.unusedSimpArgs false
set_option linter.unusedVariables false

/-- so many bytes of a number, the lowest first -/
def lowB (n i : Nat) : List UInt8 := (List.range i).map (byteAt n)
theorem lowB_length (n i : Nat) : (lowB n i).length = i := by simp [lowB]
theorem lowB_succ (n i : Nat) : lowB n (i + 1) = lowB n i ++ [byteAt n i] := by simp [lowB, List.range_succ]
theorem U8_low (n i : Nat) : Value.int .u8 (((n / 256 ^ i : Nat) : Int) % 256) = U8 (byteAt n i) := by
  unfold U8 byteAt
  congr 1
  rw [UInt8.toNat_ofNat']
  generalize n / 256 ^ i = m
  omega
theorem U8_len {k : Nat} (h : k ≤ 8) : Value.int .u8 (k : Int) = U8 (UInt8.ofNat k) := by
  unfold U8
  congr 1
  rw [UInt8.toNat_ofNat']
  omega

theorem refUint_ok {w : World} {n : Nat} (hn : n < 18446744073709551616) :
    Ret Tryd.prog 32 #[.int .u64 (n : Int)] w fun v w' => Own w' (New w w') 5 1 v (encU n).length ((encU n).map U8) ∧ Upd No w w' := by
  have hbl : blen n ≤ 8 := blen_le (by simpa using hn)
  have key := fun i => lt_blen i n
  have lu := encU_length n
  refine enterRet (vs := [_]) (N := 35) Tryd.func32 rfl rfl rfl ?_
  have hU := Upd.refl No w
  refine WC.keep [(0, _)] ⟨rfl, trivial⟩ ?_
  refine WC.seq ?_
  refine WC.region ?_
  refine WL.val rfl rfl rfl rfl (r_assign rfl ev_c) ?_
  refine WL.nil ?_
  refine WX.keep [(0, _)] ⟨rfl, trivial⟩ ?_
  refine WX.next ?_
  refine WC.seq ?_
  refine WC.region ?_
  refine WL.val rfl rfl rfl rfl (r_assign rfl ev_c) ?_
  refine WL.nil ?_
  refine WX.keep [(0, _), (3, _)] ⟨rfl, rfl, trivial⟩ ?_
  refine WX.next ?_
  refine WC.seq ?_
  refine WC.block ?_
  -- loop 1: live [0, 3]
  refine WC.keep [(0, _), (3, _)] ⟨rfl, rfl, trivial⟩ ?_
  refine WC.loop (fun m E w' => ∃ (i : Nat) (A : Option Addr) (c : Nat), i ≤ blen n ∧ m = blen n - i ∧ Upd No w w' ∧ Own w' (New w w') 5 1 (.slice A i c) i ((lowB n i).map U8) ∧ E = [(0, .int .u64 ((n / 256 ^ i : Nat) : Int)), (3, .slice A i c)]) (blen n) ?_ ?_
  · exact ⟨0, _, _, by omega, by omega, hU, Own.nil _ _ _ _, by simp⟩
  · rintro m E w' ⟨i, A, c, hi, rfl, hU, ho, rfl⟩
    have hki := key i
    have hs0 := hU.size
    have hni : n / 256 ^ i ≤ n := Nat.div_le_self _ _
    have hdv : n / 256 ^ i / 256 = n / 256 ^ (i + 1) := by rw [Nat.pow_succ, Nat.div_div_eq_div_mul]
    refine WC.seq ?_
    refine WC.seq ?_
    refine WC.region ?_
    refine WL.val rfl rfl rfl rfl (r_move rfl (ev_t rfl)) ?_
    refine WL.val rfl rfl rfl rfl (r_gtr rfl (ev_t rfl) ev_c) ?_
    refine WL.nil ?_
    refine WX.keep [(0, _), (3, _), (7, _)] ⟨rfl, rfl, rfl, trivial⟩ ?_
    refine WX.next ?_
    refine WC.cond rfl (ev_t rfl) (fun hc2 => ?_) (fun hc2 => ?_)
    · try (exfalso; first | (simp at hc2; done) | (simp only [decide_eq_true_eq, decide_eq_false_iff_not, Bool.not_eq_true', Bool.not_eq_false', Bool.not_eq_true, Bool.not_eq_false] at hc2; omega) | omega)
      all_goals
       try simp only [decide_eq_true_eq, decide_eq_false_iff_not, Bool.not_eq_true', Bool.not_eq_false', Bool.not_eq_true, Bool.not_eq_false, Option.isNone_none, Option.isNone_some, Option.isSome_none, Option.isSome_some, ne_eq, Decidable.not_not] at hc2
       refine WC.skip ?_
       refine WX.next ?_
       refine WC.block ?_
       refine WC.seq ?_
       refine WC.region ?_
       refine WL.val rfl rfl rfl rfl (r_move rfl (ev_t rfl)) ?_
       refine WL.val rfl rfl rfl rfl (r_move rfl (ev_t rfl)) ?_
       first | refine WL.val rfl rfl rfl rfl (r_remN rfl (ev_t rfl) ev_c (by omega) (by omega)) ?_ | refine WL.val rfl rfl rfl rfl (r_rem rfl (ev_t rfl) ev_c (by omega)) ?_
       first | refine WL.val rfl rfl rfl rfl (r_convN rfl (ev_t rfl) some_63 int_5 (by simp only [inK]; omega)) ?_ | refine WL.val rfl rfl rfl rfl (r_conv rfl (ev_t rfl) some_63 int_5) ?_
       refine WL.cons (SO.alloc rfl rfl rfl rfl (r_buildSlice1 (vs := [_]) rfl ⟨(ev_t rfl), trivial⟩ rfl row_30 rfl rfl) ?_)
       intro w1 hu1 hB1 hz1
       have hs1 := hu1.size
       replace hU := hU.transA hu1
       replace ho := ho.updA hu1
       refine WL.cons (SO.append ho (Rd.of_blk (F := At _) (n := 1) (sz := 1) hB1 rfl rfl (by omega)) row_30 (oneCell_one rfl) (le_maxLen (by omega)) (by omega) rfl (ev_t rfl) (ev_t rfl) rfl rfl rfl rfl ?_)
       intro v2 w2 ho hu2
       have hs2 := hu2.size
       replace hU := hU.transA hu2
       obtain ⟨A2, c2, rfl, hc2⟩ := Own.form ho
       refine WL.val rfl rfl rfl rfl (r_assign rfl (ev_t rfl)) ?_
       refine WL.nil ?_
       refine WX.keep [(0, _), (3, _)] ⟨rfl, rfl, trivial⟩ ?_
       refine WX.next ?_
       refine WC.region ?_
       refine WL.val rfl rfl rfl rfl (r_move rfl (ev_t rfl)) ?_
       first | refine WL.val rfl rfl rfl rfl (r_quoN rfl (ev_t rfl) ev_c (by omega) (by omega) (by simp only [inK]; omega)) ?_ | refine WL.val rfl rfl rfl rfl (r_quo rfl (ev_t rfl) ev_c (by omega)) ?_
       refine WL.val rfl rfl rfl rfl (r_assign rfl (ev_t rfl)) ?_
       refine WL.nil ?_
       refine WX.keep [(0, _), (3, _)] ⟨rfl, rfl, trivial⟩ ?_
       refine WX.blockNormal ?_
       refine WX.meet [(0, _), (3, _)] ⟨rfl, rfl, trivial⟩ ?_
       have e : ∀ m : Nat, (m : Int) / 256 = ((m / 256 : Nat) : Int) := fun m => by omega
       rw [U8_low] at ho
       rw [e, hdv]
       refine ⟨blen n - (i + 1), by omega, i + 1, _, _, by omega, rfl, hU, ?_, rfl⟩
       have h1 := ho.mono (F' := New w _) (fun k hk => New.of hk (by omega) (by omega))
       rw [lowB_succ, List.map_append]
       exact h1
    · try (exfalso; first | (simp at hc2; done) | (simp only [decide_eq_true_eq, decide_eq_false_iff_not, Bool.not_eq_true', Bool.not_eq_false', Bool.not_eq_true, Bool.not_eq_false] at hc2; omega) | omega)
      all_goals
       try simp only [decide_eq_true_eq, decide_eq_false_iff_not, Bool.not_eq_true', Bool.not_eq_false', Bool.not_eq_true, Bool.not_eq_false, Option.isNone_none, Option.isNone_some, Option.isSome_none, Option.isSome_some, ne_eq, Decidable.not_not] at hc2
       have h0 : ¬ 0 < n / 256 ^ i := by exact_mod_cast hc2
       have hib : ¬ i < blen n := fun h => h0 (hki.1 h)
       obtain rfl : i = blen n := by omega
       refine WC.exit ?_
       refine WX.thenExit ?_
       refine WX.thenExit ?_
       refine WX.blockHere ?_
       refine WX.next ?_
       refine WC.seq ?_
       refine WC.region ?_
       refine WL.val rfl rfl rfl rfl (r_move rfl (ev_t rfl)) ?_
       refine WL.val rfl rfl rfl rfl (r_lenSlice (ts := #[]) rfl (ev_t rfl) elem_30) ?_
       first | refine WL.val rfl rfl rfl rfl (r_convN rfl (ev_t rfl) some_3 int_5 (by simp only [inK]; omega)) ?_ | refine WL.val rfl rfl rfl rfl (r_conv rfl (ev_t rfl) some_3 int_5) ?_
       refine WL.cons (SO.alloc rfl rfl rfl rfl (r_buildSlice1 (vs := [_]) rfl ⟨(ev_t rfl), trivial⟩ rfl row_30 rfl rfl) ?_)
       intro w3 hu3 hB3 hz3
       have hs3 := hu3.size
       replace hU := hU.transA hu3
       replace ho := ho.updA hu3
       refine WL.val rfl rfl rfl rfl (r_assign rfl (ev_t rfl)) ?_
       refine WL.nil ?_
       refine WX.keep [(3, _), (4, _)] ⟨rfl, rfl, trivial⟩ ?_
       rw [U8_len hbl] at hB3
       have hp := Own.of_blk (F := New w' w3) (n := 1) (sz := 1) hB3 ⟨by omega, by omega⟩ rfl (le_maxLen (by omega))
       refine WX.next ?_
       refine WC.seq ?_
       refine WC.seq ?_
       refine WC.region ?_
       refine WL.val rfl rfl rfl rfl (r_move rfl (ev_t rfl)) ?_
       refine WL.val rfl rfl rfl rfl (r_lenSlice (ts := #[]) rfl (ev_t rfl) elem_30) ?_
       first | refine WL.val rfl rfl rfl rfl (r_subN rfl (ev_t rfl) ev_c (by simp only [inK]; omega)) ?_ | refine WL.val rfl rfl rfl rfl (r_sub rfl (ev_t rfl) ev_c) ?_
       refine WL.val rfl rfl rfl rfl (r_assign rfl (ev_t rfl)) ?_
       refine WL.nil ?_
       refine WX.keep [(3, _), (4, _), (5, _)] ⟨rfl, rfl, rfl, trivial⟩ ?_
       refine WX.next ?_
       refine WC.block ?_
       -- loop 2: live [3, 4, 5]
       refine WC.keep [(3, _), (4, _), (5, _)] ⟨rfl, rfl, rfl, trivial⟩ ?_
       refine WC.loop (fun k E w2 => ∃ (acc : List UInt8) (L : Nat) (A4 : Option Addr) (c4 : Nat), k ≤ blen n ∧ acc.length = L ∧ acc ++ beB n k = encU n ∧ Upd No w w2 ∧ w'.heap.size ≤ w2.heap.size ∧ Own w2 (New w w') 5 1 (.slice A (blen n) c) (blen n) ((lowB n (blen n)).map U8) ∧ Own w2 (New w' w2) 5 1 (.slice A4 L c4) L (acc.map U8) ∧ E = [(3, .slice A (blen n) c), (4, .slice A4 L c4), (5, .int .i64 ((k : Int) - 1))]) (blen n) ?_ ?_
       · exact ⟨[UInt8.ofNat (blen n)], 1, _, _, Nat.le_refl _, rfl, rfl, hU, by omega, ho, hp, rfl⟩
       · rintro k E w2 ⟨acc, L, A4, c4, hk, hL, hacc, hU, hs2, ho, hp, rfl⟩
         have hs0 := hU.size
         have hal := congrArg List.length hacc
         rw [List.length_append, beB_length, encU_length] at hal
         refine WC.seq ?_
         refine WC.seq ?_
         refine WC.region ?_
         refine WL.val rfl rfl rfl rfl (r_move rfl (ev_t rfl)) ?_
         refine WL.val rfl rfl rfl rfl (r_geq rfl (ev_t rfl) ev_c) ?_
         refine WL.nil ?_
         refine WX.keep [(3, _), (4, _), (5, _), (24, _)] ⟨rfl, rfl, rfl, rfl, trivial⟩ ?_
         refine WX.next ?_
         refine WC.cond rfl (ev_t rfl) (fun hc7 => ?_) (fun hc7 => ?_)
         · try (exfalso; first | (simp at hc7; done) | (simp only [decide_eq_true_eq, decide_eq_false_iff_not, Bool.not_eq_true', Bool.not_eq_false', Bool.not_eq_true, Bool.not_eq_false] at hc7; omega) | omega)
           all_goals
            try simp only [decide_eq_true_eq, decide_eq_false_iff_not, Bool.not_eq_true', Bool.not_eq_false', Bool.not_eq_true, Bool.not_eq_false, Option.isNone_none, Option.isNone_some, Option.isSome_none, Option.isSome_some, ne_eq, Decidable.not_not] at hc7
            obtain ⟨j, rfl⟩ : ∃ j, k = j + 1 := ⟨k - 1, by omega⟩
            obtain ⟨b, off, rfl, _⟩ := (ho.rd (by omega)).open (by omega)
            have hcell : ((lowB n (blen n)).map U8)[j]? = some (U8 (byteAt n j)) := by simp [lowB, show j < blen n by omega]
            refine WC.skip ?_
            refine WX.next ?_
            refine WC.seq ?_
            refine WC.block ?_
            refine WC.region ?_
            refine WL.val rfl rfl rfl rfl (r_move rfl (ev_t rfl)) ?_
            refine WL.val rfl rfl rfl rfl (r_move rfl (ev_t rfl)) ?_
            refine WL.val rfl rfl rfl rfl (r_move rfl (ev_t rfl)) ?_
            refine WL.val rfl rfl rfl rfl (r_indexAddr rfl (ev_t rfl) (ev_t rfl) elem_30 size_5 (by omega) (by omega)) ?_
            refine WL.val rfl rfl rfl rfl (r_load rfl (ev_t rfl) flat_5 ((ho.rd (by omega)).cell (j := j) (by omega) hcell)) ?_
            refine WL.cons (SO.alloc rfl rfl rfl rfl (r_buildSlice1 (vs := [_]) rfl ⟨(ev_t rfl), trivial⟩ rfl row_30 rfl rfl) ?_)
            intro w4 hu4 hB4 hz4
            have hs4 := hu4.size
            replace hU := hU.transA hu4
            replace ho := ho.updA hu4
            replace hp := hp.updA hu4
            refine WL.cons (SO.append hp (Rd.of_blk (F := At _) (n := 1) (sz := 1) hB4 rfl rfl (by omega)) row_30 (oneCell_one rfl) (le_maxLen (by omega)) (by omega) rfl (ev_t rfl) (ev_t rfl) rfl rfl rfl rfl ?_)
            intro v5 w5 hp hu5
            have hs5 := hu5.size
            replace hU := hU.transA hu5
            replace ho := ho.updA hu5
            obtain ⟨A5, c5, rfl, hc5⟩ := Own.form hp
            refine WL.val rfl rfl rfl rfl (r_assign rfl (ev_t rfl)) ?_
            refine WL.nil ?_
            refine WX.keep [(3, _), (4, _), (5, _)] ⟨rfl, rfl, rfl, trivial⟩ ?_
            refine WX.blockNormal ?_
            refine WX.next ?_
            refine WC.region ?_
            refine WL.val rfl rfl rfl rfl (r_move rfl (ev_t rfl)) ?_
            first | refine WL.val rfl rfl rfl rfl (r_subN rfl (ev_t rfl) ev_c (by simp only [inK]; omega)) ?_ | refine WL.val rfl rfl rfl rfl (r_sub rfl (ev_t rfl) ev_c) ?_
            refine WL.val rfl rfl rfl rfl (r_assign rfl (ev_t rfl)) ?_
            refine WL.nil ?_
            refine WX.keep [(3, _), (4, _), (5, _)] ⟨rfl, rfl, rfl, trivial⟩ ?_
            refine WX.meet [(3, _), (4, _), (5, _)] ⟨rfl, rfl, rfl, trivial⟩ ?_
            rw [show (((j + 1 : Nat) : Int) - 1 - 1) = (j : Int) - 1 by omega]
            refine ⟨j, by omega, acc ++ [byteAt n j], L + 1, _, _, by omega, by simp [hL], by rw [← hacc]; simp [beB], hU, by omega, ho, ?_, rfl⟩
            have h1 := hp.mono (F' := New w' _) (fun k hk => New.of hk (by omega) (by omega))
            rw [List.map_append]
            exact h1
         · try (exfalso; first | (simp at hc7; done) | (simp only [decide_eq_true_eq, decide_eq_false_iff_not, Bool.not_eq_true', Bool.not_eq_false', Bool.not_eq_true, Bool.not_eq_false] at hc7; omega) | omega)
           all_goals
            try simp only [decide_eq_true_eq, decide_eq_false_iff_not, Bool.not_eq_true', Bool.not_eq_false', Bool.not_eq_true, Bool.not_eq_false, Option.isNone_none, Option.isNone_some, Option.isSome_none, Option.isSome_some, ne_eq, Decidable.not_not] at hc7
            obtain rfl : k = 0 := by omega
            rw [beB, List.append_nil] at hacc
            subst hacc
            subst hL
            refine WC.exit ?_
            refine WX.thenExit ?_
            refine WX.thenExit ?_
            refine WX.blockHere ?_
            refine WX.next ?_
            refine WC.seq ?_
            refine WC.region ?_
            refine WL.val rfl rfl rfl rfl (r_move rfl (ev_t rfl)) ?_
            refine WL.val rfl rfl rfl rfl (r_assign rfl (ev_t rfl)) ?_
            refine WL.nil ?_
            refine WX.keep [(2, _)] ⟨rfl, trivial⟩ ?_
            refine WX.next ?_
            refine WC.ret ?_
            refine WX.retE1 rfl rfl ?_
            exact ⟨hp.mono (fun k hk => ⟨by have := hk.1; omega, hk.2⟩), hU⟩
end Go.Proofs.YtipabhbnljadfaaDoor

/-
  The reference's reader.
-/
namespace Go.Proofs.YtipabhbnljadfaaDoor
open Go
set_option linter.unusedSimpArgs false
set_option linter.unusedVariables false

/-- where the reference's reader at block g stands in p -/
def StM (p : List UInt8) (at_ : Int) : Option (List UInt8) → Prop
  | none => at_ = -1
  | some r => ∃ m : Nat, at_ = m ∧ m ≤ p.length ∧ r = p.drop m
def IsM (w : World) (F : Nat → Prop) (g : Nat) (p : List UInt8) (s : Option (List UInt8)) : Prop :=
  ∃ A c at_, Blk w g #[.slice A p.length c, .int .i64 at_] 35 ∧ Rd w F (.slice A p.length c) p.length 1 (p.map U8) ∧ StM p at_ s

theorem IsM.upd {w w' : World} {F S : Nat → Prop} {g : Nat} {p : List UInt8} {s : Option (List UInt8)} (h : IsM w F g p s) (hu : Upd S w w') (hg : ¬ S g) (hF : ∀ k, F k → k < w.heap.size → ¬ S k) : IsM w' F g p s := by
  obtain ⟨A, c, at_, hb, hr, hs⟩ := h
  exact ⟨A, c, at_, hb.upd hu hg, hr.upd hu hF, hs⟩

theorem mUint_ok {w : World} {F : Nat → Prop} {g : Nat} {p : List UInt8} {s s' : Option (List UInt8)} {x : Nat} (h : IsM w F g p s) (hFg : ¬ F g) (hx : uintR s = (x, s')) :
    Ret Tryd.prog 44 #[.pointer (some ⟨g, 0, none⟩)] w fun v w' => v = .int .u64 (x : Int) ∧ IsM w' F g p s' ∧ Upd (At g) w w' := by
  obtain ⟨A, c, at_, hb, hr, hs⟩ := h
  have hm := hr.le
  have hcap := hr.cap
  have hgl := hb.lt
  cases s with
  | none =>
    simp only [uintR, Prod.mk.injEq] at hx
    obtain ⟨rfl, rfl⟩ := hx
    simp only [StM] at hs
    subst hs
    refine enterRet (vs := [_]) (N := 129) Tryd.func44 rfl rfl rfl ?_
    have hU := Upd.refl (At g) w
    refine WC.keep [(0, _)] ⟨rfl, trivial⟩ ?_
    refine WC.seq ?_
    refine WC.region ?_
    refine WL.val rfl rfl rfl rfl (r_assign rfl ev_c) ?_
    refine WL.nil ?_
    refine WX.keep [(0, _)] ⟨rfl, trivial⟩ ?_
    refine WX.next ?_
    refine WC.seq ?_
    refine WC.seq ?_
    refine WC.draws' (fun u0_ u1_ => Upd No u0_ u1_) (fun j => [0, 0, 0, 1, 0, 0, 0, 0, 0, 0, 0, 0, 0, 1, 0, 0, 0, 0, 0, 0, 0, 0, 0, 0, 0, 1, 0, 1, 0, 0, 0, 0, 0, 0, 0, 0, 0, 0, 0, 0, 0, 0, 0, 0, 0, 0, 0, 0, 0, 0, 1, 0, 0, 0].getD j 0) (.calm 0 (.calm 1 (.calm 2 (.one 3 (.calm 4 (.calm 5 (.calm 6 (.calm 7 (.calm 8 (.calm 10 (.calm 11 (.calm 12 (.held 9 (.one 13 (.calm 14 (.calm 15 (.calm 16 (.calm 17 (.calm 18 (.calm 19 (.calm 20 (.calm 22 (.calm 23 (.calm 24 (.held 21 (.one 25 (.calm 26 (.one 27 (.calm 28 (.calm 29 (.calm 30 (.calm 31 (.calm 32 (.calm 33 (.calm 35 (.calm 36 (.calm 37 (.calm 42 (.calm 43 (.calm 44 (.calm 47 (.calm 48 (.calm 49 (.held 34 (.held 38 (.calm 39 (.held 40 (.calm 41 (.held 45 (.calm 46 (.one 50 (.calm 51 (.calm 52 (.calm 53 (.done))))))))))))))))))))))))))))))))))))))))))))))))))))))) mixed (by kernel_rfl) (by repeat (first | with_reducible exact Deaf.body | with_reducible apply Deaf.then | with_reducible apply Deaf.block)) ?_
    intro w1 hu1
    have hz1 := congrArg Array.size hu1.2.2.2
    replace hu1 := Upd.of_draw hu1
    have hs1 := hu1.size
    replace hU := hU.transA hu1
    replace hr := hr.upd hu1 (by first | exact (fun _ _ _ h => h) | (intro k hk hl hS; simp only [At] at hS; subst hS; exact hFg hk))
    replace hb := hb.updA hu1
    have hS1 := Upd.refl No w1
    refine WN.calm _ rfl rfl rfl rfl rfl (fun _ => r_move rfl (ev_t rfl)) ?_
    refine WN.calm _ rfl rfl rfl rfl rfl (fun _ => r_nilCheck rfl (ev_t rfl)) ?_
    first | refine WN.calm _ rfl rfl rfl rfl rfl (fun _ => r_field0 rfl (ev_t rfl) fld_35_1) ?_ | refine WN.calm _ rfl rfl rfl rfl rfl (fun _ => r_fieldAt rfl (ev_t rfl) fld_35_1) ?_
    refine WN.step _ rfl (SO.val rfl rfl rfl rfl (r_load rfl (ev_t rfl) flat_3 (Blk.cell hb rfl)) ?_)
    refine ⟨hS1, ?_⟩
    refine WN.calm _ rfl rfl rfl rfl rfl (fun _ => r_lss rfl (ev_t rfl) ev_c) ?_
    refine WN.calm _ rfl rfl rfl rfl rfl (fun _ => r_move rfl (ev_t rfl)) ?_
    refine WN.cases 11 rfl (fun hb1_5 => ?_) (fun hb1_5 => ?_)
    · try (exfalso; first | (simp at hb1_5; done) | (simp only [decide_eq_true_eq, decide_eq_false_iff_not, Bool.not_eq_true', Bool.not_eq_false', Bool.not_eq_true, Bool.not_eq_false] at hb1_5; omega) | omega)
      all_goals
       try simp only [decide_eq_true_eq, decide_eq_false_iff_not, Bool.not_eq_true', Bool.not_eq_false', Bool.not_eq_true, Bool.not_eq_false, Option.isNone_none, Option.isNone_some, Option.isSome_none, Option.isSome_some, ne_eq, Decidable.not_not] at hb1_5
       refine WN.skip _ rfl rfl rfl rfl ?_
       refine WN.skip _ rfl rfl rfl rfl ?_
       refine WN.skip _ rfl rfl rfl rfl ?_
       refine WN.skip _ rfl rfl rfl rfl ?_
       refine WN.skip _ rfl rfl rfl rfl ?_
       refine WN.skip _ rfl rfl rfl rfl ?_
       refine WN.heldSkip _ rfl rfl rfl rfl hS1 ?_
       refine WN.step _ rfl (SO.skip rfl rfl rfl ?_)
       refine ⟨hS1, ?_⟩
       refine WN.skip _ rfl rfl rfl rfl ?_
       refine WN.skip _ rfl rfl rfl rfl ?_
       refine WN.calm _ rfl rfl rfl rfl rfl (fun _ => r_pickT rfl (ev_t rfl) ev_c) ?_
       refine WN.calm _ rfl rfl rfl rfl rfl (fun _ => r_move rfl (ev_t rfl)) ?_
       refine WN.skip _ rfl rfl rfl rfl ?_
       refine WN.skip _ rfl rfl rfl rfl ?_
       refine WN.skip _ rfl rfl rfl rfl ?_
       refine WN.skip _ rfl rfl rfl rfl ?_
       refine WN.skip _ rfl rfl rfl rfl ?_
       refine WN.skip _ rfl rfl rfl rfl ?_
       refine WN.heldSkip _ rfl rfl rfl rfl hS1 ?_
       refine WN.step _ rfl (SO.skip rfl rfl rfl ?_)
       refine ⟨hS1, ?_⟩
       refine WN.skip _ rfl rfl rfl rfl ?_
       refine WN.step _ rfl (SO.skip rfl rfl rfl ?_)
       refine ⟨hS1, ?_⟩
       refine WN.skip _ rfl rfl rfl rfl ?_
       refine WN.calm _ rfl rfl rfl rfl rfl (fun _ => r_pickT rfl (ev_t rfl) ev_c) ?_
       refine WN.calm _ rfl rfl rfl rfl rfl (fun _ => r_move rfl (ev_t rfl)) ?_
       refine WN.skip _ rfl rfl rfl rfl ?_
       refine WN.skip _ rfl rfl rfl rfl ?_
       refine WN.skip _ rfl rfl rfl rfl ?_
       refine WN.skip _ rfl rfl rfl rfl ?_
       refine WN.skip _ rfl rfl rfl rfl ?_
       refine WN.skip _ rfl rfl rfl rfl ?_
       refine WN.skip _ rfl rfl rfl rfl ?_
       refine WN.skip _ rfl rfl rfl rfl ?_
       refine WN.skip _ rfl rfl rfl rfl ?_
       refine WN.skip _ rfl rfl rfl rfl ?_
       refine WN.skip _ rfl rfl rfl rfl ?_
       refine WN.skip _ rfl rfl rfl rfl ?_
       refine WN.heldSkip _ rfl rfl rfl rfl hS1 ?_
       refine WN.heldSkip _ rfl rfl rfl rfl hS1 ?_
       refine WN.skip _ rfl rfl rfl rfl ?_
       refine WN.heldSkip _ rfl rfl rfl rfl hS1 ?_
       refine WN.skip _ rfl rfl rfl rfl ?_
       refine WN.heldSkip _ rfl rfl rfl rfl hS1 ?_
       refine WN.skip _ rfl rfl rfl rfl ?_
       refine WN.step _ rfl (SO.skip rfl rfl rfl ?_)
       refine ⟨hS1, ?_⟩
       refine WN.skip _ rfl rfl rfl rfl ?_
       refine WN.skip _ rfl rfl rfl rfl ?_
       refine WN.calm _ rfl rfl rfl rfl rfl (fun _ => r_pickT rfl (ev_t rfl) ev_c) ?_
       refine WN.done ?_
       refine WX.keep [(0, _), (59, _)] ⟨rfl, rfl, trivial⟩ ?_
       refine WX.next ?_
       refine WC.cond_true rfl (ev_t rfl) ?_
       refine WC.seq ?_
       refine WC.region ?_
       refine WL.val rfl rfl rfl rfl (r_move rfl (ev_t rfl)) ?_
       refine WL.val rfl rfl rfl rfl (r_nilCheck rfl (ev_t rfl)) ?_
       first | refine WL.val rfl rfl rfl rfl (r_field0 rfl (ev_t rfl) fld_35_1) ?_ | refine WL.val rfl rfl rfl rfl (r_fieldAt rfl (ev_t rfl) fld_35_1) ?_
       refine WL.cons (SO.store rfl (ev_t rfl) ev_c size_3 hb rfl rfl rfl rfl rfl ?_)
       intro w2 hu2 hb hz2
       have hs2 := hu2.size
       replace hU := hU.transA hu2
       replace hr := hr.upd hu2 (by first | exact (fun _ _ _ h => h) | (intro k hk hl hS; simp only [At] at hS; subst hS; exact hFg hk))
       refine WL.nil ?_
       refine WX.keep [] trivial ?_
       refine WX.next ?_
       refine WC.seq ?_
       refine WC.region ?_
       refine WL.val rfl rfl rfl rfl (r_assign rfl ev_c) ?_
       refine WL.nil ?_
       refine WX.keep [(2, _)] ⟨rfl, trivial⟩ ?_
       refine WX.next ?_
       refine WC.ret ?_
       refine WX.thenRet ?_
       refine WX.retE1 rfl rfl ?_
       exact ⟨rfl, ⟨A, c, -1, hb, hr, rfl⟩, hU⟩
    · try (exfalso; first | (simp at hb1_5; done) | (simp only [decide_eq_true_eq, decide_eq_false_iff_not, Bool.not_eq_true', Bool.not_eq_false', Bool.not_eq_true, Bool.not_eq_false] at hb1_5; omega) | omega)
      all_goals
       try simp only [decide_eq_true_eq, decide_eq_false_iff_not, Bool.not_eq_true', Bool.not_eq_false', Bool.not_eq_true, Bool.not_eq_false, Option.isNone_none, Option.isNone_some, Option.isSome_none, Option.isSome_some, ne_eq, Decidable.not_not] at hb1_5
       refine WN.calm _ rfl rfl rfl rfl rfl (fun _ => r_move rfl (ev_t rfl)) ?_
       refine WN.calm _ rfl rfl rfl rfl rfl (fun _ => r_nilCheck rfl (ev_t rfl)) ?_
       first | refine WN.calm _ rfl rfl rfl rfl rfl (fun _ => r_field0 rfl (ev_t rfl) fld_35_1) ?_ | refine WN.calm _ rfl rfl rfl rfl rfl (fun _ => r_fieldAt rfl (ev_t rfl) fld_35_1) ?_
       refine WN.calm _ rfl rfl rfl rfl rfl (fun _ => r_move rfl (ev_t rfl)) ?_
       refine WN.calm _ rfl rfl rfl rfl rfl (fun _ => r_nilCheck rfl (ev_t rfl)) ?_
       first | refine WN.calm _ rfl rfl rfl rfl rfl (fun _ => r_field0 rfl (ev_t rfl) fld_35_0) ?_ | refine WN.calm _ rfl rfl rfl rfl rfl (fun _ => r_fieldAt rfl (ev_t rfl) fld_35_0) ?_
       refine WN.held _ rfl rfl rfl rfl rfl hS1 (fun w' hS => r_load rfl (ev_t rfl) flat_3 (Blk.cell (hb.upd hS (fun h => h)) rfl)) ?_
       refine WN.step _ rfl (SO.val rfl rfl rfl rfl (r_load rfl (ev_t rfl) flat_30 (Blk.cell hb rfl)) ?_)
       refine ⟨hS1, ?_⟩
       refine WN.calm _ rfl rfl rfl rfl rfl (fun _ => r_lenSlice (ts := #[]) rfl (ev_t rfl) elem_30) ?_
       refine WN.calm _ rfl rfl rfl rfl rfl (fun _ => r_geq rfl (ev_t rfl) (ev_t rfl)) ?_
       refine WN.calm _ rfl rfl rfl rfl rfl (fun _ => r_pickF rfl (ev_t rfl) (ev_t rfl)) ?_
       refine WN.calm _ rfl rfl rfl rfl rfl (fun _ => r_move rfl (ev_t rfl)) ?_
       refine WN.cases 23 rfl (fun hb1_17 => ?_) (fun hb1_17 => ?_)
       · try (exfalso; first | (simp at hb1_17; done) | (simp only [decide_eq_true_eq, decide_eq_false_iff_not, Bool.not_eq_true', Bool.not_eq_false', Bool.not_eq_true, Bool.not_eq_false] at hb1_17; omega) | omega)
         all_goals
          try simp only [decide_eq_true_eq, decide_eq_false_iff_not, Bool.not_eq_true', Bool.not_eq_false', Bool.not_eq_true, Bool.not_eq_false, Option.isNone_none, Option.isNone_some, Option.isSome_none, Option.isSome_some, ne_eq, Decidable.not_not] at hb1_17
          refine WN.skip _ rfl rfl rfl rfl ?_
          refine WN.skip _ rfl rfl rfl rfl ?_
          refine WN.skip _ rfl rfl rfl rfl ?_
          refine WN.skip _ rfl rfl rfl rfl ?_
          refine WN.skip _ rfl rfl rfl rfl ?_
          refine WN.skip _ rfl rfl rfl rfl ?_
          refine WN.heldSkip _ rfl rfl rfl rfl hS1 ?_
          refine WN.step _ rfl (SO.skip rfl rfl rfl ?_)
          refine ⟨hS1, ?_⟩
          refine WN.skip _ rfl rfl rfl rfl ?_
          refine WN.step _ rfl (SO.skip rfl rfl rfl ?_)
          refine ⟨hS1, ?_⟩
          refine WN.skip _ rfl rfl rfl rfl ?_
          refine WN.calm _ rfl rfl rfl rfl rfl (fun _ => r_pickT rfl (ev_t rfl) ev_c) ?_
          refine WN.calm _ rfl rfl rfl rfl rfl (fun _ => r_move rfl (ev_t rfl)) ?_
          refine WN.skip _ rfl rfl rfl rfl ?_
          refine WN.skip _ rfl rfl rfl rfl ?_
          refine WN.skip _ rfl rfl rfl rfl ?_
          refine WN.skip _ rfl rfl rfl rfl ?_
          refine WN.skip _ rfl rfl rfl rfl ?_
          refine WN.skip _ rfl rfl rfl rfl ?_
          refine WN.skip _ rfl rfl rfl rfl ?_
          refine WN.skip _ rfl rfl rfl rfl ?_
          refine WN.skip _ rfl rfl rfl rfl ?_
          refine WN.skip _ rfl rfl rfl rfl ?_
          refine WN.skip _ rfl rfl rfl rfl ?_
          refine WN.skip _ rfl rfl rfl rfl ?_
          refine WN.heldSkip _ rfl rfl rfl rfl hS1 ?_
          refine WN.heldSkip _ rfl rfl rfl rfl hS1 ?_
          refine WN.skip _ rfl rfl rfl rfl ?_
          refine WN.heldSkip _ rfl rfl rfl rfl hS1 ?_
          refine WN.skip _ rfl rfl rfl rfl ?_
          refine WN.heldSkip _ rfl rfl rfl rfl hS1 ?_
          refine WN.skip _ rfl rfl rfl rfl ?_
          refine WN.step _ rfl (SO.skip rfl rfl rfl ?_)
          refine ⟨hS1, ?_⟩
          refine WN.skip _ rfl rfl rfl rfl ?_
          refine WN.skip _ rfl rfl rfl rfl ?_
          refine WN.calm _ rfl rfl rfl rfl rfl (fun _ => r_pickT rfl (ev_t rfl) ev_c) ?_
          refine WN.done ?_
          refine WX.keep [(0, _), (59, _)] ⟨rfl, rfl, trivial⟩ ?_
          refine WX.next ?_
          refine WC.cond_true rfl (ev_t rfl) ?_
          refine WC.seq ?_
          refine WC.region ?_
          refine WL.val rfl rfl rfl rfl (r_move rfl (ev_t rfl)) ?_
          refine WL.val rfl rfl rfl rfl (r_nilCheck rfl (ev_t rfl)) ?_
          first | refine WL.val rfl rfl rfl rfl (r_field0 rfl (ev_t rfl) fld_35_1) ?_ | refine WL.val rfl rfl rfl rfl (r_fieldAt rfl (ev_t rfl) fld_35_1) ?_
          refine WL.cons (SO.store rfl (ev_t rfl) ev_c size_3 hb rfl rfl rfl rfl rfl ?_)
          intro w3 hu3 hb hz3
          have hs3 := hu3.size
          replace hU := hU.transA hu3
          replace hr := hr.upd hu3 (by first | exact (fun _ _ _ h => h) | (intro k hk hl hS; simp only [At] at hS; subst hS; exact hFg hk))
          refine WL.nil ?_
          refine WX.keep [] trivial ?_
          refine WX.next ?_
          refine WC.seq ?_
          refine WC.region ?_
          refine WL.val rfl rfl rfl rfl (r_assign rfl ev_c) ?_
          refine WL.nil ?_
          refine WX.keep [(2, _)] ⟨rfl, trivial⟩ ?_
          refine WX.next ?_
          refine WC.ret ?_
          refine WX.thenRet ?_
          refine WX.retE1 rfl rfl ?_
          exact ⟨rfl, ⟨A, c, -1, hb, hr, rfl⟩, hU⟩
       · try (exfalso; first | (simp at hb1_17; done) | (simp only [decide_eq_true_eq, decide_eq_false_iff_not, Bool.not_eq_true', Bool.not_eq_false', Bool.not_eq_true, Bool.not_eq_false] at hb1_17; omega) | omega)
         all_goals
          try simp only [decide_eq_true_eq, decide_eq_false_iff_not, Bool.not_eq_true', Bool.not_eq_false', Bool.not_eq_true, Bool.not_eq_false, Option.isNone_none, Option.isNone_some, Option.isSome_none, Option.isSome_some, ne_eq, Decidable.not_not] at hb1_17
          refine WN.calm _ rfl rfl rfl rfl rfl (fun _ => r_move rfl (ev_t rfl)) ?_
          refine WN.calm _ rfl rfl rfl rfl rfl (fun _ => r_nilCheck rfl (ev_t rfl)) ?_
          first | refine WN.calm _ rfl rfl rfl rfl rfl (fun _ => r_field0 rfl (ev_t rfl) fld_35_0) ?_ | refine WN.calm _ rfl rfl rfl rfl rfl (fun _ => r_fieldAt rfl (ev_t rfl) fld_35_0) ?_
          refine WN.calm _ rfl rfl rfl rfl rfl (fun _ => r_move rfl (ev_t rfl)) ?_
          refine WN.calm _ rfl rfl rfl rfl rfl (fun _ => r_nilCheck rfl (ev_t rfl)) ?_
          first | refine WN.calm _ rfl rfl rfl rfl rfl (fun _ => r_field0 rfl (ev_t rfl) fld_35_1) ?_ | refine WN.calm _ rfl rfl rfl rfl rfl (fun _ => r_fieldAt rfl (ev_t rfl) fld_35_1) ?_
          refine WN.held _ rfl rfl rfl rfl rfl hS1 (fun w' hS => r_load rfl (ev_t rfl) flat_30 (Blk.cell (hb.upd hS (fun h => h)) rfl)) ?_
          refine WN.step _ rfl (SO.val rfl rfl rfl rfl (r_load rfl (ev_t rfl) flat_3 (Blk.cell hb rfl)) ?_)
          refine ⟨hS1, ?_⟩
          refine WN.calm _ rfl rfl rfl rfl rfl (fun _ => r_indexAddr rfl (ev_t rfl) (ev_t rfl) elem_30 size_5 (by omega) (by omega)) ?_
          refine WN.step _ rfl (SO.val rfl rfl rfl rfl (r_load rfl (ev_t rfl) flat_5 (Blk.cell hb rfl)) ?_)
          refine ⟨hS1, ?_⟩
          refine WN.calm _ rfl rfl rfl rfl rfl (fun _ => r_gtr rfl (ev_t rfl) ev_c) ?_
          refine WN.calm _ rfl rfl rfl rfl rfl (fun _ => r_pickF rfl (ev_t rfl) (ev_t rfl)) ?_
          refine WN.calm _ rfl rfl rfl rfl rfl (fun _ => r_move rfl (ev_t rfl)) ?_
          refine WN.cases 36 rfl (fun hb1_30 => ?_) (fun hb1_30 => ?_)
          · try (exfalso; first | (simp at hb1_30; done) | (simp only [decide_eq_true_eq, decide_eq_false_iff_not, Bool.not_eq_true', Bool.not_eq_false', Bool.not_eq_true, Bool.not_eq_false] at hb1_30; omega) | omega)
            all_goals
             try simp only [decide_eq_true_eq, decide_eq_false_iff_not, Bool.not_eq_true', Bool.not_eq_false', Bool.not_eq_true, Bool.not_eq_false, Option.isNone_none, Option.isNone_some, Option.isSome_none, Option.isSome_some, ne_eq, Decidable.not_not] at hb1_30
             refine WN.skip _ rfl rfl rfl rfl ?_
             refine WN.skip _ rfl rfl rfl rfl ?_
             refine WN.skip _ rfl rfl rfl rfl ?_
             refine WN.skip _ rfl rfl rfl rfl ?_
             refine WN.skip _ rfl rfl rfl rfl ?_
             refine WN.skip _ rfl rfl rfl rfl ?_
             refine WN.skip _ rfl rfl rfl rfl ?_
             refine WN.skip _ rfl rfl rfl rfl ?_
             refine WN.skip _ rfl rfl rfl rfl ?_
             refine WN.skip _ rfl rfl rfl rfl ?_
             refine WN.skip _ rfl rfl rfl rfl ?_
             refine WN.skip _ rfl rfl rfl rfl ?_
             refine WN.heldSkip _ rfl rfl rfl rfl hS1 ?_
             refine WN.heldSkip _ rfl rfl rfl rfl hS1 ?_
             refine WN.skip _ rfl rfl rfl rfl ?_
             refine WN.heldSkip _ rfl rfl rfl rfl hS1 ?_
             refine WN.skip _ rfl rfl rfl rfl ?_
             refine WN.heldSkip _ rfl rfl rfl rfl hS1 ?_
             refine WN.skip _ rfl rfl rfl rfl ?_
             refine WN.step _ rfl (SO.skip rfl rfl rfl ?_)
             refine ⟨hS1, ?_⟩
             refine WN.skip _ rfl rfl rfl rfl ?_
             refine WN.skip _ rfl rfl rfl rfl ?_
             refine WN.calm _ rfl rfl rfl rfl rfl (fun _ => r_pickT rfl (ev_t rfl) ev_c) ?_
             refine WN.done ?_
             refine WX.keep [(0, _), (59, _)] ⟨rfl, rfl, trivial⟩ ?_
             refine WX.next ?_
             refine WC.cond_true rfl (ev_t rfl) ?_
             refine WC.seq ?_
             refine WC.region ?_
             refine WL.val rfl rfl rfl rfl (r_move rfl (ev_t rfl)) ?_
             refine WL.val rfl rfl rfl rfl (r_nilCheck rfl (ev_t rfl)) ?_
             first | refine WL.val rfl rfl rfl rfl (r_field0 rfl (ev_t rfl) fld_35_1) ?_ | refine WL.val rfl rfl rfl rfl (r_fieldAt rfl (ev_t rfl) fld_35_1) ?_
             refine WL.cons (SO.store rfl (ev_t rfl) ev_c size_3 hb rfl rfl rfl rfl rfl ?_)
             intro w4 hu4 hb hz4
             have hs4 := hu4.size
             replace hU := hU.transA hu4
             replace hr := hr.upd hu4 (by first | exact (fun _ _ _ h => h) | (intro k hk hl hS; simp only [At] at hS; subst hS; exact hFg hk))
             refine WL.nil ?_
             refine WX.keep [] trivial ?_
             refine WX.next ?_
             refine WC.seq ?_
             refine WC.region ?_
             refine WL.val rfl rfl rfl rfl (r_assign rfl ev_c) ?_
             refine WL.nil ?_
             refine WX.keep [(2, _)] ⟨rfl, trivial⟩ ?_
             refine WX.next ?_
             refine WC.ret ?_
             refine WX.thenRet ?_
             refine WX.retE1 rfl rfl ?_
             exact ⟨rfl, ⟨A, c, -1, hb, hr, rfl⟩, hU⟩
          · try (exfalso; first | (simp at hb1_30; done) | (simp only [decide_eq_true_eq, decide_eq_false_iff_not, Bool.not_eq_true', Bool.not_eq_false', Bool.not_eq_true, Bool.not_eq_false] at hb1_30; omega) | omega)
            all_goals
             try simp only [decide_eq_true_eq, decide_eq_false_iff_not, Bool.not_eq_true', Bool.not_eq_false', Bool.not_eq_true, Bool.not_eq_false, Option.isNone_none, Option.isNone_some, Option.isSome_none, Option.isSome_some, ne_eq, Decidable.not_not] at hb1_30
             refine WN.calm _ rfl rfl rfl rfl rfl (fun _ => r_move rfl (ev_t rfl)) ?_
             refine WN.calm _ rfl rfl rfl rfl rfl (fun _ => r_nilCheck rfl (ev_t rfl)) ?_
             first | refine WN.calm _ rfl rfl rfl rfl rfl (fun _ => r_field0 rfl (ev_t rfl) fld_35_0) ?_ | refine WN.calm _ rfl rfl rfl rfl rfl (fun _ => r_fieldAt rfl (ev_t rfl) fld_35_0) ?_
             refine WN.calm _ rfl rfl rfl rfl rfl (fun _ => r_move rfl (ev_t rfl)) ?_
             refine WN.calm _ rfl rfl rfl rfl rfl (fun _ => r_nilCheck rfl (ev_t rfl)) ?_
             first | refine WN.calm _ rfl rfl rfl rfl rfl (fun _ => r_field0 rfl (ev_t rfl) fld_35_1) ?_ | refine WN.calm _ rfl rfl rfl rfl rfl (fun _ => r_fieldAt rfl (ev_t rfl) fld_35_1) ?_
             refine WN.calm _ rfl rfl rfl rfl rfl (fun _ => r_move rfl (ev_t rfl)) ?_
             refine WN.calm _ rfl rfl rfl rfl rfl (fun _ => r_nilCheck rfl (ev_t rfl)) ?_
             first | refine WN.calm _ rfl rfl rfl rfl rfl (fun _ => r_field0 rfl (ev_t rfl) fld_35_0) ?_ | refine WN.calm _ rfl rfl rfl rfl rfl (fun _ => r_fieldAt rfl (ev_t rfl) fld_35_0) ?_
             refine WN.calm _ rfl rfl rfl rfl rfl (fun _ => r_move rfl (ev_t rfl)) ?_
             refine WN.calm _ rfl rfl rfl rfl rfl (fun _ => r_nilCheck rfl (ev_t rfl)) ?_
             first | refine WN.calm _ rfl rfl rfl rfl rfl (fun _ => r_field0 rfl (ev_t rfl) fld_35_1) ?_ | refine WN.calm _ rfl rfl rfl rfl rfl (fun _ => r_fieldAt rfl (ev_t rfl) fld_35_1) ?_
             refine WN.held _ rfl rfl rfl rfl rfl hS1 (fun w' hS => r_load rfl (ev_t rfl) flat_30 (Blk.cell (hb.upd hS (fun h => h)) rfl)) ?_
             refine WN.held _ rfl rfl rfl rfl rfl hS1 (fun w' hS => r_load rfl (ev_t rfl) flat_3 (Blk.cell (hb.upd hS (fun h => h)) rfl)) ?_
             refine WN.calm _ rfl rfl rfl rfl rfl (fun _ => r_indexAddr rfl (ev_t rfl) (ev_t rfl) elem_30 size_5 (by omega) (by omega)) ?_
             refine WN.held _ rfl rfl rfl rfl rfl hS1 (fun w' hS => r_load rfl (ev_t rfl) flat_5 (Blk.cell (hb.upd hS (fun h => h)) rfl)) ?_
             first | refine WN.calm _ rfl rfl rfl rfl rfl (fun _ => r_convN rfl (ev_t rfl) some_5 int_3 (by simp only [inK]; omega)) ?_ | refine WN.calm _ rfl rfl rfl rfl rfl (fun _ => r_conv rfl (ev_t rfl) some_5 int_3) ?_
             refine WN.held _ rfl rfl rfl rfl rfl hS1 (fun w' hS => r_load rfl (ev_t rfl) flat_30 (Blk.cell (hb.upd hS (fun h => h)) rfl)) ?_
             refine WN.calm _ rfl rfl rfl rfl rfl (fun _ => r_lenSlice (ts := #[]) rfl (ev_t rfl) elem_30) ?_
             refine WN.step _ rfl (SO.val rfl rfl rfl rfl (r_load rfl (ev_t rfl) flat_3 (Blk.cell hb rfl)) ?_)
             refine ⟨hS1, ?_⟩
             first | refine WN.calm _ rfl rfl rfl rfl rfl (fun _ => r_subN rfl (ev_t rfl) (ev_t rfl) (by simp only [inK]; omega)) ?_ | refine WN.calm _ rfl rfl rfl rfl rfl (fun _ => r_sub rfl (ev_t rfl) (ev_t rfl)) ?_
             refine WN.calm _ rfl rfl rfl rfl rfl (fun _ => r_geq rfl (ev_t rfl) (ev_t rfl)) ?_
             refine WN.calm _ rfl rfl rfl rfl rfl (fun _ => r_pickF rfl (ev_t rfl) (ev_t rfl)) ?_
             refine WN.done ?_
             refine WX.keep [(0, _), (59, _)] ⟨rfl, rfl, trivial⟩ ?_
             refine WX.next ?_
             refine WC.cond rfl (ev_t rfl) (fun hc1 => ?_) (fun hc1 => ?_)
             · try (exfalso; first | (simp at hc1; done) | (simp only [decide_eq_true_eq, decide_eq_false_iff_not, Bool.not_eq_true', Bool.not_eq_false', Bool.not_eq_true, Bool.not_eq_false] at hc1; omega) | omega)
               all_goals
                try simp only [decide_eq_true_eq, decide_eq_false_iff_not, Bool.not_eq_true', Bool.not_eq_false', Bool.not_eq_true, Bool.not_eq_false, Option.isNone_none, Option.isNone_some, Option.isSome_none, Option.isSome_some, ne_eq, Decidable.not_not] at hc1
                refine WC.seq ?_
                refine WC.region ?_
                refine WL.val rfl rfl rfl rfl (r_move rfl (ev_t rfl)) ?_
                refine WL.val rfl rfl rfl rfl (r_nilCheck rfl (ev_t rfl)) ?_
                first | refine WL.val rfl rfl rfl rfl (r_field0 rfl (ev_t rfl) fld_35_1) ?_ | refine WL.val rfl rfl rfl rfl (r_fieldAt rfl (ev_t rfl) fld_35_1) ?_
                refine WL.cons (SO.store rfl (ev_t rfl) ev_c size_3 hb rfl rfl rfl rfl rfl ?_)
                intro w5 hu5 hb hz5
                have hs5 := hu5.size
                replace hU := hU.transA hu5
                replace hr := hr.upd hu5 (by first | exact (fun _ _ _ h => h) | (intro k hk hl hS; simp only [At] at hS; subst hS; exact hFg hk))
                refine WL.nil ?_
                refine WX.keep [] trivial ?_
                refine WX.next ?_
                refine WC.seq ?_
                refine WC.region ?_
                refine WL.val rfl rfl rfl rfl (r_assign rfl ev_c) ?_
                refine WL.nil ?_
                refine WX.keep [(2, _)] ⟨rfl, trivial⟩ ?_
                refine WX.next ?_
                refine WC.ret ?_
                refine WX.thenRet ?_
                refine WX.retE1 rfl rfl ?_
                exact ⟨rfl, ⟨A, c, -1, hb, hr, rfl⟩, hU⟩
             · try (exfalso; first | (simp at hc1; done) | (simp only [decide_eq_true_eq, decide_eq_false_iff_not, Bool.not_eq_true', Bool.not_eq_false', Bool.not_eq_true, Bool.not_eq_false] at hc1; omega) | omega)
               all_goals
                try simp only [decide_eq_true_eq, decide_eq_false_iff_not, Bool.not_eq_true', Bool.not_eq_false', Bool.not_eq_true, Bool.not_eq_false, Option.isNone_none, Option.isNone_some, Option.isSome_none, Option.isSome_some, ne_eq, Decidable.not_not] at hc1
                refine WC.skip ?_
                refine WX.next ?_
                refine WC.seq ?_
                refine WC.region ?_
                refine WL.val rfl rfl rfl rfl (r_assign rfl ev_c) ?_
                refine WL.nil ?_
                refine WX.keep [(0, _), (3, _)] ⟨rfl, rfl, trivial⟩ ?_
                refine WX.next ?_
                refine WC.seq ?_
                refine WC.draws' (fun u0_ u1_ => Upd No u0_ u1_) (fun j => [0, 0, 0, 0, 0, 0, 0, 1, 0, 2, 0, 0].getD j 0) (.calm 0 (.calm 1 (.calm 2 (.calm 4 (.calm 5 (.calm 6 (.held 3 (.one 7 (.calm 8 (.one 9 (.calm 10 (.calm 11 (.done))))))))))))) mixed (by kernel_rfl) (by repeat (first | with_reducible exact Deaf.body | with_reducible apply Deaf.then | with_reducible apply Deaf.block)) ?_
                intro w6 hu6
                have hz6 := congrArg Array.size hu6.2.2.2
                replace hu6 := Upd.of_draw hu6
                have hs6 := hu6.size
                replace hU := hU.transA hu6
                replace hr := hr.upd hu6 (by first | exact (fun _ _ _ h => h) | (intro k hk hl hS; simp only [At] at hS; subst hS; exact hFg hk))
                replace hb := hb.updA hu6
                have hS5 := Upd.refl No w6
                refine WN.calm _ rfl rfl rfl rfl rfl (fun _ => r_move rfl (ev_t rfl)) ?_
                refine WN.calm _ rfl rfl rfl rfl rfl (fun _ => r_nilCheck rfl (ev_t rfl)) ?_
                first | refine WN.calm _ rfl rfl rfl rfl rfl (fun _ => r_field0 rfl (ev_t rfl) fld_35_0) ?_ | refine WN.calm _ rfl rfl rfl rfl rfl (fun _ => r_fieldAt rfl (ev_t rfl) fld_35_0) ?_
                refine WN.calm _ rfl rfl rfl rfl rfl (fun _ => r_move rfl (ev_t rfl)) ?_
                refine WN.calm _ rfl rfl rfl rfl rfl (fun _ => r_nilCheck rfl (ev_t rfl)) ?_
                first | refine WN.calm _ rfl rfl rfl rfl rfl (fun _ => r_field0 rfl (ev_t rfl) fld_35_1) ?_ | refine WN.calm _ rfl rfl rfl rfl rfl (fun _ => r_fieldAt rfl (ev_t rfl) fld_35_1) ?_
                refine WN.held _ rfl rfl rfl rfl rfl hS5 (fun w' hS => r_load rfl (ev_t rfl) flat_30 (Blk.cell (hb.upd hS (fun h => h)) rfl)) ?_
                refine WN.step _ rfl (SO.val rfl rfl rfl rfl (r_load rfl (ev_t rfl) flat_3 (Blk.cell hb rfl)) ?_)
                refine ⟨hS5, ?_⟩
                refine WN.calm _ rfl rfl rfl rfl rfl (fun _ => r_indexAddr rfl (ev_t rfl) (ev_t rfl) elem_30 size_5 (by omega) (by omega)) ?_
                refine WN.step _ rfl (SO.val rfl rfl rfl rfl (r_load rfl (ev_t rfl) flat_5 (Blk.cell hb rfl)) ?_)
                refine ⟨trivial, ?_⟩
                first | refine WN.calm _ rfl rfl rfl rfl rfl (fun _ => r_convN rfl (ev_t rfl) some_5 int_3 (by simp only [inK]; omega)) ?_ | refine WN.calm _ rfl rfl rfl rfl rfl (fun _ => r_conv rfl (ev_t rfl) some_5 int_3) ?_
                refine WN.calm _ rfl rfl rfl rfl rfl (fun _ => r_assign rfl (ev_t rfl)) ?_
                refine WN.done ?_
                refine WX.keep [(0, _), (3, _), (4, _)] ⟨rfl, rfl, rfl, trivial⟩ ?_
                refine WX.next ?_
                refine WC.seq ?_
                refine WC.seq ?_
                refine WC.region ?_
                refine WL.val rfl rfl rfl rfl (r_assign rfl ev_c) ?_
                refine WL.nil ?_
                refine WX.keep [(0, _), (3, _), (4, _), (5, _)] ⟨rfl, rfl, rfl, rfl, trivial⟩ ?_
                refine WX.next ?_
                refine WC.block ?_
                -- loop 1: live [0, 3, 4, 5]
                fail -- no invariant for loop 1
  | some r =>
    obtain ⟨m, rfl, hmp, rfl⟩ := hs
    refine enterRet (vs := [_]) (N := 129) Tryd.func44 rfl rfl rfl ?_
    have hU := Upd.refl (At g) w
    refine WC.keep [(0, _)] ⟨rfl, trivial⟩ ?_
    refine WC.seq ?_
    refine WC.region ?_
    refine WL.val rfl rfl rfl rfl (r_assign rfl ev_c) ?_
    refine WL.nil ?_
    refine WX.keep [(0, _)] ⟨rfl, trivial⟩ ?_
    refine WX.next ?_
    refine WC.seq ?_
    refine WC.seq ?_
    refine WC.draws' (fun u0_ u1_ => Upd No u0_ u1_) (fun j => [0, 0, 0, 1, 0, 0, 0, 0, 0, 0, 0, 0, 0, 1, 0, 0, 0, 0, 0, 0, 0, 0, 0, 0, 0, 1, 0, 1, 0, 0, 0, 0, 0, 0, 0, 0, 0, 0, 0, 0, 0, 0, 0, 0, 0, 0, 0, 0, 0, 0, 1, 0, 0, 0].getD j 0) (.calm 0 (.calm 1 (.calm 2 (.one 3 (.calm 4 (.calm 5 (.calm 6 (.calm 7 (.calm 8 (.calm 10 (.calm 11 (.calm 12 (.held 9 (.one 13 (.calm 14 (.calm 15 (.calm 16 (.calm 17 (.calm 18 (.calm 19 (.calm 20 (.calm 22 (.calm 23 (.calm 24 (.held 21 (.one 25 (.calm 26 (.one 27 (.calm 28 (.calm 29 (.calm 30 (.calm 31 (.calm 32 (.calm 33 (.calm 35 (.calm 36 (.calm 37 (.calm 42 (.calm 43 (.calm 44 (.calm 47 (.calm 48 (.calm 49 (.held 34 (.held 38 (.calm 39 (.held 40 (.calm 41 (.held 45 (.calm 46 (.one 50 (.calm 51 (.calm 52 (.calm 53 (.done))))))))))))))))))))))))))))))))))))))))))))))))))))))) mixed (by kernel_rfl) (by repeat (first | with_reducible exact Deaf.body | with_reducible apply Deaf.then | with_reducible apply Deaf.block)) ?_
    intro w1 hu1
    have hz1 := congrArg Array.size hu1.2.2.2
    replace hu1 := Upd.of_draw hu1
    have hs1 := hu1.size
    replace hU := hU.transA hu1
    replace hr := hr.upd hu1 (by first | exact (fun _ _ _ h => h) | (intro k hk hl hS; simp only [At] at hS; subst hS; exact hFg hk))
    replace hb := hb.updA hu1
    have hS1 := Upd.refl No w1
    refine WN.calm _ rfl rfl rfl rfl rfl (fun _ => r_move rfl (ev_t rfl)) ?_
    refine WN.calm _ rfl rfl rfl rfl rfl (fun _ => r_nilCheck rfl (ev_t rfl)) ?_
    first | refine WN.calm _ rfl rfl rfl rfl rfl (fun _ => r_field0 rfl (ev_t rfl) fld_35_1) ?_ | refine WN.calm _ rfl rfl rfl rfl rfl (fun _ => r_fieldAt rfl (ev_t rfl) fld_35_1) ?_
    refine WN.step _ rfl (SO.val rfl rfl rfl rfl (r_load rfl (ev_t rfl) flat_3 (Blk.cell hb rfl)) ?_)
    refine ⟨hS1, ?_⟩
    refine WN.calm _ rfl rfl rfl rfl rfl (fun _ => r_lss rfl (ev_t rfl) ev_c) ?_
    refine WN.calm _ rfl rfl rfl rfl rfl (fun _ => r_move rfl (ev_t rfl)) ?_
    refine WN.cases 11 rfl (fun hb1_5 => ?_) (fun hb1_5 => ?_)
    · try simp only [decide_eq_true_eq, decide_eq_false_iff_not, Bool.not_eq_true', Bool.not_eq_false', Bool.not_eq_true, Bool.not_eq_false, Option.isNone_none, Option.isNone_some, Option.isSome_none, Option.isSome_some, ne_eq, Decidable.not_not] at hb1_5
      exfalso
      omega
    · try (exfalso; first | (simp at hb1_5; done) | (simp only [decide_eq_true_eq, decide_eq_false_iff_not, Bool.not_eq_true', Bool.not_eq_false', Bool.not_eq_true, Bool.not_eq_false] at hb1_5; omega) | omega)
      all_goals
       try simp only [decide_eq_true_eq, decide_eq_false_iff_not, Bool.not_eq_true', Bool.not_eq_false', Bool.not_eq_true, Bool.not_eq_false, Option.isNone_none, Option.isNone_some, Option.isSome_none, Option.isSome_some, ne_eq, Decidable.not_not] at hb1_5
       refine WN.calm _ rfl rfl rfl rfl rfl (fun _ => r_move rfl (ev_t rfl)) ?_
       refine WN.calm _ rfl rfl rfl rfl rfl (fun _ => r_nilCheck rfl (ev_t rfl)) ?_
       first | refine WN.calm _ rfl rfl rfl rfl rfl (fun _ => r_field0 rfl (ev_t rfl) fld_35_1) ?_ | refine WN.calm _ rfl rfl rfl rfl rfl (fun _ => r_fieldAt rfl (ev_t rfl) fld_35_1) ?_
       refine WN.calm _ rfl rfl rfl rfl rfl (fun _ => r_move rfl (ev_t rfl)) ?_
       refine WN.calm _ rfl rfl rfl rfl rfl (fun _ => r_nilCheck rfl (ev_t rfl)) ?_
       first | refine WN.calm _ rfl rfl rfl rfl rfl (fun _ => r_field0 rfl (ev_t rfl) fld_35_0) ?_ | refine WN.calm _ rfl rfl rfl rfl rfl (fun _ => r_fieldAt rfl (ev_t rfl) fld_35_0) ?_
       refine WN.held _ rfl rfl rfl rfl rfl hS1 (fun w' hS => r_load rfl (ev_t rfl) flat_3 (Blk.cell (hb.upd hS (fun h => h)) rfl)) ?_
       refine WN.step _ rfl (SO.val rfl rfl rfl rfl (r_load rfl (ev_t rfl) flat_30 (Blk.cell hb rfl)) ?_)
       refine ⟨hS1, ?_⟩
       refine WN.calm _ rfl rfl rfl rfl rfl (fun _ => r_lenSlice (ts := #[]) rfl (ev_t rfl) elem_30) ?_
       refine WN.calm _ rfl rfl rfl rfl rfl (fun _ => r_geq rfl (ev_t rfl) (ev_t rfl)) ?_
       refine WN.calm _ rfl rfl rfl rfl rfl (fun _ => r_pickF rfl (ev_t rfl) (ev_t rfl)) ?_
       refine WN.calm _ rfl rfl rfl rfl rfl (fun _ => r_move rfl (ev_t rfl)) ?_
       refine WN.cases 23 rfl (fun hb1_17 => ?_) (fun hb1_17 => ?_)
       · try (exfalso; first | (simp at hb1_17; done) | (simp only [decide_eq_true_eq, decide_eq_false_iff_not, Bool.not_eq_true', Bool.not_eq_false', Bool.not_eq_true, Bool.not_eq_false] at hb1_17; omega) | omega)
         all_goals
          try simp only [decide_eq_true_eq, decide_eq_false_iff_not, Bool.not_eq_true', Bool.not_eq_false', Bool.not_eq_true, Bool.not_eq_false, Option.isNone_none, Option.isNone_some, Option.isSome_none, Option.isSome_some, ne_eq, Decidable.not_not] at hb1_17
          refine WN.skip _ rfl rfl rfl rfl ?_
          refine WN.skip _ rfl rfl rfl rfl ?_
          refine WN.skip _ rfl rfl rfl rfl ?_
          refine WN.skip _ rfl rfl rfl rfl ?_
          refine WN.skip _ rfl rfl rfl rfl ?_
          refine WN.skip _ rfl rfl rfl rfl ?_
          refine WN.heldSkip _ rfl rfl rfl rfl hS1 ?_
          refine WN.step _ rfl (SO.skip rfl rfl rfl ?_)
          refine ⟨hS1, ?_⟩
          refine WN.skip _ rfl rfl rfl rfl ?_
          refine WN.step _ rfl (SO.skip rfl rfl rfl ?_)
          refine ⟨hS1, ?_⟩
          refine WN.skip _ rfl rfl rfl rfl ?_
          refine WN.calm _ rfl rfl rfl rfl rfl (fun _ => r_pickT rfl (ev_t rfl) ev_c) ?_
          refine WN.calm _ rfl rfl rfl rfl rfl (fun _ => r_move rfl (ev_t rfl)) ?_
          refine WN.skip _ rfl rfl rfl rfl ?_
          refine WN.skip _ rfl rfl rfl rfl ?_
          refine WN.skip _ rfl rfl rfl rfl ?_
          refine WN.skip _ rfl rfl rfl rfl ?_
          refine WN.skip _ rfl rfl rfl rfl ?_
          refine WN.skip _ rfl rfl rfl rfl ?_
          refine WN.skip _ rfl rfl rfl rfl ?_
          refine WN.skip _ rfl rfl rfl rfl ?_
          refine WN.skip _ rfl rfl rfl rfl ?_
          refine WN.skip _ rfl rfl rfl rfl ?_
          refine WN.skip _ rfl rfl rfl rfl ?_
          refine WN.skip _ rfl rfl rfl rfl ?_
          refine WN.heldSkip _ rfl rfl rfl rfl hS1 ?_
          refine WN.heldSkip _ rfl rfl rfl rfl hS1 ?_
          refine WN.skip _ rfl rfl rfl rfl ?_
          refine WN.heldSkip _ rfl rfl rfl rfl hS1 ?_
          refine WN.skip _ rfl rfl rfl rfl ?_
          refine WN.heldSkip _ rfl rfl rfl rfl hS1 ?_
          refine WN.skip _ rfl rfl rfl rfl ?_
          refine WN.step _ rfl (SO.skip rfl rfl rfl ?_)
          refine ⟨hS1, ?_⟩
          refine WN.skip _ rfl rfl rfl rfl ?_
          refine WN.skip _ rfl rfl rfl rfl ?_
          refine WN.calm _ rfl rfl rfl rfl rfl (fun _ => r_pickT rfl (ev_t rfl) ev_c) ?_
          refine WN.done ?_
          refine WX.keep [(0, _), (59, _)] ⟨rfl, rfl, trivial⟩ ?_
          refine WX.next ?_
          refine WC.cond_true rfl (ev_t rfl) ?_
          refine WC.seq ?_
          refine WC.region ?_
          refine WL.val rfl rfl rfl rfl (r_move rfl (ev_t rfl)) ?_
          refine WL.val rfl rfl rfl rfl (r_nilCheck rfl (ev_t rfl)) ?_
          first | refine WL.val rfl rfl rfl rfl (r_field0 rfl (ev_t rfl) fld_35_1) ?_ | refine WL.val rfl rfl rfl rfl (r_fieldAt rfl (ev_t rfl) fld_35_1) ?_
          refine WL.cons (SO.store rfl (ev_t rfl) ev_c size_3 hb rfl rfl rfl rfl rfl ?_)
          intro w2 hu2 hb hz2
          have hs2 := hu2.size
          replace hU := hU.transA hu2
          replace hr := hr.upd hu2 (by first | exact (fun _ _ _ h => h) | (intro k hk hl hS; simp only [At] at hS; subst hS; exact hFg hk))
          refine WL.nil ?_
          refine WX.keep [] trivial ?_
          refine WX.next ?_
          refine WC.seq ?_
          refine WC.region ?_
          refine WL.val rfl rfl rfl rfl (r_assign rfl ev_c) ?_
          refine WL.nil ?_
          refine WX.keep [(2, _)] ⟨rfl, trivial⟩ ?_
          refine WX.next ?_
          refine WC.ret ?_
          refine WX.thenRet ?_
          refine WX.retE1 rfl rfl ?_
          have hd : decU (p.drop m) = none := by
            first
              | exact decU_end (by omega)
              | (rw [decU_drop (by omega), if_neg (fun h => by have := h.1; have := h.2.1; omega)])
          simp only [uintR, hd, Prod.mk.injEq] at hx
          obtain ⟨rfl, rfl⟩ := hx
          exact ⟨rfl, ⟨_, c, -1, hb, hr, rfl⟩, hU⟩
       · try (exfalso; first | (simp at hb1_17; done) | (simp only [decide_eq_true_eq, decide_eq_false_iff_not, Bool.not_eq_true', Bool.not_eq_false', Bool.not_eq_true, Bool.not_eq_false] at hb1_17; omega) | omega)
         all_goals
          try simp only [decide_eq_true_eq, decide_eq_false_iff_not, Bool.not_eq_true', Bool.not_eq_false', Bool.not_eq_true, Bool.not_eq_false, Option.isNone_none, Option.isNone_some, Option.isSome_none, Option.isSome_some, ne_eq, Decidable.not_not] at hb1_17
          have hml : m < p.length := by omega
          obtain ⟨b, off, rfl, _⟩ := hr.open (by omega)
          have hcm : (p.map U8)[m]? = some (.int .u8 (p[m].toNat : Int)) := by simp [U8, hml]
          have hb8 := p[m].toNat_lt
          refine WN.calm _ rfl rfl rfl rfl rfl (fun _ => r_move rfl (ev_t rfl)) ?_
          refine WN.calm _ rfl rfl rfl rfl rfl (fun _ => r_nilCheck rfl (ev_t rfl)) ?_
          first | refine WN.calm _ rfl rfl rfl rfl rfl (fun _ => r_field0 rfl (ev_t rfl) fld_35_0) ?_ | refine WN.calm _ rfl rfl rfl rfl rfl (fun _ => r_fieldAt rfl (ev_t rfl) fld_35_0) ?_
          refine WN.calm _ rfl rfl rfl rfl rfl (fun _ => r_move rfl (ev_t rfl)) ?_
          refine WN.calm _ rfl rfl rfl rfl rfl (fun _ => r_nilCheck rfl (ev_t rfl)) ?_
          first | refine WN.calm _ rfl rfl rfl rfl rfl (fun _ => r_field0 rfl (ev_t rfl) fld_35_1) ?_ | refine WN.calm _ rfl rfl rfl rfl rfl (fun _ => r_fieldAt rfl (ev_t rfl) fld_35_1) ?_
          refine WN.held _ rfl rfl rfl rfl rfl hS1 (fun w' hS => r_load rfl (ev_t rfl) flat_30 (Blk.cell (hb.upd hS (fun h => h)) rfl)) ?_
          refine WN.step _ rfl (SO.val rfl rfl rfl rfl (r_load rfl (ev_t rfl) flat_3 (Blk.cell hb rfl)) ?_)
          refine ⟨hS1, ?_⟩
          refine WN.calm _ rfl rfl rfl rfl rfl (fun _ => r_indexAddr rfl (ev_t rfl) (ev_t rfl) elem_30 size_5 (by omega) (by omega)) ?_
          refine WN.step _ rfl (SO.val rfl rfl rfl rfl (r_load rfl (ev_t rfl) flat_5 (hr.cell (j := m) (by omega) hcm)) ?_)
          refine ⟨hS1, ?_⟩
          refine WN.calm _ rfl rfl rfl rfl rfl (fun _ => r_gtr rfl (ev_t rfl) ev_c) ?_
          refine WN.calm _ rfl rfl rfl rfl rfl (fun _ => r_pickF rfl (ev_t rfl) (ev_t rfl)) ?_
          refine WN.calm _ rfl rfl rfl rfl rfl (fun _ => r_move rfl (ev_t rfl)) ?_
          refine WN.cases 36 rfl (fun hb1_30 => ?_) (fun hb1_30 => ?_)
          · try (exfalso; first | (simp at hb1_30; done) | (simp only [decide_eq_true_eq, decide_eq_false_iff_not, Bool.not_eq_true', Bool.not_eq_false', Bool.not_eq_true, Bool.not_eq_false] at hb1_30; omega) | omega)
            all_goals
             try simp only [decide_eq_true_eq, decide_eq_false_iff_not, Bool.not_eq_true', Bool.not_eq_false', Bool.not_eq_true, Bool.not_eq_false, Option.isNone_none, Option.isNone_some, Option.isSome_none, Option.isSome_some, ne_eq, Decidable.not_not] at hb1_30
             refine WN.skip _ rfl rfl rfl rfl ?_
             refine WN.skip _ rfl rfl rfl rfl ?_
             refine WN.skip _ rfl rfl rfl rfl ?_
             refine WN.skip _ rfl rfl rfl rfl ?_
             refine WN.skip _ rfl rfl rfl rfl ?_
             refine WN.skip _ rfl rfl rfl rfl ?_
             refine WN.skip _ rfl rfl rfl rfl ?_
             refine WN.skip _ rfl rfl rfl rfl ?_
             refine WN.skip _ rfl rfl rfl rfl ?_
             refine WN.skip _ rfl rfl rfl rfl ?_
             refine WN.skip _ rfl rfl rfl rfl ?_
             refine WN.skip _ rfl rfl rfl rfl ?_
             refine WN.heldSkip _ rfl rfl rfl rfl hS1 ?_
             refine WN.heldSkip _ rfl rfl rfl rfl hS1 ?_
             refine WN.skip _ rfl rfl rfl rfl ?_
             refine WN.heldSkip _ rfl rfl rfl rfl hS1 ?_
             refine WN.skip _ rfl rfl rfl rfl ?_
             refine WN.heldSkip _ rfl rfl rfl rfl hS1 ?_
             refine WN.skip _ rfl rfl rfl rfl ?_
             refine WN.step _ rfl (SO.skip rfl rfl rfl ?_)
             refine ⟨hS1, ?_⟩
             refine WN.skip _ rfl rfl rfl rfl ?_
             refine WN.skip _ rfl rfl rfl rfl ?_
             refine WN.calm _ rfl rfl rfl rfl rfl (fun _ => r_pickT rfl (ev_t rfl) ev_c) ?_
             refine WN.done ?_
             refine WX.keep [(0, _), (59, _)] ⟨rfl, rfl, trivial⟩ ?_
             refine WX.next ?_
             refine WC.cond_true rfl (ev_t rfl) ?_
             refine WC.seq ?_
             refine WC.region ?_
             refine WL.val rfl rfl rfl rfl (r_move rfl (ev_t rfl)) ?_
             refine WL.val rfl rfl rfl rfl (r_nilCheck rfl (ev_t rfl)) ?_
             first | refine WL.val rfl rfl rfl rfl (r_field0 rfl (ev_t rfl) fld_35_1) ?_ | refine WL.val rfl rfl rfl rfl (r_fieldAt rfl (ev_t rfl) fld_35_1) ?_
             refine WL.cons (SO.store rfl (ev_t rfl) ev_c size_3 hb rfl rfl rfl rfl rfl ?_)
             intro w3 hu3 hb hz3
             have hs3 := hu3.size
             replace hU := hU.transA hu3
             replace hr := hr.upd hu3 (by first | exact (fun _ _ _ h => h) | (intro k hk hl hS; simp only [At] at hS; subst hS; exact hFg hk))
             refine WL.nil ?_
             refine WX.keep [] trivial ?_
             refine WX.next ?_
             refine WC.seq ?_
             refine WC.region ?_
             refine WL.val rfl rfl rfl rfl (r_assign rfl ev_c) ?_
             refine WL.nil ?_
             refine WX.keep [(2, _)] ⟨rfl, trivial⟩ ?_
             refine WX.next ?_
             refine WC.ret ?_
             refine WX.thenRet ?_
             refine WX.retE1 rfl rfl ?_
             have hd : decU (p.drop m) = none := by
               first
                 | exact decU_end (by omega)
                 | (rw [decU_drop (by omega), if_neg (fun h => by have := h.1; have := h.2.1; omega)])
             simp only [uintR, hd, Prod.mk.injEq] at hx
             obtain ⟨rfl, rfl⟩ := hx
             exact ⟨rfl, ⟨_, c, -1, hb, hr, rfl⟩, hU⟩
          · try (exfalso; first | (simp at hb1_30; done) | (simp only [decide_eq_true_eq, decide_eq_false_iff_not, Bool.not_eq_true', Bool.not_eq_false', Bool.not_eq_true, Bool.not_eq_false] at hb1_30; omega) | omega)
            all_goals
             try simp only [decide_eq_true_eq, decide_eq_false_iff_not, Bool.not_eq_true', Bool.not_eq_false', Bool.not_eq_true, Bool.not_eq_false, Option.isNone_none, Option.isNone_some, Option.isSome_none, Option.isSome_some, ne_eq, Decidable.not_not] at hb1_30
             refine WN.calm _ rfl rfl rfl rfl rfl (fun _ => r_move rfl (ev_t rfl)) ?_
             refine WN.calm _ rfl rfl rfl rfl rfl (fun _ => r_nilCheck rfl (ev_t rfl)) ?_
             first | refine WN.calm _ rfl rfl rfl rfl rfl (fun _ => r_field0 rfl (ev_t rfl) fld_35_0) ?_ | refine WN.calm _ rfl rfl rfl rfl rfl (fun _ => r_fieldAt rfl (ev_t rfl) fld_35_0) ?_
             refine WN.calm _ rfl rfl rfl rfl rfl (fun _ => r_move rfl (ev_t rfl)) ?_
             refine WN.calm _ rfl rfl rfl rfl rfl (fun _ => r_nilCheck rfl (ev_t rfl)) ?_
             first | refine WN.calm _ rfl rfl rfl rfl rfl (fun _ => r_field0 rfl (ev_t rfl) fld_35_1) ?_ | refine WN.calm _ rfl rfl rfl rfl rfl (fun _ => r_fieldAt rfl (ev_t rfl) fld_35_1) ?_
             refine WN.calm _ rfl rfl rfl rfl rfl (fun _ => r_move rfl (ev_t rfl)) ?_
             refine WN.calm _ rfl rfl rfl rfl rfl (fun _ => r_nilCheck rfl (ev_t rfl)) ?_
             first | refine WN.calm _ rfl rfl rfl rfl rfl (fun _ => r_field0 rfl (ev_t rfl) fld_35_0) ?_ | refine WN.calm _ rfl rfl rfl rfl rfl (fun _ => r_fieldAt rfl (ev_t rfl) fld_35_0) ?_
             refine WN.calm _ rfl rfl rfl rfl rfl (fun _ => r_move rfl (ev_t rfl)) ?_
             refine WN.calm _ rfl rfl rfl rfl rfl (fun _ => r_nilCheck rfl (ev_t rfl)) ?_
             first | refine WN.calm _ rfl rfl rfl rfl rfl (fun _ => r_field0 rfl (ev_t rfl) fld_35_1) ?_ | refine WN.calm _ rfl rfl rfl rfl rfl (fun _ => r_fieldAt rfl (ev_t rfl) fld_35_1) ?_
             refine WN.held _ rfl rfl rfl rfl rfl hS1 (fun w' hS => r_load rfl (ev_t rfl) flat_30 (Blk.cell (hb.upd hS (fun h => h)) rfl)) ?_
             refine WN.held _ rfl rfl rfl rfl rfl hS1 (fun w' hS => r_load rfl (ev_t rfl) flat_3 (Blk.cell (hb.upd hS (fun h => h)) rfl)) ?_
             refine WN.calm _ rfl rfl rfl rfl rfl (fun _ => r_indexAddr rfl (ev_t rfl) (ev_t rfl) elem_30 size_5 (by omega) (by omega)) ?_
             refine WN.held _ rfl rfl rfl rfl rfl hS1 (fun w' hS => r_load rfl (ev_t rfl) flat_5 ((hr.upd hS (fun _ _ _ h => h)).cell (j := m) (by omega) hcm)) ?_
             first | refine WN.calm _ rfl rfl rfl rfl rfl (fun _ => r_convN rfl (ev_t rfl) some_5 int_3 (by simp only [inK]; omega)) ?_ | refine WN.calm _ rfl rfl rfl rfl rfl (fun _ => r_conv rfl (ev_t rfl) some_5 int_3) ?_
             refine WN.held _ rfl rfl rfl rfl rfl hS1 (fun w' hS => r_load rfl (ev_t rfl) flat_30 (Blk.cell (hb.upd hS (fun h => h)) rfl)) ?_
             refine WN.calm _ rfl rfl rfl rfl rfl (fun _ => r_lenSlice (ts := #[]) rfl (ev_t rfl) elem_30) ?_
             refine WN.step _ rfl (SO.val rfl rfl rfl rfl (r_load rfl (ev_t rfl) flat_3 (Blk.cell hb rfl)) ?_)
             refine ⟨hS1, ?_⟩
             first | refine WN.calm _ rfl rfl rfl rfl rfl (fun _ => r_subN rfl (ev_t rfl) (ev_t rfl) (by simp only [inK]; omega)) ?_ | refine WN.calm _ rfl rfl rfl rfl rfl (fun _ => r_sub rfl (ev_t rfl) (ev_t rfl)) ?_
             refine WN.calm _ rfl rfl rfl rfl rfl (fun _ => r_geq rfl (ev_t rfl) (ev_t rfl)) ?_
             refine WN.calm _ rfl rfl rfl rfl rfl (fun _ => r_pickF rfl (ev_t rfl) (ev_t rfl)) ?_
             refine WN.done ?_
             refine WX.keep [(0, _), (59, _)] ⟨rfl, rfl, trivial⟩ ?_
             refine WX.next ?_
             refine WC.cond rfl (ev_t rfl) (fun hc1 => ?_) (fun hc1 => ?_)
             · try (exfalso; first | (simp at hc1; done) | (simp only [decide_eq_true_eq, decide_eq_false_iff_not, Bool.not_eq_true', Bool.not_eq_false', Bool.not_eq_true, Bool.not_eq_false] at hc1; omega) | omega)
               all_goals
                try simp only [decide_eq_true_eq, decide_eq_false_iff_not, Bool.not_eq_true', Bool.not_eq_false', Bool.not_eq_true, Bool.not_eq_false, Option.isNone_none, Option.isNone_some, Option.isSome_none, Option.isSome_some, ne_eq, Decidable.not_not] at hc1
                refine WC.seq ?_
                refine WC.region ?_
                refine WL.val rfl rfl rfl rfl (r_move rfl (ev_t rfl)) ?_
                refine WL.val rfl rfl rfl rfl (r_nilCheck rfl (ev_t rfl)) ?_
                first | refine WL.val rfl rfl rfl rfl (r_field0 rfl (ev_t rfl) fld_35_1) ?_ | refine WL.val rfl rfl rfl rfl (r_fieldAt rfl (ev_t rfl) fld_35_1) ?_
                refine WL.cons (SO.store rfl (ev_t rfl) ev_c size_3 hb rfl rfl rfl rfl rfl ?_)
                intro w4 hu4 hb hz4
                have hs4 := hu4.size
                replace hU := hU.transA hu4
                replace hr := hr.upd hu4 (by first | exact (fun _ _ _ h => h) | (intro k hk hl hS; simp only [At] at hS; subst hS; exact hFg hk))
                refine WL.nil ?_
                refine WX.keep [] trivial ?_
                refine WX.next ?_
                refine WC.seq ?_
                refine WC.region ?_
                refine WL.val rfl rfl rfl rfl (r_assign rfl ev_c) ?_
                refine WL.nil ?_
                refine WX.keep [(2, _)] ⟨rfl, trivial⟩ ?_
                refine WX.next ?_
                refine WC.ret ?_
                refine WX.thenRet ?_
                refine WX.retE1 rfl rfl ?_
                have hd : decU (p.drop m) = none := by
                  first
                    | exact decU_end (by omega)
                    | (rw [decU_drop (by omega), if_neg (fun h => by have := h.1; have := h.2.1; omega)])
                simp only [uintR, hd, Prod.mk.injEq] at hx
                obtain ⟨rfl, rfl⟩ := hx
                exact ⟨rfl, ⟨_, c, -1, hb, hr, rfl⟩, hU⟩
             · try (exfalso; first | (simp at hc1; done) | (simp only [decide_eq_true_eq, decide_eq_false_iff_not, Bool.not_eq_true', Bool.not_eq_false', Bool.not_eq_true, Bool.not_eq_false] at hc1; omega) | omega)
               all_goals
                try simp only [decide_eq_true_eq, decide_eq_false_iff_not, Bool.not_eq_true', Bool.not_eq_false', Bool.not_eq_true, Bool.not_eq_false, Option.isNone_none, Option.isNone_some, Option.isSome_none, Option.isSome_some, ne_eq, Decidable.not_not] at hc1
                obtain ⟨k, hk⟩ : ∃ k, p[m].toNat = k := ⟨_, rfl⟩
                rw [hk] at hcm
                have hk8 : k ≤ 8 := by omega
                have hkl : k ≤ p.length - (m + 1) := by omega
                have hql : (p.drop (m + 1)).length = p.length - (m + 1) := List.length_drop
                refine WC.skip ?_
                refine WX.next ?_
                refine WC.seq ?_
                refine WC.region ?_
                refine WL.val rfl rfl rfl rfl (r_assign rfl ev_c) ?_
                refine WL.nil ?_
                refine WX.keep [(0, _), (3, _)] ⟨rfl, rfl, trivial⟩ ?_
                refine WX.next ?_
                refine WC.seq ?_
                refine WC.draws' (fun u0_ u1_ => Upd No u0_ u1_) (fun j => [0, 0, 0, 0, 0, 0, 0, 1, 0, 2, 0, 0].getD j 0) (.calm 0 (.calm 1 (.calm 2 (.calm 4 (.calm 5 (.calm 6 (.held 3 (.one 7 (.calm 8 (.one 9 (.calm 10 (.calm 11 (.done))))))))))))) mixed (by kernel_rfl) (by repeat (first | with_reducible exact Deaf.body | with_reducible apply Deaf.then | with_reducible apply Deaf.block)) ?_
                intro w5 hu5
                have hz5 := congrArg Array.size hu5.2.2.2
                replace hu5 := Upd.of_draw hu5
                have hs5 := hu5.size
                replace hU := hU.transA hu5
                replace hr := hr.upd hu5 (by first | exact (fun _ _ _ h => h) | (intro k hk hl hS; simp only [At] at hS; subst hS; exact hFg hk))
                replace hb := hb.updA hu5
                have hS5 := Upd.refl No w5
                refine WN.calm _ rfl rfl rfl rfl rfl (fun _ => r_move rfl (ev_t rfl)) ?_
                refine WN.calm _ rfl rfl rfl rfl rfl (fun _ => r_nilCheck rfl (ev_t rfl)) ?_
                first | refine WN.calm _ rfl rfl rfl rfl rfl (fun _ => r_field0 rfl (ev_t rfl) fld_35_0) ?_ | refine WN.calm _ rfl rfl rfl rfl rfl (fun _ => r_fieldAt rfl (ev_t rfl) fld_35_0) ?_
                refine WN.calm _ rfl rfl rfl rfl rfl (fun _ => r_move rfl (ev_t rfl)) ?_
                refine WN.calm _ rfl rfl rfl rfl rfl (fun _ => r_nilCheck rfl (ev_t rfl)) ?_
                first | refine WN.calm _ rfl rfl rfl rfl rfl (fun _ => r_field0 rfl (ev_t rfl) fld_35_1) ?_ | refine WN.calm _ rfl rfl rfl rfl rfl (fun _ => r_fieldAt rfl (ev_t rfl) fld_35_1) ?_
                refine WN.held _ rfl rfl rfl rfl rfl hS5 (fun w' hS => r_load rfl (ev_t rfl) flat_30 (Blk.cell (hb.upd hS (fun h => h)) rfl)) ?_
                refine WN.step _ rfl (SO.val rfl rfl rfl rfl (r_load rfl (ev_t rfl) flat_3 (Blk.cell hb rfl)) ?_)
                refine ⟨hS5, ?_⟩
                refine WN.calm _ rfl rfl rfl rfl rfl (fun _ => r_indexAddr rfl (ev_t rfl) (ev_t rfl) elem_30 size_5 (by omega) (by omega)) ?_
                refine WN.step _ rfl (SO.val rfl rfl rfl rfl (r_load rfl (ev_t rfl) flat_5 (hr.cell (j := m) (by omega) hcm)) ?_)
                refine ⟨trivial, ?_⟩
                first | refine WN.calm _ rfl rfl rfl rfl rfl (fun _ => r_convN rfl (ev_t rfl) some_5 int_3 (by simp only [inK]; omega)) ?_ | refine WN.calm _ rfl rfl rfl rfl rfl (fun _ => r_conv rfl (ev_t rfl) some_5 int_3) ?_
                refine WN.calm _ rfl rfl rfl rfl rfl (fun _ => r_assign rfl (ev_t rfl)) ?_
                refine WN.done ?_
                refine WX.keep [(0, _), (3, _), (4, _)] ⟨rfl, rfl, rfl, trivial⟩ ?_
                refine WX.next ?_
                refine WC.seq ?_
                refine WC.seq ?_
                refine WC.region ?_
                refine WL.val rfl rfl rfl rfl (r_assign rfl ev_c) ?_
                refine WL.nil ?_
                refine WX.keep [(0, _), (3, _), (4, _), (5, _)] ⟨rfl, rfl, rfl, rfl, trivial⟩ ?_
                refine WX.next ?_
                refine WC.block ?_
                -- loop 1: live [0, 3, 4, 5]
                refine WC.keep [(0, _), (3, _), (4, _), (5, _)] ⟨rfl, rfl, rfl, rfl, trivial⟩ ?_
                refine WC.loop (fun q E w' => ∃ i : Nat, i ≤ k ∧ q = k - i ∧ Upd (At g) w w' ∧ Blk w' g #[.slice (some ⟨b, off, none⟩) p.length c, .int .i64 (m : Int)] 35 ∧ Rd w' F (.slice (some ⟨b, off, none⟩) p.length c) p.length 1 (p.map U8) ∧   E = [(0, .pointer (some ⟨g, 0, none⟩)), (3, .int .u64 (beN ((p.drop (m + 1)).take i) : Nat)), (4, .int .i64 (k : Int)), (5, .int .i64 ((i : Int) + 1))]) (k) ?_ ?_
                · exact ⟨0, by omega, by omega, hU, hb, hr, rfl⟩
                · rintro q E w' ⟨i, hi, rfl, hU, hb, hr, rfl⟩
                  have hs0 := hU.size
                  refine WC.seq ?_
                  refine WC.seq ?_
                  refine WC.region ?_
                  refine WL.val rfl rfl rfl rfl (r_move rfl (ev_t rfl)) ?_
                  refine WL.val rfl rfl rfl rfl (r_move rfl (ev_t rfl)) ?_
                  refine WL.val rfl rfl rfl rfl (r_leq rfl (ev_t rfl) (ev_t rfl)) ?_
                  refine WL.nil ?_
                  refine WX.keep [(0, _), (3, _), (4, _), (5, _), (76, _)] ⟨rfl, rfl, rfl, rfl, rfl, trivial⟩ ?_
                  refine WX.next ?_
                  refine WC.cond rfl (ev_t rfl) (fun hc7 => ?_) (fun hc7 => ?_)
                  · try (exfalso; first | (simp at hc7; done) | (simp only [decide_eq_true_eq, decide_eq_false_iff_not, Bool.not_eq_true', Bool.not_eq_false', Bool.not_eq_true, Bool.not_eq_false] at hc7; omega) | omega)
                    all_goals
                     try simp only [decide_eq_true_eq, decide_eq_false_iff_not, Bool.not_eq_true', Bool.not_eq_false', Bool.not_eq_true, Bool.not_eq_false, Option.isNone_none, Option.isNone_some, Option.isSome_none, Option.isSome_some, ne_eq, Decidable.not_not] at hc7
                     have hi' : m + 1 + i < p.length := by omega
                     have hci : (p.map U8)[m + 1 + i]? = some (.int .u8 (p[m + 1 + i].toNat : Int)) := by simp [U8, hi']
                     have hlt8 := beN_take_lt (p.drop (m + 1)) i (by omega)
                     have hbi := p[m + 1 + i].toNat_lt
                     refine WC.skip ?_
                     refine WX.next ?_
                     refine WC.seq ?_
                     refine WC.block ?_
                     refine WC.draws' (fun u0_ u1_ => Upd No u0_ u1_) (fun j => [0, 0, 0, 0, 0, 0, 0, 0, 0, 1, 0, 0, 0, 2, 0, 0, 0].getD j 0) (.calm 0 (.calm 1 (.calm 2 (.calm 3 (.calm 4 (.calm 6 (.calm 7 (.calm 8 (.calm 10 (.held 5 (.one 9 (.calm 11 (.calm 12 (.one 13 (.calm 14 (.calm 15 (.calm 16 (.done)))))))))))))))))) mixed (by kernel_rfl) (by repeat (first | with_reducible exact Deaf.body | with_reducible apply Deaf.then | with_reducible apply Deaf.block)) ?_
                     intro w6 hu6
                     have hz6 := congrArg Array.size hu6.2.2.2
                     replace hu6 := Upd.of_draw hu6
                     have hs6 := hu6.size
                     replace hU := hU.transA hu6
                     replace hr := hr.upd hu6 (by first | exact (fun _ _ _ h => h) | (intro k hk hl hS; simp only [At] at hS; subst hS; exact hFg hk))
                     replace hb := hb.updA hu6
                     have hS9 := Upd.refl No w6
                     refine WN.calm _ rfl rfl rfl rfl rfl (fun _ => r_move rfl (ev_t rfl)) ?_
                     first | refine WN.calm _ rfl rfl rfl rfl rfl (fun _ => r_mulN rfl (ev_t rfl) ev_c (by simp only [inK]; omega)) ?_ | refine WN.calm _ rfl rfl rfl rfl rfl (fun _ => r_mul rfl (ev_t rfl) ev_c) ?_
                     refine WN.calm _ rfl rfl rfl rfl rfl (fun _ => r_move rfl (ev_t rfl)) ?_
                     refine WN.calm _ rfl rfl rfl rfl rfl (fun _ => r_nilCheck rfl (ev_t rfl)) ?_
                     first | refine WN.calm _ rfl rfl rfl rfl rfl (fun _ => r_field0 rfl (ev_t rfl) fld_35_0) ?_ | refine WN.calm _ rfl rfl rfl rfl rfl (fun _ => r_fieldAt rfl (ev_t rfl) fld_35_0) ?_
                     refine WN.calm _ rfl rfl rfl rfl rfl (fun _ => r_move rfl (ev_t rfl)) ?_
                     refine WN.calm _ rfl rfl rfl rfl rfl (fun _ => r_nilCheck rfl (ev_t rfl)) ?_
                     first | refine WN.calm _ rfl rfl rfl rfl rfl (fun _ => r_field0 rfl (ev_t rfl) fld_35_1) ?_ | refine WN.calm _ rfl rfl rfl rfl rfl (fun _ => r_fieldAt rfl (ev_t rfl) fld_35_1) ?_
                     refine WN.calm _ rfl rfl rfl rfl rfl (fun _ => r_move rfl (ev_t rfl)) ?_
                     refine WN.held _ rfl rfl rfl rfl rfl hS9 (fun w' hS => r_load rfl (ev_t rfl) flat_30 (Blk.cell (hb.upd hS (fun h => h)) rfl)) ?_
                     refine WN.step _ rfl (SO.val rfl rfl rfl rfl (r_load rfl (ev_t rfl) flat_3 (Blk.cell hb rfl)) ?_)
                     refine ⟨hS9, ?_⟩
                     first | refine WN.calm _ rfl rfl rfl rfl rfl (fun _ => r_addN rfl (ev_t rfl) (ev_t rfl) (by simp only [inK]; omega)) ?_ | refine WN.calm _ rfl rfl rfl rfl rfl (fun _ => r_add rfl (ev_t rfl) (ev_t rfl)) ?_
                     refine WN.calm _ rfl rfl rfl rfl rfl (fun _ => r_indexAddr rfl (ev_t rfl) (ev_t rfl) elem_30 size_5 (by omega) (by omega)) ?_
                     refine WN.step _ rfl (SO.val rfl rfl rfl rfl (r_load rfl (ev_t rfl) flat_5 (hr.cell (j := m + 1 + i) (by omega) hci)) ?_)
                     refine ⟨trivial, ?_⟩
                     first | refine WN.calm _ rfl rfl rfl rfl rfl (fun _ => r_convN rfl (ev_t rfl) some_5 int_63 (by simp only [inK]; omega)) ?_ | refine WN.calm _ rfl rfl rfl rfl rfl (fun _ => r_conv rfl (ev_t rfl) some_5 int_63) ?_
                     first | refine WN.calm _ rfl rfl rfl rfl rfl (fun _ => r_addN rfl (ev_t rfl) (ev_t rfl) (by simp only [inK]; omega)) ?_ | refine WN.calm _ rfl rfl rfl rfl rfl (fun _ => r_add rfl (ev_t rfl) (ev_t rfl)) ?_
                     refine WN.calm _ rfl rfl rfl rfl rfl (fun _ => r_assign rfl (ev_t rfl)) ?_
                     refine WN.done ?_
                     refine WX.keep [(0, _), (3, _), (4, _), (5, _)] ⟨rfl, rfl, rfl, rfl, trivial⟩ ?_
                     refine WX.blockNormal ?_
                     refine WX.next ?_
                     refine WC.region ?_
                     refine WL.val rfl rfl rfl rfl (r_move rfl (ev_t rfl)) ?_
                     first | refine WL.val rfl rfl rfl rfl (r_addN rfl (ev_t rfl) ev_c (by simp only [inK]; omega)) ?_ | refine WL.val rfl rfl rfl rfl (r_add rfl (ev_t rfl) ev_c) ?_
                     refine WL.val rfl rfl rfl rfl (r_assign rfl (ev_t rfl)) ?_
                     refine WL.nil ?_
                     refine WX.keep [(0, _), (3, _), (4, _), (5, _)] ⟨rfl, rfl, rfl, rfl, trivial⟩ ?_
                     refine WX.meet [(0, _), (3, _), (4, _), (5, _)] ⟨rfl, rfl, rfl, rfl, trivial⟩ ?_
                     have hbs : beN ((p.drop (m + 1)).take (i + 1)) = beN ((p.drop (m + 1)).take i) * 256 + p[m + 1 + i].toNat := by rw [beN_take_succ _ _ (by omega), List.getElem_drop]
                     refine ⟨k - (i + 1), by omega, i + 1, by omega, rfl, hU, hb, hr, ?_⟩
                     rw [hbs, Int.natCast_add, Int.natCast_mul]
                     rfl
                  · try (exfalso; first | (simp at hc7; done) | (simp only [decide_eq_true_eq, decide_eq_false_iff_not, Bool.not_eq_true', Bool.not_eq_false', Bool.not_eq_true, Bool.not_eq_false] at hc7; omega) | omega)
                    all_goals
                     try simp only [decide_eq_true_eq, decide_eq_false_iff_not, Bool.not_eq_true', Bool.not_eq_false', Bool.not_eq_true, Bool.not_eq_false, Option.isNone_none, Option.isNone_some, Option.isSome_none, Option.isSome_some, ne_eq, Decidable.not_not] at hc7
                     obtain rfl : i = k := by omega
                     have hn64 := beN_take_lt8 (p.drop (m + 1)) hk8
                     have lu := encU_length (beN ((p.drop (m + 1)).take i))
                     have lb : blen (beN ((p.drop (m + 1)).take i)) ≤ 8 := blen_le (by simpa using hn64)
                     refine WC.exit ?_
                     refine WX.thenExit ?_
                     refine WX.thenExit ?_
                     refine WX.blockHere ?_
                     refine WX.next ?_
                     refine WC.seq ?_
                     refine WC.seq ?_
                     refine WC.draws' (fun u0_ u1_ => Upd No u0_ u1_) (fun j => [0, 1, 1, 0, 0, 0, 0, 0, 0, 0, 0, 0, 0, 0, 0, 0, 0, 0, 0, 2, 0].getD j 0) (.calm 0 (.calm 3 (.calm 4 (.calm 5 (.calm 7 (.calm 8 (.calm 9 (.calm 11 (.calm 12 (.calm 13 (.calm 15 (.held 6 (.held 10 (.held 14 (.calm 16 (.calm 17 (.calm 18 (.two 1 19 (.two 2 19 (.one 19 (.calm 20 (.done))) (.one 2 (.calm 20 (.done)))) (.one 1 (.one 2 (.calm 20 (.done)))))))))))))))))))))) mixed (by kernel_rfl) (by repeat (first | with_reducible exact Deaf.body | with_reducible apply Deaf.then | with_reducible apply Deaf.block)) ?_
                     intro w7 hu7
                     have hz7 := congrArg Array.size hu7.2.2.2
                     replace hu7 := Upd.of_draw hu7
                     have hs7 := hu7.size
                     replace hU := hU.transA hu7
                     replace hr := hr.upd hu7 (by first | exact (fun _ _ _ h => h) | (intro k hk hl hS; simp only [At] at hS; subst hS; exact hFg hk))
                     replace hb := hb.updA hu7
                     have hS10 := Upd.refl No w7
                     refine WN.calm _ rfl rfl rfl rfl rfl (fun _ => r_move rfl (ev_t rfl)) ?_
                     refine WN.calm _ rfl rfl rfl rfl rfl (fun _ => r_move rfl (ev_t rfl)) ?_
                     refine WN.calm _ rfl rfl rfl rfl rfl (fun _ => r_nilCheck rfl (ev_t rfl)) ?_
                     first | refine WN.calm _ rfl rfl rfl rfl rfl (fun _ => r_field0 rfl (ev_t rfl) fld_35_0) ?_ | refine WN.calm _ rfl rfl rfl rfl rfl (fun _ => r_fieldAt rfl (ev_t rfl) fld_35_0) ?_
                     refine WN.calm _ rfl rfl rfl rfl rfl (fun _ => r_move rfl (ev_t rfl)) ?_
                     refine WN.calm _ rfl rfl rfl rfl rfl (fun _ => r_nilCheck rfl (ev_t rfl)) ?_
                     first | refine WN.calm _ rfl rfl rfl rfl rfl (fun _ => r_field0 rfl (ev_t rfl) fld_35_1) ?_ | refine WN.calm _ rfl rfl rfl rfl rfl (fun _ => r_fieldAt rfl (ev_t rfl) fld_35_1) ?_
                     refine WN.calm _ rfl rfl rfl rfl rfl (fun _ => r_move rfl (ev_t rfl)) ?_
                     refine WN.calm _ rfl rfl rfl rfl rfl (fun _ => r_nilCheck rfl (ev_t rfl)) ?_
                     first | refine WN.calm _ rfl rfl rfl rfl rfl (fun _ => r_field0 rfl (ev_t rfl) fld_35_1) ?_ | refine WN.calm _ rfl rfl rfl rfl rfl (fun _ => r_fieldAt rfl (ev_t rfl) fld_35_1) ?_
                     refine WN.calm _ rfl rfl rfl rfl rfl (fun _ => r_move rfl (ev_t rfl)) ?_
                     refine WN.held _ rfl rfl rfl rfl rfl hS10 (fun w' hS => r_load rfl (ev_t rfl) flat_30 (Blk.cell (hb.upd hS (fun h => h)) rfl)) ?_
                     refine WN.held _ rfl rfl rfl rfl rfl hS10 (fun w' hS => r_load rfl (ev_t rfl) flat_3 (Blk.cell (hb.upd hS (fun h => h)) rfl)) ?_
                     refine WN.held _ rfl rfl rfl rfl rfl hS10 (fun w' hS => r_load rfl (ev_t rfl) flat_3 (Blk.cell (hb.upd hS (fun h => h)) rfl)) ?_
                     first | refine WN.calm _ rfl rfl rfl rfl rfl (fun _ => r_addN rfl (ev_t rfl) (ev_t rfl) (by simp only [inK]; omega)) ?_ | refine WN.calm _ rfl rfl rfl rfl rfl (fun _ => r_add rfl (ev_t rfl) (ev_t rfl)) ?_
                     first | refine WN.calm _ rfl rfl rfl rfl rfl (fun _ => r_addN rfl (ev_t rfl) ev_c (by simp only [inK]; omega)) ?_ | refine WN.calm _ rfl rfl rfl rfl rfl (fun _ => r_add rfl (ev_t rfl) ev_c) ?_
                     refine WN.calm _ rfl rfl rfl rfl rfl (fun _ => r_slice (l := m) (h := m + i + 1) rfl (ev_t rfl) elem_30 size_5 (bnd_some (ev_t rfl) (by omega)) (bnd_some (ev_t rfl) (by omega)) (by omega) (by omega) (by omega)) ?_
                     refine WN.fork _ _ rfl rfl ?_ ?_
                     · refine SO.call (refUint_ok hn64) rfl body_32 ⟨(ev_t rfl), trivial⟩ rfl rfl rfl rfl ?_
                       rintro v1 w8 ⟨ho1, hu8⟩
                       have hs8 := hu8.size
                       replace hS10 := Upd.transA hS10 hu8
                       replace hU := hU.transA hu8
                       replace hr := hr.upd hu8 (by first | exact (fun _ _ _ h => h) | (intro k hk hl hS; simp only [At] at hS; subst hS; exact hFg hk))
                       replace hb := hb.updA hu8
                       obtain ⟨A1, c1, rfl, hc1'⟩ := Own.form ho1
                       refine ⟨hS10, ?_⟩
                       refine WN.fork _ _ rfl rfl ?_ ?_
                       · refine SO.val rfl rfl rfl rfl (r_toStr rfl (ev_t rfl) (ho1.rd (by omega)) elem_30 int_5 str_9) ?_
                         refine ⟨hS10, ?_⟩
                         refine WN.step _ rfl (SO.val rfl rfl rfl rfl (r_toStr rfl (ev_t rfl) (hr.sliceB (lo := m) (h := m + i + 1) (by omega) (by omega)) elem_30 int_5 str_9) ?_)
                         refine ⟨trivial, ?_⟩
                         refine WN.calm _ rfl rfl rfl rfl rfl (fun _ => r_neqStr rfl (ev_t rfl) (ev_t rfl)) ?_
                         refine WN.done ?_
                         refine WX.keep [(0, _), (3, _), (4, _), (115, _)] ⟨rfl, rfl, rfl, rfl, trivial⟩ ?_
                         refine WX.next ?_
                         refine WC.cond rfl (ev_t rfl) (fun hc10 => ?_) (fun hc10 => ?_)
                         · try (exfalso; first | (simp at hc10; done) | (simp only [decide_eq_true_eq, decide_eq_false_iff_not, Bool.not_eq_true', Bool.not_eq_false', Bool.not_eq_true, Bool.not_eq_false] at hc10; omega) | omega)
                           all_goals
                            try simp only [decide_eq_true_eq, decide_eq_false_iff_not, Bool.not_eq_true', Bool.not_eq_false', Bool.not_eq_true, Bool.not_eq_false, Option.isNone_none, Option.isNone_some, Option.isSome_none, Option.isSome_some, ne_eq, Decidable.not_not] at hc10
                            rw [mk_toList, mk_toList, show m + i + 1 - m = i + 1 by omega] at hc10
                            subst hk
                            have hen := enc_slice hml hk8 hkl
                            refine WC.seq ?_
                            refine WC.region ?_
                            refine WL.val rfl rfl rfl rfl (r_move rfl (ev_t rfl)) ?_
                            refine WL.val rfl rfl rfl rfl (r_nilCheck rfl (ev_t rfl)) ?_
                            first | refine WL.val rfl rfl rfl rfl (r_field0 rfl (ev_t rfl) fld_35_1) ?_ | refine WL.val rfl rfl rfl rfl (r_fieldAt rfl (ev_t rfl) fld_35_1) ?_
                            refine WL.cons (SO.store rfl (ev_t rfl) ev_c size_3 hb rfl rfl rfl rfl rfl ?_)
                            intro w9 hu9 hb hz9
                            have hs9 := hu9.size
                            replace hU := hU.transA hu9
                            replace hr := hr.upd hu9 (by first | exact (fun _ _ _ h => h) | (intro k hk hl hS; simp only [At] at hS; subst hS; exact hFg hk))
                            replace ho1 := ho1.updA hu9
                            refine WL.nil ?_
                            refine WX.keep [] trivial ?_
                            refine WX.next ?_
                            refine WC.seq ?_
                            refine WC.region ?_
                            refine WL.val rfl rfl rfl rfl (r_assign rfl ev_c) ?_
                            refine WL.nil ?_
                            refine WX.keep [(2, _)] ⟨rfl, trivial⟩ ?_
                            refine WX.next ?_
                            refine WC.ret ?_
                            refine WX.thenRet ?_
                            refine WX.retE1 rfl rfl ?_
                            have hd : decU (p.drop m) = none := by rw [decU_drop hml, if_neg (fun h => hc10 (hen.2 h.2.2))]
                            simp only [uintR, hd, Prod.mk.injEq] at hx
                            obtain ⟨rfl, rfl⟩ := hx
                            exact ⟨rfl, ⟨_, c, -1, hb, hr, rfl⟩, hU⟩
                         · try (exfalso; first | (simp at hc10; done) | (simp only [decide_eq_true_eq, decide_eq_false_iff_not, Bool.not_eq_true', Bool.not_eq_false', Bool.not_eq_true, Bool.not_eq_false] at hc10; omega) | omega)
                           all_goals
                            try simp only [decide_eq_true_eq, decide_eq_false_iff_not, Bool.not_eq_true', Bool.not_eq_false', Bool.not_eq_true, Bool.not_eq_false, Option.isNone_none, Option.isNone_some, Option.isSome_none, Option.isSome_some, ne_eq, Decidable.not_not] at hc10
                            rw [mk_toList, mk_toList, show m + i + 1 - m = i + 1 by omega] at hc10
                            subst hk
                            have hen := enc_slice hml hk8 hkl
                            refine WC.skip ?_
                            refine WX.next ?_
                            refine WC.seq ?_
                            refine WC.region ?_
                            refine WL.val rfl rfl rfl rfl (r_move rfl (ev_t rfl)) ?_
                            refine WL.val rfl rfl rfl rfl (r_nilCheck rfl (ev_t rfl)) ?_
                            first | refine WL.val rfl rfl rfl rfl (r_field0 rfl (ev_t rfl) fld_35_1) ?_ | refine WL.val rfl rfl rfl rfl (r_fieldAt rfl (ev_t rfl) fld_35_1) ?_
                            refine WL.val rfl rfl rfl rfl (r_load rfl (ev_t rfl) flat_3 (Blk.cell hb rfl)) ?_
                            refine WL.val rfl rfl rfl rfl (r_move rfl (ev_t rfl)) ?_
                            first | refine WL.val rfl rfl rfl rfl (r_addN rfl (ev_t rfl) ev_c (by simp only [inK]; omega)) ?_ | refine WL.val rfl rfl rfl rfl (r_add rfl (ev_t rfl) ev_c) ?_
                            first | refine WL.val rfl rfl rfl rfl (r_addN rfl (ev_t rfl) (ev_t rfl) (by simp only [inK]; omega)) ?_ | refine WL.val rfl rfl rfl rfl (r_add rfl (ev_t rfl) (ev_t rfl)) ?_
                            refine WL.val rfl rfl rfl rfl (r_nilCheck rfl (ev_t rfl)) ?_
                            first | refine WL.val rfl rfl rfl rfl (r_field0 rfl (ev_t rfl) fld_35_1) ?_ | refine WL.val rfl rfl rfl rfl (r_fieldAt rfl (ev_t rfl) fld_35_1) ?_
                            refine WL.cons (SO.store rfl (ev_t rfl) (ev_t rfl) size_3 hb rfl rfl rfl rfl rfl ?_)
                            intro w10 hu10 hb hz10
                            have hs10 := hu10.size
                            replace hU := hU.transA hu10
                            replace hr := hr.upd hu10 (by first | exact (fun _ _ _ h => h) | (intro k hk hl hS; simp only [At] at hS; subst hS; exact hFg hk))
                            replace ho1 := ho1.updA hu10
                            refine WL.nil ?_
                            refine WX.keep [(3, _)] ⟨rfl, trivial⟩ ?_
                            refine WX.next ?_
                            refine WC.seq ?_
                            refine WC.region ?_
                            refine WL.val rfl rfl rfl rfl (r_move rfl (ev_t rfl)) ?_
                            refine WL.val rfl rfl rfl rfl (r_assign rfl (ev_t rfl)) ?_
                            refine WL.nil ?_
                            refine WX.keep [(2, _)] ⟨rfl, trivial⟩ ?_
                            refine WX.next ?_
                            refine WC.ret ?_
                            refine WX.retE1 rfl rfl ?_
                            have hd : decU (p.drop m) = some (beN ((p.drop (m + 1)).take p[m].toNat), p.drop (m + 1 + p[m].toNat)) := by rw [decU_drop hml, if_pos ⟨hk8, hkl, hen.1 hc10⟩]
                            simp only [uintR, hd, Prod.mk.injEq] at hx
                            obtain ⟨rfl, rfl⟩ := hx
                            exact ⟨rfl, ⟨_, c, _, hb, hr, m + 1 + p[m].toNat, by push_cast; omega, by omega, rfl⟩, hU⟩
                       · refine SO.val rfl rfl rfl rfl (r_toStr rfl (ev_t rfl) (hr.sliceB (lo := m) (h := m + i + 1) (by omega) (by omega)) elem_30 int_5 str_9) ?_
                         refine ⟨trivial, ?_⟩
                         refine WN.step _ rfl (SO.val rfl rfl rfl rfl (r_toStr rfl (ev_t rfl) (ho1.rd (by omega)) elem_30 int_5 str_9) ?_)
                         refine ⟨hS10, ?_⟩
                         refine WN.calm _ rfl rfl rfl rfl rfl (fun _ => r_neqStr rfl (ev_t rfl) (ev_t rfl)) ?_
                         refine WN.done ?_
                         refine WX.keep [(0, _), (3, _), (4, _), (115, _)] ⟨rfl, rfl, rfl, rfl, trivial⟩ ?_
                         refine WX.next ?_
                         refine WC.cond rfl (ev_t rfl) (fun hc10 => ?_) (fun hc10 => ?_)
                         · try (exfalso; first | (simp at hc10; done) | (simp only [decide_eq_true_eq, decide_eq_false_iff_not, Bool.not_eq_true', Bool.not_eq_false', Bool.not_eq_true, Bool.not_eq_false] at hc10; omega) | omega)
                           all_goals
                            try simp only [decide_eq_true_eq, decide_eq_false_iff_not, Bool.not_eq_true', Bool.not_eq_false', Bool.not_eq_true, Bool.not_eq_false, Option.isNone_none, Option.isNone_some, Option.isSome_none, Option.isSome_some, ne_eq, Decidable.not_not] at hc10
                            rw [mk_toList, mk_toList, show m + i + 1 - m = i + 1 by omega] at hc10
                            subst hk
                            have hen := enc_slice hml hk8 hkl
                            refine WC.seq ?_
                            refine WC.region ?_
                            refine WL.val rfl rfl rfl rfl (r_move rfl (ev_t rfl)) ?_
                            refine WL.val rfl rfl rfl rfl (r_nilCheck rfl (ev_t rfl)) ?_
                            first | refine WL.val rfl rfl rfl rfl (r_field0 rfl (ev_t rfl) fld_35_1) ?_ | refine WL.val rfl rfl rfl rfl (r_fieldAt rfl (ev_t rfl) fld_35_1) ?_
                            refine WL.cons (SO.store rfl (ev_t rfl) ev_c size_3 hb rfl rfl rfl rfl rfl ?_)
                            intro w11 hu11 hb hz11
                            have hs11 := hu11.size
                            replace hU := hU.transA hu11
                            replace hr := hr.upd hu11 (by first | exact (fun _ _ _ h => h) | (intro k hk hl hS; simp only [At] at hS; subst hS; exact hFg hk))
                            replace ho1 := ho1.updA hu11
                            refine WL.nil ?_
                            refine WX.keep [] trivial ?_
                            refine WX.next ?_
                            refine WC.seq ?_
                            refine WC.region ?_
                            refine WL.val rfl rfl rfl rfl (r_assign rfl ev_c) ?_
                            refine WL.nil ?_
                            refine WX.keep [(2, _)] ⟨rfl, trivial⟩ ?_
                            refine WX.next ?_
                            refine WC.ret ?_
                            refine WX.thenRet ?_
                            refine WX.retE1 rfl rfl ?_
                            have hd : decU (p.drop m) = none := by rw [decU_drop hml, if_neg (fun h => hc10 (hen.2 h.2.2))]
                            simp only [uintR, hd, Prod.mk.injEq] at hx
                            obtain ⟨rfl, rfl⟩ := hx
                            exact ⟨rfl, ⟨_, c, -1, hb, hr, rfl⟩, hU⟩
                         · try (exfalso; first | (simp at hc10; done) | (simp only [decide_eq_true_eq, decide_eq_false_iff_not, Bool.not_eq_true', Bool.not_eq_false', Bool.not_eq_true, Bool.not_eq_false] at hc10; omega) | omega)
                           all_goals
                            try simp only [decide_eq_true_eq, decide_eq_false_iff_not, Bool.not_eq_true', Bool.not_eq_false', Bool.not_eq_true, Bool.not_eq_false, Option.isNone_none, Option.isNone_some, Option.isSome_none, Option.isSome_some, ne_eq, Decidable.not_not] at hc10
                            rw [mk_toList, mk_toList, show m + i + 1 - m = i + 1 by omega] at hc10
                            subst hk
                            have hen := enc_slice hml hk8 hkl
                            refine WC.skip ?_
                            refine WX.next ?_
                            refine WC.seq ?_
                            refine WC.region ?_
                            refine WL.val rfl rfl rfl rfl (r_move rfl (ev_t rfl)) ?_
                            refine WL.val rfl rfl rfl rfl (r_nilCheck rfl (ev_t rfl)) ?_
                            first | refine WL.val rfl rfl rfl rfl (r_field0 rfl (ev_t rfl) fld_35_1) ?_ | refine WL.val rfl rfl rfl rfl (r_fieldAt rfl (ev_t rfl) fld_35_1) ?_
                            refine WL.val rfl rfl rfl rfl (r_load rfl (ev_t rfl) flat_3 (Blk.cell hb rfl)) ?_
                            refine WL.val rfl rfl rfl rfl (r_move rfl (ev_t rfl)) ?_
                            first | refine WL.val rfl rfl rfl rfl (r_addN rfl (ev_t rfl) ev_c (by simp only [inK]; omega)) ?_ | refine WL.val rfl rfl rfl rfl (r_add rfl (ev_t rfl) ev_c) ?_
                            first | refine WL.val rfl rfl rfl rfl (r_addN rfl (ev_t rfl) (ev_t rfl) (by simp only [inK]; omega)) ?_ | refine WL.val rfl rfl rfl rfl (r_add rfl (ev_t rfl) (ev_t rfl)) ?_
                            refine WL.val rfl rfl rfl rfl (r_nilCheck rfl (ev_t rfl)) ?_
                            first | refine WL.val rfl rfl rfl rfl (r_field0 rfl (ev_t rfl) fld_35_1) ?_ | refine WL.val rfl rfl rfl rfl (r_fieldAt rfl (ev_t rfl) fld_35_1) ?_
                            refine WL.cons (SO.store rfl (ev_t rfl) (ev_t rfl) size_3 hb rfl rfl rfl rfl rfl ?_)
                            intro w12 hu12 hb hz12
                            have hs12 := hu12.size
                            replace hU := hU.transA hu12
                            replace hr := hr.upd hu12 (by first | exact (fun _ _ _ h => h) | (intro k hk hl hS; simp only [At] at hS; subst hS; exact hFg hk))
                            replace ho1 := ho1.updA hu12
                            refine WL.nil ?_
                            refine WX.keep [(3, _)] ⟨rfl, trivial⟩ ?_
                            refine WX.next ?_
                            refine WC.seq ?_
                            refine WC.region ?_
                            refine WL.val rfl rfl rfl rfl (r_move rfl (ev_t rfl)) ?_
                            refine WL.val rfl rfl rfl rfl (r_assign rfl (ev_t rfl)) ?_
                            refine WL.nil ?_
                            refine WX.keep [(2, _)] ⟨rfl, trivial⟩ ?_
                            refine WX.next ?_
                            refine WC.ret ?_
                            refine WX.retE1 rfl rfl ?_
                            have hd : decU (p.drop m) = some (beN ((p.drop (m + 1)).take p[m].toNat), p.drop (m + 1 + p[m].toNat)) := by rw [decU_drop hml, if_pos ⟨hk8, hkl, hen.1 hc10⟩]
                            simp only [uintR, hd, Prod.mk.injEq] at hx
                            obtain ⟨rfl, rfl⟩ := hx
                            exact ⟨rfl, ⟨_, c, _, hb, hr, m + 1 + p[m].toNat, by push_cast; omega, by omega, rfl⟩, hU⟩
                     · refine SO.val rfl rfl rfl rfl (r_toStr rfl (ev_t rfl) (hr.sliceB (lo := m) (h := m + i + 1) (by omega) (by omega)) elem_30 int_5 str_9) ?_
                       refine ⟨trivial, ?_⟩
                       refine WN.step _ rfl (SO.call (refUint_ok hn64) rfl body_32 ⟨(ev_t rfl), trivial⟩ rfl rfl rfl rfl ?_)
                       rintro v1 w13 ⟨ho1, hu13⟩
                       have hs13 := hu13.size
                       replace hS10 := Upd.transA hS10 hu13
                       replace hU := hU.transA hu13
                       replace hr := hr.upd hu13 (by first | exact (fun _ _ _ h => h) | (intro k hk hl hS; simp only [At] at hS; subst hS; exact hFg hk))
                       replace hb := hb.updA hu13
                       obtain ⟨A1, c1, rfl, hc1'⟩ := Own.form ho1
                       refine ⟨hS10, ?_⟩
                       refine WN.step _ rfl (SO.val rfl rfl rfl rfl (r_toStr rfl (ev_t rfl) (ho1.rd (by omega)) elem_30 int_5 str_9) ?_)
                       refine ⟨hS10, ?_⟩
                       refine WN.calm _ rfl rfl rfl rfl rfl (fun _ => r_neqStr rfl (ev_t rfl) (ev_t rfl)) ?_
                       refine WN.done ?_
                       refine WX.keep [(0, _), (3, _), (4, _), (115, _)] ⟨rfl, rfl, rfl, rfl, trivial⟩ ?_
                       refine WX.next ?_
                       refine WC.cond rfl (ev_t rfl) (fun hc10 => ?_) (fun hc10 => ?_)
                       · try (exfalso; first | (simp at hc10; done) | (simp only [decide_eq_true_eq, decide_eq_false_iff_not, Bool.not_eq_true', Bool.not_eq_false', Bool.not_eq_true, Bool.not_eq_false] at hc10; omega) | omega)
                         all_goals
                          try simp only [decide_eq_true_eq, decide_eq_false_iff_not, Bool.not_eq_true', Bool.not_eq_false', Bool.not_eq_true, Bool.not_eq_false, Option.isNone_none, Option.isNone_some, Option.isSome_none, Option.isSome_some, ne_eq, Decidable.not_not] at hc10
                          rw [mk_toList, mk_toList, show m + i + 1 - m = i + 1 by omega] at hc10
                          subst hk
                          have hen := enc_slice hml hk8 hkl
                          refine WC.seq ?_
                          refine WC.region ?_
                          refine WL.val rfl rfl rfl rfl (r_move rfl (ev_t rfl)) ?_
                          refine WL.val rfl rfl rfl rfl (r_nilCheck rfl (ev_t rfl)) ?_
                          first | refine WL.val rfl rfl rfl rfl (r_field0 rfl (ev_t rfl) fld_35_1) ?_ | refine WL.val rfl rfl rfl rfl (r_fieldAt rfl (ev_t rfl) fld_35_1) ?_
                          refine WL.cons (SO.store rfl (ev_t rfl) ev_c size_3 hb rfl rfl rfl rfl rfl ?_)
                          intro w14 hu14 hb hz14
                          have hs14 := hu14.size
                          replace hU := hU.transA hu14
                          replace hr := hr.upd hu14 (by first | exact (fun _ _ _ h => h) | (intro k hk hl hS; simp only [At] at hS; subst hS; exact hFg hk))
                          replace ho1 := ho1.updA hu14
                          refine WL.nil ?_
                          refine WX.keep [] trivial ?_
                          refine WX.next ?_
                          refine WC.seq ?_
                          refine WC.region ?_
                          refine WL.val rfl rfl rfl rfl (r_assign rfl ev_c) ?_
                          refine WL.nil ?_
                          refine WX.keep [(2, _)] ⟨rfl, trivial⟩ ?_
                          refine WX.next ?_
                          refine WC.ret ?_
                          refine WX.thenRet ?_
                          refine WX.retE1 rfl rfl ?_
                          have hd : decU (p.drop m) = none := by rw [decU_drop hml, if_neg (fun h => hc10 (hen.2 h.2.2))]
                          simp only [uintR, hd, Prod.mk.injEq] at hx
                          obtain ⟨rfl, rfl⟩ := hx
                          exact ⟨rfl, ⟨_, c, -1, hb, hr, rfl⟩, hU⟩
                       · try (exfalso; first | (simp at hc10; done) | (simp only [decide_eq_true_eq, decide_eq_false_iff_not, Bool.not_eq_true', Bool.not_eq_false', Bool.not_eq_true, Bool.not_eq_false] at hc10; omega) | omega)
                         all_goals
                          try simp only [decide_eq_true_eq, decide_eq_false_iff_not, Bool.not_eq_true', Bool.not_eq_false', Bool.not_eq_true, Bool.not_eq_false, Option.isNone_none, Option.isNone_some, Option.isSome_none, Option.isSome_some, ne_eq, Decidable.not_not] at hc10
                          rw [mk_toList, mk_toList, show m + i + 1 - m = i + 1 by omega] at hc10
                          subst hk
                          have hen := enc_slice hml hk8 hkl
                          refine WC.skip ?_
                          refine WX.next ?_
                          refine WC.seq ?_
                          refine WC.region ?_
                          refine WL.val rfl rfl rfl rfl (r_move rfl (ev_t rfl)) ?_
                          refine WL.val rfl rfl rfl rfl (r_nilCheck rfl (ev_t rfl)) ?_
                          first | refine WL.val rfl rfl rfl rfl (r_field0 rfl (ev_t rfl) fld_35_1) ?_ | refine WL.val rfl rfl rfl rfl (r_fieldAt rfl (ev_t rfl) fld_35_1) ?_
                          refine WL.val rfl rfl rfl rfl (r_load rfl (ev_t rfl) flat_3 (Blk.cell hb rfl)) ?_
                          refine WL.val rfl rfl rfl rfl (r_move rfl (ev_t rfl)) ?_
                          first | refine WL.val rfl rfl rfl rfl (r_addN rfl (ev_t rfl) ev_c (by simp only [inK]; omega)) ?_ | refine WL.val rfl rfl rfl rfl (r_add rfl (ev_t rfl) ev_c) ?_
                          first | refine WL.val rfl rfl rfl rfl (r_addN rfl (ev_t rfl) (ev_t rfl) (by simp only [inK]; omega)) ?_ | refine WL.val rfl rfl rfl rfl (r_add rfl (ev_t rfl) (ev_t rfl)) ?_
                          refine WL.val rfl rfl rfl rfl (r_nilCheck rfl (ev_t rfl)) ?_
                          first | refine WL.val rfl rfl rfl rfl (r_field0 rfl (ev_t rfl) fld_35_1) ?_ | refine WL.val rfl rfl rfl rfl (r_fieldAt rfl (ev_t rfl) fld_35_1) ?_
                          refine WL.cons (SO.store rfl (ev_t rfl) (ev_t rfl) size_3 hb rfl rfl rfl rfl rfl ?_)
                          intro w15 hu15 hb hz15
                          have hs15 := hu15.size
                          replace hU := hU.transA hu15
                          replace hr := hr.upd hu15 (by first | exact (fun _ _ _ h => h) | (intro k hk hl hS; simp only [At] at hS; subst hS; exact hFg hk))
                          replace ho1 := ho1.updA hu15
                          refine WL.nil ?_
                          refine WX.keep [(3, _)] ⟨rfl, trivial⟩ ?_
                          refine WX.next ?_
                          refine WC.seq ?_
                          refine WC.region ?_
                          refine WL.val rfl rfl rfl rfl (r_move rfl (ev_t rfl)) ?_
                          refine WL.val rfl rfl rfl rfl (r_assign rfl (ev_t rfl)) ?_
                          refine WL.nil ?_
                          refine WX.keep [(2, _)] ⟨rfl, trivial⟩ ?_
                          refine WX.next ?_
                          refine WC.ret ?_
                          refine WX.retE1 rfl rfl ?_
                          have hd : decU (p.drop m) = some (beN ((p.drop (m + 1)).take p[m].toNat), p.drop (m + 1 + p[m].toNat)) := by rw [decU_drop hml, if_pos ⟨hk8, hkl, hen.1 hc10⟩]
                          simp only [uintR, hd, Prod.mk.injEq] at hx
                          obtain ⟨rfl, rfl⟩ := hx
                          exact ⟨rfl, ⟨_, c, _, hb, hr, m + 1 + p[m].toNat, by push_cast; omega, by omega, rfl⟩, hU⟩
end Go.Proofs.YtipabhbnljadfaaDoor

/-
  The reference's reader: Int, Upto, Bytes.
-/
namespace Go.Proofs.YtipabhbnljadfaaDoor
open Go
set_option linter.unusedSimpArgs false
set_option linter.unusedVariables false

theorem mInt_ok {w : World} {F : Nat → Prop} {g : Nat} {p : List UInt8} {s s' : Option (List UInt8)} {x : Nat} (h : IsM w F g p s) (hFg : ¬ F g) (hx : uintR s = (x, s')) :
    Ret Tryd.prog 26 #[.pointer (some ⟨g, 0, none⟩)] w fun v w' => v = .int .i64 (zag x) ∧ IsM w' F g p s' ∧ Upd (At g) w w' := by
  have hlt := uintR_lt s
  rw [hx] at hlt
  simp only at hlt
  refine enterRet (vs := [_]) (N := 17) Tryd.func26 rfl rfl rfl ?_
  refine WC.keep [(0, _)] ⟨rfl, trivial⟩ ?_
  refine WC.seq ?_
  refine WC.region ?_
  refine WL.val rfl rfl rfl rfl (r_assign rfl ev_c) ?_
  refine WL.nil ?_
  refine WX.keep [(0, _)] ⟨rfl, trivial⟩ ?_
  refine WX.next ?_
  refine WC.seq ?_
  refine WC.region ?_
  refine WL.val rfl rfl rfl rfl (r_move rfl (ev_t rfl)) ?_
  refine WL.cons (SO.call (mUint_ok h hFg hx) rfl body_44 ⟨(ev_t rfl), trivial⟩ rfl rfl rfl rfl ?_)
  rintro v w1 ⟨rfl, hI, hu1⟩
  refine WL.val rfl rfl rfl rfl (r_assign rfl (ev_t rfl)) ?_
  refine WL.nil ?_
  refine WX.keep [(3, _)] ⟨rfl, trivial⟩ ?_
  refine WX.next ?_
  refine WC.seq ?_
  refine WC.seq ?_
  refine WC.region ?_
  refine WL.val rfl rfl rfl rfl (r_move rfl (ev_t rfl)) ?_
  first | refine WL.val rfl rfl rfl rfl (r_remN rfl (ev_t rfl) ev_c (by omega) (by omega)) ?_ | refine WL.val rfl rfl rfl rfl (r_rem rfl (ev_t rfl) ev_c (by omega)) ?_
  refine WL.val rfl rfl rfl rfl (r_eql rfl (ev_t rfl) ev_c) ?_
  refine WL.nil ?_
  refine WX.keep [(3, _), (8, _)] ⟨rfl, rfl, trivial⟩ ?_
  refine WX.next ?_
  refine WC.cond rfl (ev_t rfl) (fun hc2 => ?_) (fun hc2 => ?_)
  · try (exfalso; first | (simp at hc2; done) | (simp only [decide_eq_true_eq, decide_eq_false_iff_not, Bool.not_eq_true', Bool.not_eq_false', Bool.not_eq_true, Bool.not_eq_false] at hc2; omega) | omega)
    all_goals
     try simp only [decide_eq_true_eq, decide_eq_false_iff_not, Bool.not_eq_true', Bool.not_eq_false', Bool.not_eq_true, Bool.not_eq_false, Option.isNone_none, Option.isNone_some, Option.isSome_none, Option.isSome_some, ne_eq, Decidable.not_not] at hc2
     refine WC.seq ?_
     refine WC.region ?_
     refine WL.val rfl rfl rfl rfl (r_move rfl (ev_t rfl)) ?_
     first | refine WL.val rfl rfl rfl rfl (r_quoN rfl (ev_t rfl) ev_c (by omega) (by omega) (by simp only [inK]; omega)) ?_ | refine WL.val rfl rfl rfl rfl (r_quo rfl (ev_t rfl) ev_c (by omega)) ?_
     first | refine WL.val rfl rfl rfl rfl (r_convN rfl (ev_t rfl) some_63 int_2 (by simp only [inK]; omega)) ?_ | refine WL.val rfl rfl rfl rfl (r_conv rfl (ev_t rfl) some_63 int_2) ?_
     first | refine WL.val rfl rfl rfl rfl (r_negN rfl (ev_t rfl) (by simp only [inK]; omega)) ?_ | refine WL.val rfl rfl rfl rfl (r_neg rfl (ev_t rfl)) ?_
     try rw [wrap_i64_in (by omega) (by omega)]
     first | refine WL.val rfl rfl rfl rfl (r_subN rfl (ev_t rfl) ev_c (by simp only [inK]; omega)) ?_ | refine WL.val rfl rfl rfl rfl (r_sub rfl (ev_t rfl) ev_c) ?_
     refine WL.val rfl rfl rfl rfl (r_assign rfl (ev_t rfl)) ?_
     refine WL.nil ?_
     refine WX.keep [(2, _)] ⟨rfl, trivial⟩ ?_
     refine WX.next ?_
     refine WC.ret ?_
     refine WX.thenRet ?_
     refine WX.retE1 rfl rfl ?_
     refine ⟨?_, hI, hu1⟩
     have h1 : x % 2 = 1 := by omega
     unfold zag
     rw [if_pos h1]
     congr 1
  · try (exfalso; first | (simp at hc2; done) | (simp only [decide_eq_true_eq, decide_eq_false_iff_not, Bool.not_eq_true', Bool.not_eq_false', Bool.not_eq_true, Bool.not_eq_false] at hc2; omega) | omega)
    all_goals
     try simp only [decide_eq_true_eq, decide_eq_false_iff_not, Bool.not_eq_true', Bool.not_eq_false', Bool.not_eq_true, Bool.not_eq_false, Option.isNone_none, Option.isNone_some, Option.isSome_none, Option.isSome_some, ne_eq, Decidable.not_not] at hc2
     refine WC.skip ?_
     refine WX.next ?_
     refine WC.seq ?_
     refine WC.region ?_
     refine WL.val rfl rfl rfl rfl (r_move rfl (ev_t rfl)) ?_
     first | refine WL.val rfl rfl rfl rfl (r_quoN rfl (ev_t rfl) ev_c (by omega) (by omega) (by simp only [inK]; omega)) ?_ | refine WL.val rfl rfl rfl rfl (r_quo rfl (ev_t rfl) ev_c (by omega)) ?_
     first | refine WL.val rfl rfl rfl rfl (r_convN rfl (ev_t rfl) some_63 int_2 (by simp only [inK]; omega)) ?_ | refine WL.val rfl rfl rfl rfl (r_conv rfl (ev_t rfl) some_63 int_2) ?_
     refine WL.val rfl rfl rfl rfl (r_assign rfl (ev_t rfl)) ?_
     refine WL.nil ?_
     refine WX.keep [(2, _)] ⟨rfl, trivial⟩ ?_
     refine WX.next ?_
     refine WC.ret ?_
     refine WX.retE1 rfl rfl ?_
     refine ⟨?_, hI, hu1⟩
     have h1 : ¬ x % 2 = 1 := by omega
     unfold zag
     rw [if_neg h1]
     congr 1

theorem mUpto_ok {w : World} {F : Nat → Prop} {g : Nat} {p : List UInt8} {s s' : Option (List UInt8)} {x : Nat} {most : Int} (h : IsM w F g p s) (hFg : ¬ F g) (hm : inK .i64 most) (hx : uptoR most s = (x, s')) :
    Ret Tryd.prog 25 #[.pointer (some ⟨g, 0, none⟩), .int .i64 most] w fun v w' => v = .int .i64 (x : Int) ∧ IsM w' F g p s' ∧ Upd (At g) w w' := by
  have hlt := uintR_lt s
  simp only [inK] at hm
  cases hu : uintR s with | mk y s1 =>
  rw [hu] at hlt
  simp only at hlt
  have hgl : g < w.heap.size := by
    obtain ⟨_, _, _, hb, _⟩ := h
    exact hb.lt
  refine enterRet (vs := [_, _]) (N := 28) Tryd.func25 rfl rfl rfl ?_
  have hU := Upd.refl (At g) w
  refine WC.keep [(0, _), (1, _)] ⟨rfl, rfl, trivial⟩ ?_
  refine WC.seq ?_
  refine WC.region ?_
  refine WL.val rfl rfl rfl rfl (r_assign rfl ev_c) ?_
  refine WL.nil ?_
  refine WX.keep [(0, _), (1, _)] ⟨rfl, rfl, trivial⟩ ?_
  refine WX.next ?_
  refine WC.seq ?_
  refine WC.region ?_
  refine WL.val rfl rfl rfl rfl (r_move rfl (ev_t rfl)) ?_
  refine WL.cons (SO.call (mUint_ok h hFg hu) rfl body_44 ⟨(ev_t rfl), trivial⟩ rfl rfl rfl rfl ?_)
  rintro v w1 ⟨rfl, hI, hu1⟩
  have hs1 := hu1.size
  replace hU := hU.transA hu1
  obtain ⟨A, c, at_, hb, hr, hs⟩ := hI
  refine WL.val rfl rfl rfl rfl (r_assign rfl (ev_t rfl)) ?_
  refine WL.nil ?_
  refine WX.keep [(0, _), (1, _), (5, _)] ⟨rfl, rfl, rfl, trivial⟩ ?_
  refine WX.next ?_
  refine WC.seq ?_
  refine WC.seq ?_
  refine WC.region ?_
  refine WL.val rfl rfl rfl rfl (r_move rfl (ev_t rfl)) ?_
  refine WL.val rfl rfl rfl rfl (r_nilCheck rfl (ev_t rfl)) ?_
  first | refine WL.val rfl rfl rfl rfl (r_field0 rfl (ev_t rfl) fld_35_1) ?_ | refine WL.val rfl rfl rfl rfl (r_fieldAt rfl (ev_t rfl) fld_35_1) ?_
  refine WL.val rfl rfl rfl rfl (r_load rfl (ev_t rfl) flat_3 (Blk.cell hb rfl)) ?_
  refine WL.val rfl rfl rfl rfl (r_lss rfl (ev_t rfl) ev_c) ?_
  refine WL.val rfl rfl rfl rfl (r_move rfl (ev_t rfl)) ?_
  refine WL.cases 13 rfl (fun hb2_5 => ?_) (fun hb2_5 => ?_)
  · try (exfalso; first | (simp at hb2_5; done) | (simp only [decide_eq_true_eq, decide_eq_false_iff_not, Bool.not_eq_true', Bool.not_eq_false', Bool.not_eq_true, Bool.not_eq_false] at hb2_5; omega) | omega)
    all_goals
     try simp only [decide_eq_true_eq, decide_eq_false_iff_not, Bool.not_eq_true', Bool.not_eq_false', Bool.not_eq_true, Bool.not_eq_false, Option.isNone_none, Option.isNone_some, Option.isSome_none, Option.isSome_some, ne_eq, Decidable.not_not] at hb2_5
     refine WL.skip rfl rfl rfl ?_
     refine WL.skip rfl rfl rfl ?_
     refine WL.val rfl rfl rfl rfl (r_pickT rfl (ev_t rfl) ev_c) ?_
     refine WL.val rfl rfl rfl rfl (r_move rfl (ev_t rfl)) ?_
     refine WL.skip rfl rfl rfl ?_
     refine WL.skip rfl rfl rfl ?_
     refine WL.skip rfl rfl rfl ?_
     refine WL.skip rfl rfl rfl ?_
     refine WL.val rfl rfl rfl rfl (r_pickT rfl (ev_t rfl) ev_c) ?_
     refine WL.nil ?_
     refine WX.keep [(0, _), (5, _), (22, _)] ⟨rfl, rfl, rfl, trivial⟩ ?_
     refine WX.next ?_
     refine WC.cond_true rfl (ev_t rfl) ?_
     refine WC.seq ?_
     refine WC.region ?_
     refine WL.val rfl rfl rfl rfl (r_move rfl (ev_t rfl)) ?_
     refine WL.val rfl rfl rfl rfl (r_nilCheck rfl (ev_t rfl)) ?_
     first | refine WL.val rfl rfl rfl rfl (r_field0 rfl (ev_t rfl) fld_35_1) ?_ | refine WL.val rfl rfl rfl rfl (r_fieldAt rfl (ev_t rfl) fld_35_1) ?_
     refine WL.cons (SO.store rfl (ev_t rfl) ev_c size_3 hb rfl rfl rfl rfl rfl ?_)
     intro w2 hu2 hb hz2
     have hs2 := hu2.size
     replace hU := hU.transA hu2
     replace hr := hr.upd hu2 (by first | exact (fun _ _ _ h => h) | (intro k hk hl hS; simp only [At] at hS; subst hS; exact hFg hk))
     refine WL.nil ?_
     refine WX.keep [] trivial ?_
     refine WX.next ?_
     refine WC.seq ?_
     refine WC.region ?_
     refine WL.val rfl rfl rfl rfl (r_assign rfl ev_c) ?_
     refine WL.nil ?_
     refine WX.keep [(4, _)] ⟨rfl, trivial⟩ ?_
     refine WX.next ?_
     refine WC.ret ?_
     refine WX.thenRet ?_
     refine WX.retE1 rfl rfl ?_
     have e : uptoR most s = (0, none) := by
       unfold uptoR
       rw [hu]
       cases s1 with
       | none => rfl
       | some r =>
         obtain ⟨m, rfl, _⟩ := hs
         exact if_neg (by omega)
     rw [e] at hx
     simp only [Prod.mk.injEq] at hx
     obtain ⟨rfl, rfl⟩ := hx
     exact ⟨rfl, ⟨A, c, -1, hb, hr, rfl⟩, hU⟩
  · try (exfalso; first | (simp at hb2_5; done) | (simp only [decide_eq_true_eq, decide_eq_false_iff_not, Bool.not_eq_true', Bool.not_eq_false', Bool.not_eq_true, Bool.not_eq_false] at hb2_5; omega) | omega)
    all_goals
     try simp only [decide_eq_true_eq, decide_eq_false_iff_not, Bool.not_eq_true', Bool.not_eq_false', Bool.not_eq_true, Bool.not_eq_false, Option.isNone_none, Option.isNone_some, Option.isSome_none, Option.isSome_some, ne_eq, Decidable.not_not] at hb2_5
     refine WL.val rfl rfl rfl rfl (r_move rfl (ev_t rfl)) ?_
     refine WL.val rfl rfl rfl rfl (r_lss rfl (ev_t rfl) ev_c) ?_
     refine WL.val rfl rfl rfl rfl (r_pickF rfl (ev_t rfl) (ev_t rfl)) ?_
     refine WL.val rfl rfl rfl rfl (r_move rfl (ev_t rfl)) ?_
     refine WL.cases 17 rfl (fun hb2_9 => ?_) (fun hb2_9 => ?_)
     · try (exfalso; first | (simp at hb2_9; done) | (simp only [decide_eq_true_eq, decide_eq_false_iff_not, Bool.not_eq_true', Bool.not_eq_false', Bool.not_eq_true, Bool.not_eq_false] at hb2_9; omega) | omega)
       all_goals
        try simp only [decide_eq_true_eq, decide_eq_false_iff_not, Bool.not_eq_true', Bool.not_eq_false', Bool.not_eq_true, Bool.not_eq_false, Option.isNone_none, Option.isNone_some, Option.isSome_none, Option.isSome_some, ne_eq, Decidable.not_not] at hb2_9
        refine WL.skip rfl rfl rfl ?_
        refine WL.skip rfl rfl rfl ?_
        refine WL.skip rfl rfl rfl ?_
        refine WL.skip rfl rfl rfl ?_
        refine WL.val rfl rfl rfl rfl (r_pickT rfl (ev_t rfl) ev_c) ?_
        refine WL.nil ?_
        refine WX.keep [(0, _), (5, _), (22, _)] ⟨rfl, rfl, rfl, trivial⟩ ?_
        refine WX.next ?_
        refine WC.cond_true rfl (ev_t rfl) ?_
        refine WC.seq ?_
        refine WC.region ?_
        refine WL.val rfl rfl rfl rfl (r_move rfl (ev_t rfl)) ?_
        refine WL.val rfl rfl rfl rfl (r_nilCheck rfl (ev_t rfl)) ?_
        first | refine WL.val rfl rfl rfl rfl (r_field0 rfl (ev_t rfl) fld_35_1) ?_ | refine WL.val rfl rfl rfl rfl (r_fieldAt rfl (ev_t rfl) fld_35_1) ?_
        refine WL.cons (SO.store rfl (ev_t rfl) ev_c size_3 hb rfl rfl rfl rfl rfl ?_)
        intro w3 hu3 hb hz3
        have hs3 := hu3.size
        replace hU := hU.transA hu3
        replace hr := hr.upd hu3 (by first | exact (fun _ _ _ h => h) | (intro k hk hl hS; simp only [At] at hS; subst hS; exact hFg hk))
        refine WL.nil ?_
        refine WX.keep [] trivial ?_
        refine WX.next ?_
        refine WC.seq ?_
        refine WC.region ?_
        refine WL.val rfl rfl rfl rfl (r_assign rfl ev_c) ?_
        refine WL.nil ?_
        refine WX.keep [(4, _)] ⟨rfl, trivial⟩ ?_
        refine WX.next ?_
        refine WC.ret ?_
        refine WX.thenRet ?_
        refine WX.retE1 rfl rfl ?_
        have e : uptoR most s = (0, none) := by
          unfold uptoR
          rw [hu]
          cases s1 with
          | none => rfl
          | some r =>
            obtain ⟨m, rfl, _⟩ := hs
            exact if_neg (by omega)
        rw [e] at hx
        simp only [Prod.mk.injEq] at hx
        obtain ⟨rfl, rfl⟩ := hx
        exact ⟨rfl, ⟨A, c, -1, hb, hr, rfl⟩, hU⟩
     · try (exfalso; first | (simp at hb2_9; done) | (simp only [decide_eq_true_eq, decide_eq_false_iff_not, Bool.not_eq_true', Bool.not_eq_false', Bool.not_eq_true, Bool.not_eq_false] at hb2_9; omega) | omega)
       all_goals
        try simp only [decide_eq_true_eq, decide_eq_false_iff_not, Bool.not_eq_true', Bool.not_eq_false', Bool.not_eq_true, Bool.not_eq_false, Option.isNone_none, Option.isNone_some, Option.isSome_none, Option.isSome_some, ne_eq, Decidable.not_not] at hb2_9
        refine WL.val rfl rfl rfl rfl (r_move rfl (ev_t rfl)) ?_
        refine WL.val rfl rfl rfl rfl (r_move rfl (ev_t rfl)) ?_
        first | refine WL.val rfl rfl rfl rfl (r_convN rfl (ev_t rfl) some_3 int_63 (by simp only [inK]; omega)) ?_ | refine WL.val rfl rfl rfl rfl (r_conv rfl (ev_t rfl) some_3 int_63) ?_
        refine WL.val rfl rfl rfl rfl (r_gtr rfl (ev_t rfl) (ev_t rfl)) ?_
        refine WL.val rfl rfl rfl rfl (r_pickF rfl (ev_t rfl) (ev_t rfl)) ?_
        refine WL.nil ?_
        refine WX.keep [(0, _), (5, _), (22, _)] ⟨rfl, rfl, rfl, trivial⟩ ?_
        refine WX.next ?_
        refine WC.cond rfl (ev_t rfl) (fun hc2 => ?_) (fun hc2 => ?_)
        · try (exfalso; first | (simp at hc2; done) | (simp only [decide_eq_true_eq, decide_eq_false_iff_not, Bool.not_eq_true', Bool.not_eq_false', Bool.not_eq_true, Bool.not_eq_false] at hc2; omega) | omega)
          all_goals
           try simp only [decide_eq_true_eq, decide_eq_false_iff_not, Bool.not_eq_true', Bool.not_eq_false', Bool.not_eq_true, Bool.not_eq_false, Option.isNone_none, Option.isNone_some, Option.isSome_none, Option.isSome_some, ne_eq, Decidable.not_not] at hc2
           refine WC.seq ?_
           refine WC.region ?_
           refine WL.val rfl rfl rfl rfl (r_move rfl (ev_t rfl)) ?_
           refine WL.val rfl rfl rfl rfl (r_nilCheck rfl (ev_t rfl)) ?_
           first | refine WL.val rfl rfl rfl rfl (r_field0 rfl (ev_t rfl) fld_35_1) ?_ | refine WL.val rfl rfl rfl rfl (r_fieldAt rfl (ev_t rfl) fld_35_1) ?_
           refine WL.cons (SO.store rfl (ev_t rfl) ev_c size_3 hb rfl rfl rfl rfl rfl ?_)
           intro w4 hu4 hb hz4
           have hs4 := hu4.size
           replace hU := hU.transA hu4
           replace hr := hr.upd hu4 (by first | exact (fun _ _ _ h => h) | (intro k hk hl hS; simp only [At] at hS; subst hS; exact hFg hk))
           refine WL.nil ?_
           refine WX.keep [] trivial ?_
           refine WX.next ?_
           refine WC.seq ?_
           refine WC.region ?_
           refine WL.val rfl rfl rfl rfl (r_assign rfl ev_c) ?_
           refine WL.nil ?_
           refine WX.keep [(4, _)] ⟨rfl, trivial⟩ ?_
           refine WX.next ?_
           refine WC.ret ?_
           refine WX.thenRet ?_
           refine WX.retE1 rfl rfl ?_
           have e : uptoR most s = (0, none) := by
             unfold uptoR
             rw [hu]
             cases s1 with
             | none => rfl
             | some r =>
               obtain ⟨m, rfl, _⟩ := hs
               exact if_neg (by omega)
           rw [e] at hx
           simp only [Prod.mk.injEq] at hx
           obtain ⟨rfl, rfl⟩ := hx
           exact ⟨rfl, ⟨A, c, -1, hb, hr, rfl⟩, hU⟩
        · try (exfalso; first | (simp at hc2; done) | (simp only [decide_eq_true_eq, decide_eq_false_iff_not, Bool.not_eq_true', Bool.not_eq_false', Bool.not_eq_true, Bool.not_eq_false] at hc2; omega) | omega)
          all_goals
           try simp only [decide_eq_true_eq, decide_eq_false_iff_not, Bool.not_eq_true', Bool.not_eq_false', Bool.not_eq_true, Bool.not_eq_false, Option.isNone_none, Option.isNone_some, Option.isSome_none, Option.isSome_some, ne_eq, Decidable.not_not] at hc2
           refine WC.skip ?_
           refine WX.next ?_
           refine WC.seq ?_
           refine WC.region ?_
           refine WL.val rfl rfl rfl rfl (r_move rfl (ev_t rfl)) ?_
           first | refine WL.val rfl rfl rfl rfl (r_convN rfl (ev_t rfl) some_63 int_3 (by simp only [inK]; omega)) ?_ | refine WL.val rfl rfl rfl rfl (r_conv rfl (ev_t rfl) some_63 int_3) ?_
           refine WL.val rfl rfl rfl rfl (r_assign rfl (ev_t rfl)) ?_
           refine WL.nil ?_
           refine WX.keep [(4, _)] ⟨rfl, trivial⟩ ?_
           refine WX.next ?_
           refine WC.ret ?_
           refine WX.retE1 rfl rfl ?_
           have e : uptoR most s = (y, s1) := by
             unfold uptoR
             rw [hu]
             cases s1 with
             | none =>
               simp only [StM] at hs
               omega
             | some r => exact if_pos (by omega)
           rw [e] at hx
           simp only [Prod.mk.injEq] at hx
           obtain ⟨rfl, rfl⟩ := hx
           exact ⟨rfl, ⟨A, c, at_, hb, hr, hs⟩, hU⟩

theorem mBytes_ok {w : World} {F : Nat → Prop} {g : Nat} {p : List UInt8} {s s' : Option (List UInt8)} {l : List UInt8} {most : Int} (h : IsM w F g p s) (hFg : ¬ F g) (hm : inK .i64 most) (hx : bytesR most s = (l, s')) :
    Ret Tryd.prog 27 #[.pointer (some ⟨g, 0, none⟩), .int .i64 most] w fun v w' => Rd w' F v l.length 1 (l.map U8) ∧ IsM w' F g p s' ∧ Upd (At g) w w' := by
  have hgl : g < w.heap.size := by
    obtain ⟨_, _, _, hb, _⟩ := h
    exact hb.lt
  cases hu : uptoR most s with | mk y s1 =>
  refine enterRet (vs := [_, _]) (N := 56) Tryd.func27 rfl rfl rfl ?_
  have hU := Upd.refl (At g) w
  refine WC.keep [(0, _), (1, _)] ⟨rfl, rfl, trivial⟩ ?_
  refine WC.seq ?_
  refine WC.region ?_
  refine WL.val rfl rfl rfl rfl (r_assign rfl ev_c) ?_
  refine WL.nil ?_
  refine WX.keep [(0, _), (1, _)] ⟨rfl, rfl, trivial⟩ ?_
  refine WX.next ?_
  refine WC.seq ?_
  refine WC.region ?_
  refine WL.val rfl rfl rfl rfl (r_move rfl (ev_t rfl)) ?_
  refine WL.val rfl rfl rfl rfl (r_move rfl (ev_t rfl)) ?_
  refine WL.cons (SO.call (mUpto_ok h hFg hm hu) rfl body_25 ⟨(ev_t rfl), (ev_t rfl), trivial⟩ rfl rfl rfl rfl ?_)
  rintro v w1 ⟨rfl, hI, hu1⟩
  have hs1 := hu1.size
  replace hU := hU.transA hu1
  obtain ⟨A, c, at_, hb, hr, hs⟩ := hI
  have hpm := hr.le
  have hpc := hr.cap
  refine WL.val rfl rfl rfl rfl (r_assign rfl (ev_t rfl)) ?_
  refine WL.nil ?_
  refine WX.keep [(0, _), (5, _)] ⟨rfl, rfl, trivial⟩ ?_
  refine WX.next ?_
  refine WC.seq ?_
  refine WC.seq ?_
  refine WC.draws' (fun u0_ u1_ => Upd No u0_ u1_) (fun j => [0, 0, 0, 1, 0, 0, 0, 0, 0, 0, 0, 0, 0, 0, 0, 1, 0, 0, 0].getD j 0) (.calm 0 (.calm 1 (.calm 2 (.one 3 (.calm 4 (.calm 5 (.calm 6 (.calm 7 (.calm 8 (.calm 9 (.calm 12 (.calm 13 (.calm 14 (.held 10 (.calm 11 (.one 15 (.calm 16 (.calm 17 (.calm 18 (.done)))))))))))))))))))) mixed (by kernel_rfl) (by repeat (first | with_reducible exact Deaf.body | with_reducible apply Deaf.then | with_reducible apply Deaf.block)) ?_
  intro w2 hu2
  have hz2 := congrArg Array.size hu2.2.2.2
  replace hu2 := Upd.of_draw hu2
  have hs2 := hu2.size
  replace hU := hU.transA hu2
  replace hb := hb.updA hu2
  replace hr := hr.upd hu2 (by first | exact (fun _ _ _ h => h) | (intro k hk hl hS; simp only [At] at hS; subst hS; exact hFg hk))
  have hS2 := Upd.refl No w2
  refine WN.calm _ rfl rfl rfl rfl rfl (fun _ => r_move rfl (ev_t rfl)) ?_
  refine WN.calm _ rfl rfl rfl rfl rfl (fun _ => r_nilCheck rfl (ev_t rfl)) ?_
  first | refine WN.calm _ rfl rfl rfl rfl rfl (fun _ => r_field0 rfl (ev_t rfl) fld_35_1) ?_ | refine WN.calm _ rfl rfl rfl rfl rfl (fun _ => r_fieldAt rfl (ev_t rfl) fld_35_1) ?_
  refine WN.step _ rfl (SO.val rfl rfl rfl rfl (r_load rfl (ev_t rfl) flat_3 (Blk.cell hb rfl)) ?_)
  refine ⟨hS2, ?_⟩
  refine WN.calm _ rfl rfl rfl rfl rfl (fun _ => r_lss rfl (ev_t rfl) ev_c) ?_
  refine WN.calm _ rfl rfl rfl rfl rfl (fun _ => r_move rfl (ev_t rfl)) ?_
  refine WN.cases 15 rfl (fun hb2_5 => ?_) (fun hb2_5 => ?_)
  · try (exfalso; first | (simp at hb2_5; done) | (simp only [decide_eq_true_eq, decide_eq_false_iff_not, Bool.not_eq_true', Bool.not_eq_false', Bool.not_eq_true, Bool.not_eq_false] at hb2_5; omega) | omega)
    all_goals
     try simp only [decide_eq_true_eq, decide_eq_false_iff_not, Bool.not_eq_true', Bool.not_eq_false', Bool.not_eq_true, Bool.not_eq_false, Option.isNone_none, Option.isNone_some, Option.isSome_none, Option.isSome_some, ne_eq, Decidable.not_not] at hb2_5
     refine WN.skip _ rfl rfl rfl rfl ?_
     refine WN.skip _ rfl rfl rfl rfl ?_
     refine WN.skip _ rfl rfl rfl rfl ?_
     refine WN.skip _ rfl rfl rfl rfl ?_
     refine WN.skip _ rfl rfl rfl rfl ?_
     refine WN.skip _ rfl rfl rfl rfl ?_
     refine WN.skip _ rfl rfl rfl rfl ?_
     refine WN.heldSkip _ rfl rfl rfl rfl hS2 ?_
     refine WN.skip _ rfl rfl rfl rfl ?_
     refine WN.step _ rfl (SO.skip rfl rfl rfl ?_)
     refine ⟨hS2, ?_⟩
     refine WN.skip _ rfl rfl rfl rfl ?_
     refine WN.skip _ rfl rfl rfl rfl ?_
     refine WN.calm _ rfl rfl rfl rfl rfl (fun _ => r_pickT rfl (ev_t rfl) ev_c) ?_
     refine WN.done ?_
     refine WX.keep [(0, _), (5, _), (28, _)] ⟨rfl, rfl, rfl, trivial⟩ ?_
     refine WX.next ?_
     refine WC.cond_true rfl (ev_t rfl) ?_
     refine WC.seq ?_
     refine WC.region ?_
     refine WL.val rfl rfl rfl rfl (r_move rfl (ev_t rfl)) ?_
     refine WL.val rfl rfl rfl rfl (r_nilCheck rfl (ev_t rfl)) ?_
     first | refine WL.val rfl rfl rfl rfl (r_field0 rfl (ev_t rfl) fld_35_1) ?_ | refine WL.val rfl rfl rfl rfl (r_fieldAt rfl (ev_t rfl) fld_35_1) ?_
     refine WL.cons (SO.store rfl (ev_t rfl) ev_c size_3 hb rfl rfl rfl rfl rfl ?_)
     intro w3 hu3 hb hz3
     have hs3 := hu3.size
     replace hU := hU.transA hu3
     replace hr := hr.upd hu3 (by first | exact (fun _ _ _ h => h) | (intro k hk hl hS; simp only [At] at hS; subst hS; exact hFg hk))
     refine WL.nil ?_
     refine WX.keep [] trivial ?_
     refine WX.next ?_
     refine WC.seq ?_
     refine WC.region ?_
     refine WL.val rfl rfl rfl rfl (r_assign rfl ev_c) ?_
     refine WL.nil ?_
     refine WX.keep [(4, _)] ⟨rfl, trivial⟩ ?_
     refine WX.next ?_
     refine WC.ret ?_
     refine WX.thenRet ?_
     refine WX.retE1 rfl rfl ?_
     have e : bytesR most s = ([], none) := by
       unfold bytesR
       rw [hu]
       first
         | exact if_neg (by rw [List.length_drop]; omega)
         | (rcases s1 with _ | r
            · rfl
            · obtain ⟨m, rfl, _⟩ := hs
              omega)
     rw [e] at hx
     simp only [Prod.mk.injEq] at hx
     obtain ⟨rfl, rfl⟩ := hx
     exact ⟨Rd.nil _ _ _, ⟨A, c, -1, hb, hr, rfl⟩, hU⟩
  · try (exfalso; first | (simp at hb2_5; done) | (simp only [decide_eq_true_eq, decide_eq_false_iff_not, Bool.not_eq_true', Bool.not_eq_false', Bool.not_eq_true, Bool.not_eq_false] at hb2_5; omega) | omega)
    all_goals
     try simp only [decide_eq_true_eq, decide_eq_false_iff_not, Bool.not_eq_true', Bool.not_eq_false', Bool.not_eq_true, Bool.not_eq_false, Option.isNone_none, Option.isNone_some, Option.isSome_none, Option.isSome_some, ne_eq, Decidable.not_not] at hb2_5
     obtain ⟨m, r, rfl, rfl, hmp, rfl⟩ : ∃ (m : Nat) (r : List UInt8), s1 = some r ∧ at_ = m ∧ m ≤ p.length ∧ r = p.drop m := by
       cases s1 with
       | none =>
         simp only [StM] at hs
         omega
       | some r =>
         obtain ⟨m, h1, h2, h3⟩ := hs
         exact ⟨m, r, rfl, h1, h2, h3⟩
     refine WN.calm _ rfl rfl rfl rfl rfl (fun _ => r_move rfl (ev_t rfl)) ?_
     refine WN.calm _ rfl rfl rfl rfl rfl (fun _ => r_move rfl (ev_t rfl)) ?_
     refine WN.calm _ rfl rfl rfl rfl rfl (fun _ => r_nilCheck rfl (ev_t rfl)) ?_
     first | refine WN.calm _ rfl rfl rfl rfl rfl (fun _ => r_field0 rfl (ev_t rfl) fld_35_0) ?_ | refine WN.calm _ rfl rfl rfl rfl rfl (fun _ => r_fieldAt rfl (ev_t rfl) fld_35_0) ?_
     refine WN.calm _ rfl rfl rfl rfl rfl (fun _ => r_move rfl (ev_t rfl)) ?_
     refine WN.calm _ rfl rfl rfl rfl rfl (fun _ => r_nilCheck rfl (ev_t rfl)) ?_
     first | refine WN.calm _ rfl rfl rfl rfl rfl (fun _ => r_field0 rfl (ev_t rfl) fld_35_1) ?_ | refine WN.calm _ rfl rfl rfl rfl rfl (fun _ => r_fieldAt rfl (ev_t rfl) fld_35_1) ?_
     refine WN.held _ rfl rfl rfl rfl rfl hS2 (fun w' hS => r_load rfl (ev_t rfl) flat_30 (Blk.cell (hb.upd hS (fun h => h)) rfl)) ?_
     refine WN.calm _ rfl rfl rfl rfl rfl (fun _ => r_lenSlice (ts := #[]) rfl (ev_t rfl) elem_30) ?_
     refine WN.step _ rfl (SO.val rfl rfl rfl rfl (r_load rfl (ev_t rfl) flat_3 (Blk.cell hb rfl)) ?_)
     refine ⟨hS2, ?_⟩
     first | refine WN.calm _ rfl rfl rfl rfl rfl (fun _ => r_subN rfl (ev_t rfl) (ev_t rfl) (by simp only [inK]; omega)) ?_ | refine WN.calm _ rfl rfl rfl rfl rfl (fun _ => r_sub rfl (ev_t rfl) (ev_t rfl)) ?_
     refine WN.calm _ rfl rfl rfl rfl rfl (fun _ => r_gtr rfl (ev_t rfl) (ev_t rfl)) ?_
     refine WN.calm _ rfl rfl rfl rfl rfl (fun _ => r_pickF rfl (ev_t rfl) (ev_t rfl)) ?_
     refine WN.done ?_
     refine WX.keep [(0, _), (5, _), (28, _)] ⟨rfl, rfl, rfl, trivial⟩ ?_
     refine WX.next ?_
     refine WC.cond rfl (ev_t rfl) (fun hc2 => ?_) (fun hc2 => ?_)
     · try (exfalso; first | (simp at hc2; done) | (simp only [decide_eq_true_eq, decide_eq_false_iff_not, Bool.not_eq_true', Bool.not_eq_false', Bool.not_eq_true, Bool.not_eq_false] at hc2; omega) | omega)
       all_goals
        try simp only [decide_eq_true_eq, decide_eq_false_iff_not, Bool.not_eq_true', Bool.not_eq_false', Bool.not_eq_true, Bool.not_eq_false, Option.isNone_none, Option.isNone_some, Option.isSome_none, Option.isSome_some, ne_eq, Decidable.not_not] at hc2
        refine WC.seq ?_
        refine WC.region ?_
        refine WL.val rfl rfl rfl rfl (r_move rfl (ev_t rfl)) ?_
        refine WL.val rfl rfl rfl rfl (r_nilCheck rfl (ev_t rfl)) ?_
        first | refine WL.val rfl rfl rfl rfl (r_field0 rfl (ev_t rfl) fld_35_1) ?_ | refine WL.val rfl rfl rfl rfl (r_fieldAt rfl (ev_t rfl) fld_35_1) ?_
        refine WL.cons (SO.store rfl (ev_t rfl) ev_c size_3 hb rfl rfl rfl rfl rfl ?_)
        intro w4 hu4 hb hz4
        have hs4 := hu4.size
        replace hU := hU.transA hu4
        replace hr := hr.upd hu4 (by first | exact (fun _ _ _ h => h) | (intro k hk hl hS; simp only [At] at hS; subst hS; exact hFg hk))
        refine WL.nil ?_
        refine WX.keep [] trivial ?_
        refine WX.next ?_
        refine WC.seq ?_
        refine WC.region ?_
        refine WL.val rfl rfl rfl rfl (r_assign rfl ev_c) ?_
        refine WL.nil ?_
        refine WX.keep [(4, _)] ⟨rfl, trivial⟩ ?_
        refine WX.next ?_
        refine WC.ret ?_
        refine WX.thenRet ?_
        refine WX.retE1 rfl rfl ?_
        have e : bytesR most s = ([], none) := by
          unfold bytesR
          rw [hu]
          first
            | exact if_neg (by rw [List.length_drop]; omega)
            | (rcases s1 with _ | r
               · rfl
               · obtain ⟨m, rfl, _⟩ := hs
                 omega)
        rw [e] at hx
        simp only [Prod.mk.injEq] at hx
        obtain ⟨rfl, rfl⟩ := hx
        exact ⟨Rd.nil _ _ _, ⟨A, c, -1, hb, hr, rfl⟩, hU⟩
     · try (exfalso; first | (simp at hc2; done) | (simp only [decide_eq_true_eq, decide_eq_false_iff_not, Bool.not_eq_true', Bool.not_eq_false', Bool.not_eq_true, Bool.not_eq_false] at hc2; omega) | omega)
       all_goals
        try simp only [decide_eq_true_eq, decide_eq_false_iff_not, Bool.not_eq_true', Bool.not_eq_false', Bool.not_eq_true, Bool.not_eq_false, Option.isNone_none, Option.isNone_some, Option.isSome_none, Option.isSome_some, ne_eq, Decidable.not_not] at hc2
        refine WC.skip ?_
        refine WX.next ?_
        refine WC.seq ?_
        refine WC.draws' (fun u0_ u1_ => Upd No u0_ u1_) (fun j => [0, 0, 0, 0, 0, 0, 0, 0, 0, 0, 0, 1, 0, 0, 0, 0].getD j 0) (.calm 0 (.calm 1 (.calm 2 (.calm 4 (.calm 5 (.calm 6 (.calm 8 (.calm 9 (.calm 10 (.calm 12 (.held 3 (.held 7 (.one 11 (.calm 13 (.calm 14 (.calm 15 (.done))))))))))))))))) mixed (by kernel_rfl) (by repeat (first | with_reducible exact Deaf.body | with_reducible apply Deaf.then | with_reducible apply Deaf.block)) ?_
        intro w5 hu5
        have hz5 := congrArg Array.size hu5.2.2.2
        replace hu5 := Upd.of_draw hu5
        have hs5 := hu5.size
        replace hU := hU.transA hu5
        replace hb := hb.updA hu5
        replace hr := hr.upd hu5 (by first | exact (fun _ _ _ h => h) | (intro k hk hl hS; simp only [At] at hS; subst hS; exact hFg hk))
        have hS5 := Upd.refl No w5
        refine WN.calm _ rfl rfl rfl rfl rfl (fun _ => r_move rfl (ev_t rfl)) ?_
        refine WN.calm _ rfl rfl rfl rfl rfl (fun _ => r_nilCheck rfl (ev_t rfl)) ?_
        first | refine WN.calm _ rfl rfl rfl rfl rfl (fun _ => r_field0 rfl (ev_t rfl) fld_35_0) ?_ | refine WN.calm _ rfl rfl rfl rfl rfl (fun _ => r_fieldAt rfl (ev_t rfl) fld_35_0) ?_
        refine WN.calm _ rfl rfl rfl rfl rfl (fun _ => r_move rfl (ev_t rfl)) ?_
        refine WN.calm _ rfl rfl rfl rfl rfl (fun _ => r_nilCheck rfl (ev_t rfl)) ?_
        first | refine WN.calm _ rfl rfl rfl rfl rfl (fun _ => r_field0 rfl (ev_t rfl) fld_35_1) ?_ | refine WN.calm _ rfl rfl rfl rfl rfl (fun _ => r_fieldAt rfl (ev_t rfl) fld_35_1) ?_
        refine WN.calm _ rfl rfl rfl rfl rfl (fun _ => r_move rfl (ev_t rfl)) ?_
        refine WN.calm _ rfl rfl rfl rfl rfl (fun _ => r_nilCheck rfl (ev_t rfl)) ?_
        first | refine WN.calm _ rfl rfl rfl rfl rfl (fun _ => r_field0 rfl (ev_t rfl) fld_35_1) ?_ | refine WN.calm _ rfl rfl rfl rfl rfl (fun _ => r_fieldAt rfl (ev_t rfl) fld_35_1) ?_
        refine WN.calm _ rfl rfl rfl rfl rfl (fun _ => r_move rfl (ev_t rfl)) ?_
        refine WN.held _ rfl rfl rfl rfl rfl hS5 (fun w' hS => r_load rfl (ev_t rfl) flat_30 (Blk.cell (hb.upd hS (fun h => h)) rfl)) ?_
        refine WN.held _ rfl rfl rfl rfl rfl hS5 (fun w' hS => r_load rfl (ev_t rfl) flat_3 (Blk.cell (hb.upd hS (fun h => h)) rfl)) ?_
        refine WN.step _ rfl (SO.val rfl rfl rfl rfl (r_load rfl (ev_t rfl) flat_3 (Blk.cell hb rfl)) ?_)
        refine ⟨hS5, ?_⟩
        first | refine WN.calm _ rfl rfl rfl rfl rfl (fun _ => r_addN rfl (ev_t rfl) (ev_t rfl) (by simp only [inK]; omega)) ?_ | refine WN.calm _ rfl rfl rfl rfl rfl (fun _ => r_add rfl (ev_t rfl) (ev_t rfl)) ?_
        refine WN.calm _ rfl rfl rfl rfl rfl (fun _ => r_slice (l := m) (h := m + y) rfl (ev_t rfl) elem_30 size_5 (bnd_some (ev_t rfl) (by omega)) (bnd_some (ev_t rfl) (by omega)) (by omega) (by omega) (by omega)) ?_
        refine WN.calm _ rfl rfl rfl rfl rfl (fun _ => r_assign rfl (ev_t rfl)) ?_
        refine WN.done ?_
        refine WX.keep [(0, _), (5, _), (6, _)] ⟨rfl, rfl, rfl, trivial⟩ ?_
        refine WX.next ?_
        refine WC.seq ?_
        refine WC.region ?_
        refine WL.val rfl rfl rfl rfl (r_move rfl (ev_t rfl)) ?_
        refine WL.val rfl rfl rfl rfl (r_nilCheck rfl (ev_t rfl)) ?_
        first | refine WL.val rfl rfl rfl rfl (r_field0 rfl (ev_t rfl) fld_35_1) ?_ | refine WL.val rfl rfl rfl rfl (r_fieldAt rfl (ev_t rfl) fld_35_1) ?_
        refine WL.val rfl rfl rfl rfl (r_load rfl (ev_t rfl) flat_3 (Blk.cell hb rfl)) ?_
        refine WL.val rfl rfl rfl rfl (r_move rfl (ev_t rfl)) ?_
        first | refine WL.val rfl rfl rfl rfl (r_addN rfl (ev_t rfl) (ev_t rfl) (by simp only [inK]; omega)) ?_ | refine WL.val rfl rfl rfl rfl (r_add rfl (ev_t rfl) (ev_t rfl)) ?_
        refine WL.val rfl rfl rfl rfl (r_nilCheck rfl (ev_t rfl)) ?_
        first | refine WL.val rfl rfl rfl rfl (r_field0 rfl (ev_t rfl) fld_35_1) ?_ | refine WL.val rfl rfl rfl rfl (r_fieldAt rfl (ev_t rfl) fld_35_1) ?_
        refine WL.cons (SO.store rfl (ev_t rfl) (ev_t rfl) size_3 hb rfl rfl rfl rfl rfl ?_)
        intro w6 hu6 hb hz6
        have hs6 := hu6.size
        replace hU := hU.transA hu6
        replace hr := hr.upd hu6 (by first | exact (fun _ _ _ h => h) | (intro k hk hl hS; simp only [At] at hS; subst hS; exact hFg hk))
        refine WL.nil ?_
        refine WX.keep [(6, _)] ⟨rfl, trivial⟩ ?_
        refine WX.next ?_
        refine WC.seq ?_
        refine WC.region ?_
        refine WL.val rfl rfl rfl rfl (r_move rfl (ev_t rfl)) ?_
        refine WL.val rfl rfl rfl rfl (r_assign rfl (ev_t rfl)) ?_
        refine WL.nil ?_
        refine WX.keep [(4, _)] ⟨rfl, trivial⟩ ?_
        refine WX.next ?_
        refine WC.ret ?_
        refine WX.retE1 rfl rfl ?_
        have hle : y ≤ (p.drop m).length := by rw [List.length_drop]; omega
        have e : bytesR most s = ((p.drop m).take y, some ((p.drop m).drop y)) := by
          unfold bytesR
          rw [hu]
          exact if_pos hle
        rw [e] at hx
        simp only [Prod.mk.injEq] at hx
        obtain ⟨rfl, rfl⟩ := hx
        refine ⟨?_, ⟨A, c, _, hb, hr, m + y, by omega, by omega, by rw [List.drop_drop]⟩, hU⟩
        have h1 := hr.sliceB (lo := m) (h := m + y) (by omega) (by omega)
        rw [Nat.add_sub_cancel_left] at h1 ⊢
        have h2 : ((p.drop m).take y).length = y := by rw [List.length_take]; omega
        rw [h2]
        exact h1
end Go.Proofs.YtipabhbnljadfaaDoor

/-
  code: functions out of bytes.
-/
namespace Go.Proofs.YtipabhbnljadfaaDoor
open Go
set_option linter.unusedSimpArgs false
set_option linter.unusedVariables false

theorem decL_push {I : List In} {i : In} : I.flatMap insC ++ insC i = (I ++ [i]).flatMap insC := by rw [List.flatMap_append, List.flatMap_singleton]

set_option maxHeartbeats 4000000 in
theorem decode_ok {w : World} {F : Nat → Prop} {g : Nat} {s : RSt} {fin : List Fn × RSt} (h : IsR w F g s) (hFl : ∀ k, F k → k < w.heap.size ∧ k ≠ g) (hgl : g < w.heap.size) (hfin : decF s = fin) :
    Ret Tryd.prog 12 #[.pointer (some ⟨g, 0, none⟩)] w fun u w' => IsFs w' (New w w') u fin.1 ∧ IsR w' F g fin.2 ∧ Upd (At g) w w' := by
  obtain ⟨n, s1, hn1⟩ : ∃ n s1, uptoR 4000 s = (n, s1) := ⟨_, _, rfl⟩
  obtain ⟨L9, s9, hL9⟩ : ∃ L9 s9, loadF n s1 [] = (L9, s9) := ⟨_, _, rfl⟩
  rw [decF_eq hn1 hL9] at hfin
  subst hfin
  have hn4 := uptoR_le' (most := 4000) (s := s) (by omega)
  rw [hn1] at hn4
  simp only at hn4 ⊢
  have hFg : ¬ F g := fun hh => (hFl g hh).2 rfl
  refine enterRet (vs := [_]) (N := 54) Tryd.func12 rfl rfl rfl ?_
  have hU := Upd.refl (At g) w
  refine WC.keep [(0, _)] ⟨rfl, trivial⟩ ?_
  refine WC.seq ?_
  refine WC.region ?_
  refine WL.val rfl rfl rfl rfl (r_assign rfl ev_c) ?_
  refine WL.nil ?_
  refine WX.keep [(0, _)] ⟨rfl, trivial⟩ ?_
  refine WX.next ?_
  refine WC.seq ?_
  refine WC.region ?_
  refine WL.val rfl rfl rfl rfl (r_assign rfl ev_c) ?_
  refine WL.nil ?_
  refine WX.keep [(0, _), (3, _)] ⟨rfl, rfl, trivial⟩ ?_
  refine WX.next ?_
  refine WC.seq ?_
  refine WC.seq ?_
  refine WC.region ?_
  refine WL.val rfl rfl rfl rfl (r_move rfl (ev_t rfl)) ?_
  refine WL.cons (SO.call (upto_ok h hFg (by simp only [inK]; omega) hn1) rfl body_22 ⟨(ev_t rfl), ev_c, trivial⟩ rfl rfl rfl rfl ?_)
  rintro v w1 ⟨rfl, h, hu1⟩
  have hs1 := hu1.size
  replace hU := hU.trans hu1 (by first | exact (fun _ _ h => h) | exact (fun _ _ h => h.elim) | (intro k hl hk; (try simp only [At, New, Grow, From, No] at hk ⊢); omega) | (intro k hl hk; first | (simp only [At, No] at hk ⊢; omega) | (have := hGc k hk; omega) | (have := hG k hk; omega)))
  refine WL.val rfl rfl rfl rfl (r_assign rfl (ev_t rfl)) ?_
  refine WL.nil ?_
  refine WX.keep [(0, _), (3, _), (4, _)] ⟨rfl, rfl, rfl, trivial⟩ ?_
  refine WX.next ?_
  refine WC.block ?_
  -- loop 1: live [0, 3, 4]
  refine WC.keep [(0, _), (3, _), (4, _)] ⟨rfl, rfl, rfl, trivial⟩ ?_
  refine WC.loop (fun q E w' => ∃ (s : RSt) (V2 : List FnV) (A2 : Option Addr) (c2 : Nat) (G C : Nat → Prop), V2.length + q ≤ 4000 ∧ Upd (At g) w w' ∧ IsR w' F g s ∧ loadF q s (V2.map FnV.f) = (L9, s9) ∧ Own w' G 42 2 (.slice A2 V2.length c2) V2.length (V2.flatMap FnV.cells) ∧ (∀ x ∈ V2, Rd w' C x.v x.f.code.length 4 (x.f.code.flatMap insC)) ∧   (∀ k, G k → w.heap.size ≤ k ∧ k < w'.heap.size) ∧ (∀ k, C k → w.heap.size ≤ k ∧ k < w'.heap.size ∧ ¬ G k) ∧   E = [(0, .pointer (some ⟨g, 0, none⟩)), (3, .slice A2 V2.length c2), (4, .int .i64 (q : Int))]) (n) ?_ ?_
  · exact ⟨s1, [], none, 0, fun _ => False, fun _ => False, by simp; omega, hU, h, hL9, Own.nil _ _ _ _, (fun x hx => by cases hx), (fun k h => h.elim), (fun k h => h.elim), rfl⟩
  · clear hU h
    rintro q E wA ⟨s, V2, A2, c2, G, C, hq, hU, h, hl, hO, hD, hG, hC, rfl⟩
    have hw0 := hU.size
    have hW := Upd.refl (At g) wA
    refine WC.seq ?_
    refine WC.seq ?_
    refine WC.region ?_
    refine WL.val rfl rfl rfl rfl (r_move rfl (ev_t rfl)) ?_
    refine WL.val rfl rfl rfl rfl (r_gtr rfl (ev_t rfl) ev_c) ?_
    refine WL.val rfl rfl rfl rfl (r_move rfl (ev_t rfl)) ?_
    refine WL.cases 11 rfl (fun hb3_2 => ?_) (fun hb3_2 => ?_)
    · try (exfalso; first | (simp at hb3_2; done) | (simp only [decide_eq_true_eq, decide_eq_false_iff_not, Bool.not_eq_true', Bool.not_eq_false', Bool.not_eq_true, Bool.not_eq_false] at hb3_2; omega) | omega)
      all_goals
       try simp only [decide_eq_true_eq, decide_eq_false_iff_not, Bool.not_eq_true', Bool.not_eq_false', Bool.not_eq_true, Bool.not_eq_false, Option.isNone_none, Option.isNone_some, Option.isSome_none, Option.isSome_some, ne_eq, Decidable.not_not] at hb3_2
       refine WL.val rfl rfl rfl rfl (r_move rfl (ev_t rfl)) ?_
       refine WL.cons (SO.call (bad_ok h) rfl body_14 ⟨(ev_t rfl), trivial⟩ rfl rfl rfl rfl ?_)
       rintro v w2 ⟨rfl, he⟩
       obtain rfl := he.symm
       refine WL.val rfl rfl rfl rfl (r_not rfl (ev_t rfl)) ?_
       refine WL.val rfl rfl rfl rfl (r_pickT rfl (ev_t rfl) (ev_t rfl)) ?_
       refine WL.nil ?_
       refine WX.keep [(0, _), (3, _), (4, _), (15, _)] ⟨rfl, rfl, rfl, rfl, trivial⟩ ?_
       refine WX.next ?_
       refine WC.cond rfl (ev_t rfl) (fun hc3 => ?_) (fun hc3 => ?_)
       · try (exfalso; first | (simp at hc3; done) | (simp only [decide_eq_true_eq, decide_eq_false_iff_not, Bool.not_eq_true', Bool.not_eq_false', Bool.not_eq_true, Bool.not_eq_false] at hc3; omega) | omega)
         all_goals
          try simp only [decide_eq_true_eq, decide_eq_false_iff_not, Bool.not_eq_true', Bool.not_eq_false', Bool.not_eq_true, Bool.not_eq_false, Option.isNone_none, Option.isNone_some, Option.isSome_none, Option.isSome_some, ne_eq, Decidable.not_not] at hc3
          obtain ⟨q1, rfl⟩ : ∃ q1, q = q1 + 1 := ⟨q - 1, by omega⟩
          obtain ⟨p1, rfl⟩ : ∃ p1, s = some p1 := by cases s with | none => simp at hc3 | some p => exact ⟨p, rfl⟩
          obtain ⟨cp, s2, hcp⟩ : ∃ cp s2, uptoR 1048576 (some p1) = (cp, s2) := ⟨_, _, rfl⟩
          obtain ⟨m, s3, hm⟩ : ∃ m s3, uptoR 1048576 s2 = (m, s3) := ⟨_, _, rfl⟩
          obtain ⟨I9, s4, hI9⟩ : ∃ I9 s4, loadC m s3 [] = (I9, s4) := ⟨_, _, rfl⟩
          rw [loadF, readF_eq hcp hm hI9] at hl
          simp only at hl
          have hm4 := uptoR_le' (most := 1048576) (s := s2) (by omega)
          rw [hm] at hm4
          simp only at hm4
          have hF2 : ∀ k, F k → k < wA.heap.size := fun k hk => by have := hFl k hk; omega
          refine WC.skip ?_
          refine WX.next ?_
          refine WC.seq ?_
          refine WC.block ?_
          refine WC.seq ?_
          refine WC.region ?_
          refine WL.val rfl rfl rfl rfl (r_move rfl (ev_t rfl)) ?_
          refine WL.cons (SO.call (upto_ok h hFg (by simp only [inK]; omega) hcp) rfl body_22 ⟨(ev_t rfl), ev_c, trivial⟩ rfl rfl rfl rfl ?_)
          rintro v w3 ⟨rfl, h, hu3⟩
          have hs3 := hu3.size
          replace hU := hU.trans hu3 (by first | exact (fun _ _ h => h) | exact (fun _ _ h => h.elim) | (intro k hl hk; (try simp only [At, New, Grow, From, No] at hk ⊢); omega) | (intro k hl hk; first | (simp only [At, No] at hk ⊢; omega) | (have := hGc k hk; omega) | (have := hG k hk; omega)))
          replace hO := hO.upd hu3 (by first | exact (fun _ _ _ h => h) | (intro k hk hl hS; have := hG k hk; first | (simp only [At, No] at hS; omega) | (have := hGc k hS; omega)))
          replace hW := hW.upd hu3 (by intro k hl hk; first | exact hk.elim | (simp only [At, No] at hk ⊢; omega) | (have := hGc k hk; omega))
          refine WL.val rfl rfl rfl rfl (r_build (cs := #[_, _]) (vs := [(0, _)]) rfl ⟨⟨rfl, (ev_t rfl)⟩, trivial⟩ plc_42 zero_42 rfl) ?_
          refine WL.cons (SO.alloc rfl rfl rfl rfl (r_alloc rfl zero_42) ?_)
          intro w4 hu4 hB4 hz4
          have hs4 := hu4.size
          replace hU := hU.trans hu4 (by first | exact (fun _ _ h => h) | exact (fun _ _ h => h.elim) | (intro k hl hk; (try simp only [At, New, Grow, From, No] at hk ⊢); omega) | (intro k hl hk; first | (simp only [At, No] at hk ⊢; omega) | (have := hGc k hk; omega) | (have := hG k hk; omega)))
          replace h := h.upd hu4 (by first | exact (fun h => h) | (simp only [At, No]; omega) | (exact fun h => by have := hGc _ h; omega) | (exact fun h => by have := hG _ h; omega)) (by first | exact (fun _ _ _ h => h) | (intro k hk hl hS; have := hFl k hk; first | (simp only [At, No] at hS; omega) | (have := hGc k hS; omega) | (have := hG k hS; omega)))
          replace hO := hO.upd hu4 (by first | exact (fun _ _ _ h => h) | (intro k hk hl hS; have := hG k hk; first | (simp only [At, No] at hS; omega) | (have := hGc k hS; omega)))
          replace hW := hW.upd hu4 (by intro k hl hk; first | exact hk.elim | (simp only [At, No] at hk ⊢; omega) | (have := hGc k hk; omega))
          refine WL.cons (SO.store2 rfl (ev_t rfl) (ev_t rfl) size_42 hB4 rfl rfl rfl rfl rfl rfl ?_)
          intro w5 hu5 hB4 hz5
          have hs5 := hu5.size
          replace hU := hU.trans hu5 (by first | exact (fun _ _ h => h) | exact (fun _ _ h => h.elim) | (intro k hl hk; (try simp only [At, New, Grow, From, No] at hk ⊢); omega) | (intro k hl hk; first | (simp only [At, No] at hk ⊢; omega) | (have := hGc k hk; omega) | (have := hG k hk; omega)))
          replace h := h.upd hu5 (by first | exact (fun h => h) | (simp only [At, No]; omega) | (exact fun h => by have := hGc _ h; omega) | (exact fun h => by have := hG _ h; omega)) (by first | exact (fun _ _ _ h => h) | (intro k hk hl hS; have := hFl k hk; first | (simp only [At, No] at hS; omega) | (have := hGc k hS; omega) | (have := hG k hS; omega)))
          replace hO := hO.upd hu5 (by first | exact (fun _ _ _ h => h) | (intro k hk hl hS; have := hG k hk; first | (simp only [At, No] at hS; omega) | (have := hGc k hS; omega)))
          replace hW := hW.upd hu5 (by intro k hl hk; first | exact hk.elim | (simp only [At, No] at hk ⊢; omega) | (have := hGc k hk; omega))
          refine WL.nil ?_
          refine WX.keep [(0, _), (3, _), (4, _), (5, _)] ⟨rfl, rfl, rfl, rfl, trivial⟩ ?_
          have hbf : Blk w5 w3.heap.size #[.int .i64 (cp : Int), .slice none 0 0] 42 := hB4
          have hbf1 := hbf.lt
          obtain ⟨bf, hbfe⟩ : ∃ bf, bf = w3.heap.size := ⟨_, rfl⟩
          rw [← hbfe] at hbf hbf1 ⊢
          have hbf0 : wA.heap.size ≤ bf := by omega
          have hc := Own.nil w5 (fun _ => False) 44 4
          refine WX.next ?_
          refine WC.seq ?_
          refine WC.seq ?_
          refine WC.region ?_
          refine WL.val rfl rfl rfl rfl (r_move rfl (ev_t rfl)) ?_
          refine WL.cons (SO.call (upto_ok h hFg (by simp only [inK]; omega) hm) rfl body_22 ⟨(ev_t rfl), ev_c, trivial⟩ rfl rfl rfl rfl ?_)
          rintro v w6 ⟨rfl, h, hu6⟩
          have hs6 := hu6.size
          have hs6 := hu6.size
          replace hU := hU.trans hu6 (by first | exact (fun _ _ h => h) | exact (fun _ _ h => h.elim) | (intro k hl hk; (try simp only [At, New, Grow, From, No] at hk ⊢); omega) | (intro k hl hk; first | (simp only [At, No] at hk ⊢; omega) | (have := hGc k hk; omega) | (have := hG k hk; omega)))
          replace hO := hO.upd hu6 (by first | exact (fun _ _ _ h => h) | (intro k hk hl hS; have := hG k hk; first | (simp only [At, No] at hS; omega) | (have := hGc k hS; omega)))
          replace hW := hW.upd hu6 (by intro k hl hk; first | exact hk.elim | (simp only [At, No] at hk ⊢; omega) | (have := hGc k hk; omega))
          replace hbf := hbf.upd hu6 (by first | exact (fun h => h) | (simp only [At, No]; omega) | (exact fun h => by have := hGc _ h; omega) | (exact fun h => by have := hG _ h; omega))
          refine WL.val rfl rfl rfl rfl (r_assign rfl (ev_t rfl)) ?_
          refine WL.nil ?_
          refine WX.keep [(0, _), (3, _), (4, _), (5, _), (6, _)] ⟨rfl, rfl, rfl, rfl, rfl, trivial⟩ ?_
          refine WX.next ?_
          refine WC.block ?_
          -- loop 2: live [0, 3, 4, 5, 6]
          refine WC.keep [(0, _), (3, _), (4, _), (5, _), (6, _)] ⟨rfl, rfl, rfl, rfl, rfl, trivial⟩ ?_
          refine WC.loop (fun q E wB => ∃ (s : RSt) (I : List In) (Ac : Option Addr) (cc : Nat) (Gc : Nat → Prop), I.length + q ≤ 1048576 ∧ Upd (At g) w wB ∧ Upd (At g) wA wB ∧ bf < wB.heap.size ∧ IsR wB F g s ∧ loadC q s I = (I9, s4) ∧ Blk wB bf #[.int .i64 (cp : Int), .slice Ac I.length cc] 42 ∧ Own wB Gc 44 4 (.slice Ac I.length cc) I.length (I.flatMap insC) ∧ (∀ k, Gc k → wA.heap.size ≤ k ∧ k < wB.heap.size ∧ k ≠ bf) ∧ Own wB G 42 2 (.slice A2 V2.length c2) V2.length (V2.flatMap FnV.cells) ∧   E = [(0, .pointer (some ⟨g, 0, none⟩)), (3, .slice A2 V2.length c2), (4, .int .i64 ((q1 + 1 : Nat) : Int)), (5, .pointer (some ⟨bf, 0, none⟩)), (6, .int .i64 (q : Int))]) (m) ?_ ?_
          · exact ⟨s3, [], none, 0, fun _ => False, by simp; omega, hU, hW, by omega, h, hI9, hbf, Own.nil _ _ _ _, (fun k h => h.elim), hO, rfl⟩
          · clear hU hW hbf hO h hc
            rintro q E wB ⟨s, I, Ac, cc, Gc, hIq, hU, hW, hwb, h, hlc, hbf, hc, hGc, hO, rfl⟩
            have hwb2 := hU.size
            have hwb3 := hW.size
            refine WC.seq ?_
            refine WC.seq ?_
            refine WC.region ?_
            refine WL.val rfl rfl rfl rfl (r_move rfl (ev_t rfl)) ?_
            refine WL.val rfl rfl rfl rfl (r_gtr rfl (ev_t rfl) ev_c) ?_
            refine WL.val rfl rfl rfl rfl (r_move rfl (ev_t rfl)) ?_
            refine WL.cases 25 rfl (fun hb7_2 => ?_) (fun hb7_2 => ?_)
            · try (exfalso; first | (simp at hb7_2; done) | (simp only [decide_eq_true_eq, decide_eq_false_iff_not, Bool.not_eq_true', Bool.not_eq_false', Bool.not_eq_true, Bool.not_eq_false] at hb7_2; omega) | omega)
              all_goals
               try simp only [decide_eq_true_eq, decide_eq_false_iff_not, Bool.not_eq_true', Bool.not_eq_false', Bool.not_eq_true, Bool.not_eq_false, Option.isNone_none, Option.isNone_some, Option.isSome_none, Option.isSome_some, ne_eq, Decidable.not_not] at hb7_2
               refine WL.val rfl rfl rfl rfl (r_move rfl (ev_t rfl)) ?_
               refine WL.cons (SO.call (bad_ok h) rfl body_14 ⟨(ev_t rfl), trivial⟩ rfl rfl rfl rfl ?_)
               rintro v w7 ⟨rfl, he⟩
               obtain rfl := he.symm
               refine WL.val rfl rfl rfl rfl (r_not rfl (ev_t rfl)) ?_
               refine WL.val rfl rfl rfl rfl (r_pickT rfl (ev_t rfl) (ev_t rfl)) ?_
               refine WL.nil ?_
               refine WX.keep [(0, _), (3, _), (4, _), (5, _), (6, _), (29, _)] ⟨rfl, rfl, rfl, rfl, rfl, rfl, trivial⟩ ?_
               refine WX.next ?_
               refine WC.cond rfl (ev_t rfl) (fun hc7 => ?_) (fun hc7 => ?_)
               · try (exfalso; first | (simp at hc7; done) | (simp only [decide_eq_true_eq, decide_eq_false_iff_not, Bool.not_eq_true', Bool.not_eq_false', Bool.not_eq_true, Bool.not_eq_false] at hc7; omega) | omega)
                 all_goals
                  try simp only [decide_eq_true_eq, decide_eq_false_iff_not, Bool.not_eq_true', Bool.not_eq_false', Bool.not_eq_true, Bool.not_eq_false, Option.isNone_none, Option.isNone_some, Option.isSome_none, Option.isSome_some, ne_eq, Decidable.not_not] at hc7
                  obtain ⟨k1, rfl⟩ : ∃ k1, q = k1 + 1 := ⟨q - 1, by omega⟩
                  obtain ⟨p2, rfl⟩ : ∃ p2, s = some p2 := by cases s with | none => simp at hc7 | some p => exact ⟨p, rfl⟩
                  obtain ⟨o, e1, ho⟩ : ∃ o e1, uptoR 255 (some p2) = (o, e1) := ⟨_, _, rfl⟩
                  obtain ⟨x, e2, hx⟩ : ∃ x e2, uintR e1 = (x, e2) := ⟨_, _, rfl⟩
                  obtain ⟨a, e3, ha⟩ : ∃ a e3, uptoR 1048576 e2 = (a, e3) := ⟨_, _, rfl⟩
                  obtain ⟨t, e4, ht⟩ : ∃ t e4, bytesR 2000 e3 = (t, e4) := ⟨_, _, rfl⟩
                  rw [loadC, readI_eq ho hx ha ht] at hlc
                  simp only at hlc
                  have ho4 := uptoR_le' (most := 255) (s := some p2) (by omega)
                  rw [ho] at ho4
                  simp only at ho4
                  refine WC.skip ?_
                  refine WX.next ?_
                  refine WC.seq ?_
                  refine WC.block ?_
                  refine WC.draws' (fun u0_ u1_ => Upd (At g) u0_ u1_) (fun j => [0, 0, 0, 1, 0, 0, 1, 0, 1, 0, 1, 0, 1, 2, 0, 2].getD j 0) (.calm 0 (.calm 2 (.calm 5 (.calm 7 (.calm 9 (.held 1 (.one 3 (.calm 4 (.one 6 (.one 8 (.one 10 (.calm 11 (.one 12 (.one 13 (.calm 14 (.one 15 (.done))))))))))))))))) mixed (by kernel_rfl) (by repeat (first | with_reducible exact Deaf.body | with_reducible apply Deaf.then | with_reducible apply Deaf.block)) ?_
                  intro w8 hu8
                  have hz8 := congrArg Array.size hu8.2.2.2
                  replace hu8 := Upd.of_draw hu8
                  have hs8 := hu8.size
                  replace hU := hU.trans hu8 (by first | exact (fun _ _ h => h) | exact (fun _ _ h => h.elim) | (intro k hl hk; (try simp only [At, New, Grow, From, No] at hk ⊢); omega) | (intro k hl hk; first | (simp only [At, No] at hk ⊢; omega) | (have := hGc k hk; omega) | (have := hG k hk; omega)))
                  replace h := h.upd hu8 (by first | exact (fun h => h) | (simp only [At, No]; omega) | (exact fun h => by have := hGc _ h; omega) | (exact fun h => by have := hG _ h; omega)) (by first | exact (fun _ _ _ h => h) | (intro k hk hl hS; have := hFl k hk; first | (simp only [At, No] at hS; omega) | (have := hGc k hS; omega) | (have := hG k hS; omega)))
                  replace hO := hO.upd hu8 (by first | exact (fun _ _ _ h => h) | (intro k hk hl hS; have := hG k hk; first | (simp only [At, No] at hS; omega) | (have := hGc k hS; omega)))
                  replace hW := hW.upd hu8 (by intro k hl hk; first | exact hk.elim | (simp only [At, No] at hk ⊢; omega) | (have := hGc k hk; omega))
                  replace hbf := hbf.upd hu8 (by first | exact (fun h => h) | (simp only [At, No]; omega) | (exact fun h => by have := hGc _ h; omega) | (exact fun h => by have := hG _ h; omega))
                  replace hc := hc.upd hu8 (by first | exact (fun _ _ _ h => h) | (intro k hk hl hS; have := hGc k hk; simp only [At, No] at hS; omega))
                  have hS9 := Upd.refl (At g) w8
                  first | refine WN.calm _ rfl rfl rfl rfl rfl (fun _ => r_field0 rfl (ev_t rfl) fld_42_1) ?_ | refine WN.calm _ rfl rfl rfl rfl rfl (fun _ => r_fieldAt rfl (ev_t rfl) fld_42_1) ?_
                  refine WN.calm _ rfl rfl rfl rfl rfl (fun _ => r_move rfl (ev_t rfl)) ?_
                  refine WN.calm _ rfl rfl rfl rfl rfl (fun _ => r_move rfl (ev_t rfl)) ?_
                  refine WN.calm _ rfl rfl rfl rfl rfl (fun _ => r_move rfl (ev_t rfl)) ?_
                  refine WN.calm _ rfl rfl rfl rfl rfl (fun _ => r_move rfl (ev_t rfl)) ?_
                  refine WN.held _ rfl rfl rfl rfl rfl hS9 (fun w' hS => r_load rfl (ev_t rfl) flat_40 (Blk.cell (hbf.upd hS (by (try simp only [At, From, No, Grow, New]); omega)) rfl)) ?_
                  refine WN.step _ rfl (SO.call (upto_ok h hFg (by simp only [inK]; omega) ho) rfl body_22 ⟨(ev_t rfl), ev_c, trivial⟩ rfl rfl rfl rfl ?_)
                  rintro v w9 ⟨rfl, h, hu9⟩
                  have hs9 := hu9.size
                  replace hS9 := Upd.transA hS9 hu9
                  replace hU := hU.trans hu9 (by first | exact (fun _ _ h => h) | exact (fun _ _ h => h.elim) | (intro k hl hk; (try simp only [At, New, Grow, From, No] at hk ⊢); omega) | (intro k hl hk; first | (simp only [At, No] at hk ⊢; omega) | (have := hGc k hk; omega) | (have := hG k hk; omega)))
                  replace hO := hO.upd hu9 (by first | exact (fun _ _ _ h => h) | (intro k hk hl hS; have := hG k hk; first | (simp only [At, No] at hS; omega) | (have := hGc k hS; omega)))
                  replace hW := hW.upd hu9 (by intro k hl hk; first | exact hk.elim | (simp only [At, No] at hk ⊢; omega) | (have := hGc k hk; omega))
                  replace hbf := hbf.upd hu9 (by first | exact (fun h => h) | (simp only [At, No]; omega) | (exact fun h => by have := hGc _ h; omega) | (exact fun h => by have := hG _ h; omega))
                  replace hc := hc.upd hu9 (by first | exact (fun _ _ _ h => h) | (intro k hk hl hS; have := hGc k hk; simp only [At, No] at hS; omega))
                  refine ⟨hS9, ?_⟩
                  first | refine WN.calm _ rfl rfl rfl rfl rfl (fun _ => r_convN rfl (ev_t rfl) some_3 int_5 (by simp only [inK]; omega)) ?_ | refine WN.calm _ rfl rfl rfl rfl rfl (fun _ => r_conv rfl (ev_t rfl) some_3 int_5) ?_
                  refine WN.step _ rfl (SO.call (int_ok h hFg hx) rfl body_23 ⟨(ev_t rfl), trivial⟩ rfl rfl rfl rfl ?_)
                  rintro v w10 ⟨rfl, h, hu10⟩
                  have hs10 := hu10.size
                  replace hS9 := Upd.transA hS9 hu10
                  replace hU := hU.trans hu10 (by first | exact (fun _ _ h => h) | exact (fun _ _ h => h.elim) | (intro k hl hk; (try simp only [At, New, Grow, From, No] at hk ⊢); omega) | (intro k hl hk; first | (simp only [At, No] at hk ⊢; omega) | (have := hGc k hk; omega) | (have := hG k hk; omega)))
                  replace hO := hO.upd hu10 (by first | exact (fun _ _ _ h => h) | (intro k hk hl hS; have := hG k hk; first | (simp only [At, No] at hS; omega) | (have := hGc k hS; omega)))
                  replace hW := hW.upd hu10 (by intro k hl hk; first | exact hk.elim | (simp only [At, No] at hk ⊢; omega) | (have := hGc k hk; omega))
                  replace hbf := hbf.upd hu10 (by first | exact (fun h => h) | (simp only [At, No]; omega) | (exact fun h => by have := hGc _ h; omega) | (exact fun h => by have := hG _ h; omega))
                  replace hc := hc.upd hu10 (by first | exact (fun _ _ _ h => h) | (intro k hk hl hS; have := hGc k hk; simp only [At, No] at hS; omega))
                  refine ⟨hS9, ?_⟩
                  refine WN.step _ rfl (SO.call (upto_ok h hFg (by simp only [inK]; omega) ha) rfl body_22 ⟨(ev_t rfl), ev_c, trivial⟩ rfl rfl rfl rfl ?_)
                  rintro v w11 ⟨rfl, h, hu11⟩
                  have hs11 := hu11.size
                  replace hS9 := Upd.transA hS9 hu11
                  replace hU := hU.trans hu11 (by first | exact (fun _ _ h => h) | exact (fun _ _ h => h.elim) | (intro k hl hk; (try simp only [At, New, Grow, From, No] at hk ⊢); omega) | (intro k hl hk; first | (simp only [At, No] at hk ⊢; omega) | (have := hGc k hk; omega) | (have := hG k hk; omega)))
                  replace hO := hO.upd hu11 (by first | exact (fun _ _ _ h => h) | (intro k hk hl hS; have := hG k hk; first | (simp only [At, No] at hS; omega) | (have := hGc k hS; omega)))
                  replace hW := hW.upd hu11 (by intro k hl hk; first | exact hk.elim | (simp only [At, No] at hk ⊢; omega) | (have := hGc k hk; omega))
                  replace hbf := hbf.upd hu11 (by first | exact (fun h => h) | (simp only [At, No]; omega) | (exact fun h => by have := hGc _ h; omega) | (exact fun h => by have := hG _ h; omega))
                  replace hc := hc.upd hu11 (by first | exact (fun _ _ _ h => h) | (intro k hk hl hS; have := hGc k hk; simp only [At, No] at hS; omega))
                  refine ⟨hS9, ?_⟩
                  refine WN.step _ rfl (SO.call (text_ok h hFg (by simp only [inK]; omega) ht) rfl body_24 ⟨(ev_t rfl), ev_c, trivial⟩ rfl rfl rfl rfl ?_)
                  rintro v w12 ⟨rfl, h, hu12, htl⟩
                  have hs12 := hu12.size
                  replace hS9 := Upd.transA hS9 hu12
                  replace hU := hU.trans hu12 (by first | exact (fun _ _ h => h) | exact (fun _ _ h => h.elim) | (intro k hl hk; (try simp only [At, New, Grow, From, No] at hk ⊢); omega) | (intro k hl hk; first | (simp only [At, No] at hk ⊢; omega) | (have := hGc k hk; omega) | (have := hG k hk; omega)))
                  replace hO := hO.upd hu12 (by first | exact (fun _ _ _ h => h) | (intro k hk hl hS; have := hG k hk; first | (simp only [At, No] at hS; omega) | (have := hGc k hS; omega)))
                  replace hW := hW.upd hu12 (by intro k hl hk; first | exact hk.elim | (simp only [At, No] at hk ⊢; omega) | (have := hGc k hk; omega))
                  replace hbf := hbf.upd hu12 (by first | exact (fun h => h) | (simp only [At, No]; omega) | (exact fun h => by have := hGc _ h; omega) | (exact fun h => by have := hG _ h; omega))
                  replace hc := hc.upd hu12 (by first | exact (fun _ _ _ h => h) | (intro k hk hl hS; have := hGc k hk; simp only [At, No] at hS; omega))
                  refine ⟨hS9, ?_⟩
                  refine WN.calm _ rfl rfl rfl rfl rfl (fun _ => r_build (cs := #[_, _, _, _]) (vs := [(0, _), (1, _), (2, _), (3, _)]) rfl ⟨⟨rfl, (ev_t rfl)⟩, ⟨rfl, (ev_t rfl)⟩, ⟨rfl, (ev_t rfl)⟩, ⟨rfl, (ev_t rfl)⟩, trivial⟩ plc_44 zero_44 rfl) ?_
                  refine WN.step _ rfl (SO.alloc rfl rfl rfl rfl (r_buildSlice (cs := #[_, _, _, _]) (vs := [(0, _)]) rfl ⟨⟨rfl, (ev_t rfl)⟩, trivial⟩ row_40 rfl rfl) ?_)
                  intro w13 hu13 hB13 hz13
                  have hs13 := hu13.size
                  replace hS9 := Upd.transA hS9 hu13
                  replace hU := hU.trans hu13 (by first | exact (fun _ _ h => h) | exact (fun _ _ h => h.elim) | (intro k hl hk; (try simp only [At, New, Grow, From, No] at hk ⊢); omega) | (intro k hl hk; first | (simp only [At, No] at hk ⊢; omega) | (have := hGc k hk; omega) | (have := hG k hk; omega)))
                  replace h := h.upd hu13 (by first | exact (fun h => h) | (simp only [At, No]; omega) | (exact fun h => by have := hGc _ h; omega) | (exact fun h => by have := hG _ h; omega)) (by first | exact (fun _ _ _ h => h) | (intro k hk hl hS; have := hFl k hk; first | (simp only [At, No] at hS; omega) | (have := hGc k hS; omega) | (have := hG k hS; omega)))
                  replace hO := hO.upd hu13 (by first | exact (fun _ _ _ h => h) | (intro k hk hl hS; have := hG k hk; first | (simp only [At, No] at hS; omega) | (have := hGc k hS; omega)))
                  replace hW := hW.upd hu13 (by intro k hl hk; first | exact hk.elim | (simp only [At, No] at hk ⊢; omega) | (have := hGc k hk; omega))
                  replace hbf := hbf.upd hu13 (by first | exact (fun h => h) | (simp only [At, No]; omega) | (exact fun h => by have := hGc _ h; omega) | (exact fun h => by have := hG _ h; omega))
                  replace hc := hc.upd hu13 (by first | exact (fun _ _ _ h => h) | (intro k hk hl hS; have := hGc k hk; simp only [At, No] at hS; omega))
                  refine ⟨hS9, ?_⟩
                  refine WN.step _ rfl (SO.append hc (Rd.of_blk (F := At _) (n := 1) (sz := 4) hB13 rfl rfl (by omega)) row_40 (by intro u hu; simp only [List.mem_cons, List.not_mem_nil, or_false, Array.toList] at hu; rcases hu with rfl | rfl | rfl | rfl <;> rfl) (le_maxLen (by omega)) (by omega) rfl (ev_t rfl) (ev_t rfl) rfl rfl rfl rfl ?_)
                  intro v14 w14 hc2 hu14
                  have hs14 := hu14.size
                  try replace hS9 := Upd.transA hS9 hu14
                  replace hU := hU.trans hu14 (by first | exact (fun _ _ h => h) | exact (fun _ _ h => h.elim) | (intro k hl hk; (try simp only [At, New, Grow, From, No] at hk ⊢); omega) | (intro k hl hk; first | (simp only [At, No] at hk ⊢; omega) | (have := hGc k hk; omega) | (have := hG k hk; omega)))
                  replace h := h.upd hu14 (by first | exact (fun h => h) | (simp only [At, No]; omega) | (exact fun h => by have := hGc _ h; omega) | (exact fun h => by have := hG _ h; omega)) (by first | exact (fun _ _ _ h => h) | (intro k hk hl hS; have := hFl k hk; first | (simp only [At, No] at hS; omega) | (have := hGc k hS; omega) | (have := hG k hS; omega)))
                  replace hO := hO.upd hu14 (by first | exact (fun _ _ _ h => h) | (intro k hk hl hS; have := hG k hk; first | (simp only [At, No] at hS; omega) | (have := hGc k hS; omega)))
                  replace hW := hW.upd hu14 (by intro k hl hk; first | exact hk.elim | (simp only [At, No] at hk ⊢; omega) | (have := hGc k hk; omega))
                  replace hbf := hbf.upd hu14 (by first | exact (fun h => h) | (simp only [At, No]; omega) | (exact fun h => by have := hGc _ h; omega) | (exact fun h => by have := hG _ h; omega))
                  refine ⟨trivial, ?_⟩
                  obtain ⟨A14, c14, rfl, hc14⟩ := Own.form hc2
                  first | refine WN.calm _ rfl rfl rfl rfl rfl (fun _ => r_field0 rfl (ev_t rfl) fld_42_1) ?_ | refine WN.calm _ rfl rfl rfl rfl rfl (fun _ => r_fieldAt rfl (ev_t rfl) fld_42_1) ?_
                  refine WN.step _ rfl (SO.store rfl (ev_t rfl) (ev_t rfl) size_40 hbf rfl rfl rfl rfl rfl ?_)
                  intro w15 hu15 hbf hz15
                  have hs15 := hu15.size
                  try replace hS9 := Upd.transA hS9 hu15
                  replace hU := hU.trans hu15 (by first | exact (fun _ _ h => h) | exact (fun _ _ h => h.elim) | (intro k hl hk; (try simp only [At, New, Grow, From, No] at hk ⊢); omega) | (intro k hl hk; first | (simp only [At, No] at hk ⊢; omega) | (have := hGc k hk; omega) | (have := hG k hk; omega)))
                  replace h := h.upd hu15 (by first | exact (fun h => h) | (simp only [At, No]; omega) | (exact fun h => by have := hGc _ h; omega) | (exact fun h => by have := hG _ h; omega)) (by first | exact (fun _ _ _ h => h) | (intro k hk hl hS; have := hFl k hk; first | (simp only [At, No] at hS; omega) | (have := hGc k hS; omega) | (have := hG k hS; omega)))
                  replace hO := hO.upd hu15 (by first | exact (fun _ _ _ h => h) | (intro k hk hl hS; have := hG k hk; first | (simp only [At, No] at hS; omega) | (have := hGc k hS; omega)))
                  replace hW := hW.upd hu15 (by intro k hl hk; first | exact hk.elim | (simp only [At, No] at hk ⊢; omega) | (have := hGc k hk; omega))
                  replace hc2 := hc2.upd hu15 (by first | exact (fun _ _ _ h => h) | (intro k hk hl hS; simp only [At, No] at hS; rcases hk with hk | hk; (have := hGc k hk; omega); omega))
                  refine ⟨trivial, ?_⟩
                  refine WN.done ?_
                  refine WX.keep [(0, _), (3, _), (4, _), (5, _), (6, _)] ⟨rfl, rfl, rfl, rfl, rfl, trivial⟩ ?_
                  refine WX.blockNormal ?_
                  refine WX.next ?_
                  refine WC.region ?_
                  refine WL.val rfl rfl rfl rfl (r_move rfl (ev_t rfl)) ?_
                  first | refine WL.val rfl rfl rfl rfl (r_subN rfl (ev_t rfl) ev_c (by simp only [inK]; omega)) ?_ | refine WL.val rfl rfl rfl rfl (r_sub rfl (ev_t rfl) ev_c) ?_
                  refine WL.val rfl rfl rfl rfl (r_assign rfl (ev_t rfl)) ?_
                  refine WL.nil ?_
                  refine WX.keep [(0, _), (3, _), (4, _), (5, _), (6, _)] ⟨rfl, rfl, rfl, rfl, rfl, trivial⟩ ?_
                  refine WX.meet [(0, _), (3, _), (4, _), (5, _), (6, _)] ⟨rfl, rfl, rfl, rfl, rfl, trivial⟩ ?_
                  rw [show ((k1 + 1 : Nat) : Int) - 1 = (k1 : Int) by omega]
                  refine ⟨k1, by omega, e4, I ++ [⟨o, zag x, (a : Int), t⟩], _, _, _, by rw [List.length_append]; simp; omega, hU, hW, by omega, h, hlc, by rw [List.length_append]; exact hbf, by rw [List.length_append]; exact Own.cast hc2 (show I.flatMap insC ++ insC ⟨o, zag x, (a : Int), t⟩ = _ from decL_push), fun k hk => ?_, hO, rfl⟩
                  rcases hk with hk | hk
                  · have := hGc k hk; exact ⟨by omega, by omega, this.2.2⟩
                  · exact ⟨by omega, by omega, by omega⟩
               · try (exfalso; first | (simp at hc7; done) | (simp only [decide_eq_true_eq, decide_eq_false_iff_not, Bool.not_eq_true', Bool.not_eq_false', Bool.not_eq_true, Bool.not_eq_false] at hc7; omega) | omega)
                 all_goals
                  try simp only [decide_eq_true_eq, decide_eq_false_iff_not, Bool.not_eq_true', Bool.not_eq_false', Bool.not_eq_true, Bool.not_eq_false, Option.isNone_none, Option.isNone_some, Option.isSome_none, Option.isSome_some, ne_eq, Decidable.not_not] at hc7
                  have hs0 : s = none := by cases s with | none => rfl | some p => simp at hc7
                  have he2 : I = I9 ∧ s = s4 := by rw [hs0, loadC_none] at hlc; rw [hs0]; simpa using hlc
                  obtain ⟨rfl, rfl⟩ := he2
                  refine WC.exit ?_
                  refine WX.thenExit ?_
                  refine WX.thenExit ?_
                  refine WX.blockHere ?_
                  refine WX.next ?_
                  refine WC.region ?_
                  refine WL.val rfl rfl rfl rfl (r_move rfl (ev_t rfl)) ?_
                  refine WL.val rfl rfl rfl rfl (r_loadAgg (vs := [_, _]) rfl (ev_t rfl) agg_42 size_42 (Blk.cellsL hbf)) ?_
                  refine WL.cons (SO.alloc rfl rfl rfl rfl (r_buildSlice (cs := #[_, _]) (vs := [(0, _)]) rfl ⟨⟨rfl, (ev_t rfl)⟩, trivial⟩ row_22 rfl rfl) ?_)
                  intro w16 hu16 hB16 hz16
                  have hs16 := hu16.size
                  replace hU := hU.trans hu16 (by first | exact (fun _ _ h => h) | exact (fun _ _ h => h.elim) | (intro k hl hk; (try simp only [At, New, Grow, From, No] at hk ⊢); omega) | (intro k hl hk; first | (simp only [At, No] at hk ⊢; omega) | (have := hGc k hk; omega) | (have := hG k hk; omega)))
                  replace h := h.upd hu16 (by first | exact (fun h => h) | (simp only [At, No]; omega) | (exact fun h => by have := hGc _ h; omega) | (exact fun h => by have := hG _ h; omega)) (by first | exact (fun _ _ _ h => h) | (intro k hk hl hS; have := hFl k hk; first | (simp only [At, No] at hS; omega) | (have := hGc k hS; omega) | (have := hG k hS; omega)))
                  replace hO := hO.upd hu16 (by first | exact (fun _ _ _ h => h) | (intro k hk hl hS; have := hG k hk; first | (simp only [At, No] at hS; omega) | (have := hGc k hS; omega)))
                  replace hW := hW.upd hu16 (by intro k hl hk; first | exact hk.elim | (simp only [At, No] at hk ⊢; omega) | (have := hGc k hk; omega))
                  replace hbf := hbf.upd hu16 (by first | exact (fun h => h) | (simp only [At, No]; omega) | (exact fun h => by have := hGc _ h; omega) | (exact fun h => by have := hG _ h; omega))
                  replace hc := hc.upd hu16 (by first | exact (fun _ _ _ h => h) | (intro k hk hl hS; have := hGc k hk; simp only [At, No] at hS; omega))
                  have hcr := hc.rd (by omega)
                  have hW8 := hW
                  have hs8 := hW8.size
                  refine WL.cons (SO.append hO (Rd.of_blk (F := At _) (n := 1) (sz := 2) hB16 rfl rfl (by omega)) row_22 (by intro u hu; simp only [List.mem_cons, List.not_mem_nil, or_false, Array.toList] at hu; rcases hu with rfl | rfl <;> rfl) (le_maxLen (by omega)) (by omega) rfl (ev_t rfl) (ev_t rfl) rfl rfl rfl rfl ?_)
                  intro v17 w17 hO2 hu17
                  have hs17 := hu17.size
                  replace hU := hU.trans hu17 (by first | exact (fun _ _ h => h) | exact (fun _ _ h => h.elim) | (intro k hl hk; (try simp only [At, New, Grow, From, No] at hk ⊢); omega) | (intro k hl hk; first | (simp only [At, No] at hk ⊢; omega) | (have := hGc k hk; omega) | (have := hG k hk; omega)))
                  replace h := h.upd hu17 (by first | exact (fun h => h) | (simp only [At, No]; omega) | (exact fun h => by have := hGc _ h; omega) | (exact fun h => by have := hG _ h; omega)) (by first | exact (fun _ _ _ h => h) | (intro k hk hl hS; have := hFl k hk; first | (simp only [At, No] at hS; omega) | (have := hGc k hS; omega) | (have := hG k hS; omega)))
                  replace hbf := hbf.upd hu17 (by first | exact (fun h => h) | (simp only [At, No]; omega) | (exact fun h => by have := hGc _ h; omega) | (exact fun h => by have := hG _ h; omega))
                  replace hcr := hcr.upd hu17 (by first | exact (fun _ _ _ h => h) | (intro k hk hl hS; have := hGc k hk; have := hG k hS; omega))
                  obtain ⟨A17, c17, rfl, hc17⟩ := Own.form hO2
                  have hap := hu17
                  refine WL.val rfl rfl rfl rfl (r_assign rfl (ev_t rfl)) ?_
                  refine WL.nil ?_
                  refine WX.keep [(0, _), (3, _), (4, _)] ⟨rfl, rfl, rfl, trivial⟩ ?_
                  refine WX.blockNormal ?_
                  refine WX.next ?_
                  refine WC.region ?_
                  refine WL.val rfl rfl rfl rfl (r_move rfl (ev_t rfl)) ?_
                  first | refine WL.val rfl rfl rfl rfl (r_subN rfl (ev_t rfl) ev_c (by simp only [inK]; omega)) ?_ | refine WL.val rfl rfl rfl rfl (r_sub rfl (ev_t rfl) ev_c) ?_
                  refine WL.val rfl rfl rfl rfl (r_assign rfl (ev_t rfl)) ?_
                  refine WL.nil ?_
                  refine WX.keep [(0, _), (3, _), (4, _)] ⟨rfl, rfl, rfl, trivial⟩ ?_
                  refine WX.meet [(0, _), (3, _), (4, _)] ⟨rfl, rfl, rfl, trivial⟩ ?_
                  rw [show ((q1 + 1 : Nat) : Int) - 1 = (q1 : Int) by omega]
                  have hs9 := hap.size
                  obtain ⟨nx, hnx⟩ : ∃ nx : FnV, nx = ⟨⟨(cp : Int), I⟩, .slice Ac I.length cc⟩ := ⟨_, rfl⟩
                  have hml : (V2 ++ [nx]).map FnV.f = V2.map FnV.f ++ [⟨(cp : Int), I⟩] := by rw [List.map_append, hnx]; rfl
                  have hO3 := Own.cast hO2 (show V2.flatMap FnV.cells ++ FnV.cells ⟨⟨(cp : Int), I⟩, .slice Ac I.length cc⟩ = (V2 ++ [nx]).flatMap FnV.cells from by rw [← hnx, List.flatMap_append, List.flatMap_singleton])
                  refine ⟨q1, by omega, s, V2 ++ [nx], _, _, _, fun k => C k ∨ Gc k, by rw [List.length_append]; simp; omega, hU, h, by rw [hml]; exact hl, by rw [List.length_append]; exact hO3, fun x hx => ?_, fun k hk => ?_, fun k hk => ?_, by rw [List.length_append]; rfl⟩
                  · rcases List.mem_append.1 hx with hx | hx
                    · exact (((hD x hx).upd hW8 (fun k hk _ hS => by have := hC k hk; simp only [At] at hS; omega)).upd hap (fun k hk _ hS => (hC k hk).2.2 hS)).mono fun k hk => .inl hk
                    · rw [List.mem_singleton] at hx
                      subst hx
                      rw [hnx]
                      exact hcr.mono fun k hk => .inr hk
                  · rcases hk with hk | hk
                    · have := hG k hk; omega
                    · omega
                  · rcases hk with hk | hk
                    · have := hC k hk
                      exact ⟨by omega, by omega, fun h => h.elim this.2.2 (fun h => by omega)⟩
                    · have := hGc k hk
                      exact ⟨by omega, by omega, fun h => h.elim (fun h => by have := hG k h; omega) (fun h => by omega)⟩
            · try (exfalso; first | (simp at hb7_2; done) | (simp only [decide_eq_true_eq, decide_eq_false_iff_not, Bool.not_eq_true', Bool.not_eq_false', Bool.not_eq_true, Bool.not_eq_false] at hb7_2; omega) | omega)
              all_goals
               try simp only [decide_eq_true_eq, decide_eq_false_iff_not, Bool.not_eq_true', Bool.not_eq_false', Bool.not_eq_true, Bool.not_eq_false, Option.isNone_none, Option.isNone_some, Option.isSome_none, Option.isSome_some, ne_eq, Decidable.not_not] at hb7_2
               refine WL.skip rfl rfl rfl ?_
               refine WL.skip rfl rfl rfl ?_
               refine WL.skip rfl rfl rfl ?_
               refine WL.val rfl rfl rfl rfl (r_pickF rfl (ev_t rfl) ev_c) ?_
               refine WL.nil ?_
               refine WX.keep [(0, _), (3, _), (4, _), (5, _), (6, _), (29, _)] ⟨rfl, rfl, rfl, rfl, rfl, rfl, trivial⟩ ?_
               refine WX.next ?_
               refine WC.cond_false rfl (ev_t rfl) ?_
               obtain rfl : q = 0 := by omega
               have he2 : I = I9 ∧ s = s4 := by rw [loadC_zero] at hlc; simpa using hlc
               obtain ⟨rfl, rfl⟩ := he2
               refine WC.exit ?_
               refine WX.thenExit ?_
               refine WX.thenExit ?_
               refine WX.blockHere ?_
               refine WX.next ?_
               refine WC.region ?_
               refine WL.val rfl rfl rfl rfl (r_move rfl (ev_t rfl)) ?_
               refine WL.val rfl rfl rfl rfl (r_loadAgg (vs := [_, _]) rfl (ev_t rfl) agg_42 size_42 (Blk.cellsL hbf)) ?_
               refine WL.cons (SO.alloc rfl rfl rfl rfl (r_buildSlice (cs := #[_, _]) (vs := [(0, _)]) rfl ⟨⟨rfl, (ev_t rfl)⟩, trivial⟩ row_22 rfl rfl) ?_)
               intro w18 hu18 hB18 hz18
               have hs18 := hu18.size
               replace hU := hU.trans hu18 (by first | exact (fun _ _ h => h) | exact (fun _ _ h => h.elim) | (intro k hl hk; (try simp only [At, New, Grow, From, No] at hk ⊢); omega) | (intro k hl hk; first | (simp only [At, No] at hk ⊢; omega) | (have := hGc k hk; omega) | (have := hG k hk; omega)))
               replace h := h.upd hu18 (by first | exact (fun h => h) | (simp only [At, No]; omega) | (exact fun h => by have := hGc _ h; omega) | (exact fun h => by have := hG _ h; omega)) (by first | exact (fun _ _ _ h => h) | (intro k hk hl hS; have := hFl k hk; first | (simp only [At, No] at hS; omega) | (have := hGc k hS; omega) | (have := hG k hS; omega)))
               replace hO := hO.upd hu18 (by first | exact (fun _ _ _ h => h) | (intro k hk hl hS; have := hG k hk; first | (simp only [At, No] at hS; omega) | (have := hGc k hS; omega)))
               replace hW := hW.upd hu18 (by intro k hl hk; first | exact hk.elim | (simp only [At, No] at hk ⊢; omega) | (have := hGc k hk; omega))
               replace hbf := hbf.upd hu18 (by first | exact (fun h => h) | (simp only [At, No]; omega) | (exact fun h => by have := hGc _ h; omega) | (exact fun h => by have := hG _ h; omega))
               replace hc := hc.upd hu18 (by first | exact (fun _ _ _ h => h) | (intro k hk hl hS; have := hGc k hk; simp only [At, No] at hS; omega))
               have hcr := hc.rd (by omega)
               have hW8 := hW
               have hs8 := hW8.size
               refine WL.cons (SO.append hO (Rd.of_blk (F := At _) (n := 1) (sz := 2) hB18 rfl rfl (by omega)) row_22 (by intro u hu; simp only [List.mem_cons, List.not_mem_nil, or_false, Array.toList] at hu; rcases hu with rfl | rfl <;> rfl) (le_maxLen (by omega)) (by omega) rfl (ev_t rfl) (ev_t rfl) rfl rfl rfl rfl ?_)
               intro v19 w19 hO2 hu19
               have hs19 := hu19.size
               replace hU := hU.trans hu19 (by first | exact (fun _ _ h => h) | exact (fun _ _ h => h.elim) | (intro k hl hk; (try simp only [At, New, Grow, From, No] at hk ⊢); omega) | (intro k hl hk; first | (simp only [At, No] at hk ⊢; omega) | (have := hGc k hk; omega) | (have := hG k hk; omega)))
               replace h := h.upd hu19 (by first | exact (fun h => h) | (simp only [At, No]; omega) | (exact fun h => by have := hGc _ h; omega) | (exact fun h => by have := hG _ h; omega)) (by first | exact (fun _ _ _ h => h) | (intro k hk hl hS; have := hFl k hk; first | (simp only [At, No] at hS; omega) | (have := hGc k hS; omega) | (have := hG k hS; omega)))
               replace hbf := hbf.upd hu19 (by first | exact (fun h => h) | (simp only [At, No]; omega) | (exact fun h => by have := hGc _ h; omega) | (exact fun h => by have := hG _ h; omega))
               replace hcr := hcr.upd hu19 (by first | exact (fun _ _ _ h => h) | (intro k hk hl hS; have := hGc k hk; have := hG k hS; omega))
               obtain ⟨A19, c19, rfl, hc19⟩ := Own.form hO2
               have hap := hu19
               refine WL.val rfl rfl rfl rfl (r_assign rfl (ev_t rfl)) ?_
               refine WL.nil ?_
               refine WX.keep [(0, _), (3, _), (4, _)] ⟨rfl, rfl, rfl, trivial⟩ ?_
               refine WX.blockNormal ?_
               refine WX.next ?_
               refine WC.region ?_
               refine WL.val rfl rfl rfl rfl (r_move rfl (ev_t rfl)) ?_
               first | refine WL.val rfl rfl rfl rfl (r_subN rfl (ev_t rfl) ev_c (by simp only [inK]; omega)) ?_ | refine WL.val rfl rfl rfl rfl (r_sub rfl (ev_t rfl) ev_c) ?_
               refine WL.val rfl rfl rfl rfl (r_assign rfl (ev_t rfl)) ?_
               refine WL.nil ?_
               refine WX.keep [(0, _), (3, _), (4, _)] ⟨rfl, rfl, rfl, trivial⟩ ?_
               refine WX.meet [(0, _), (3, _), (4, _)] ⟨rfl, rfl, rfl, trivial⟩ ?_
               rw [show ((q1 + 1 : Nat) : Int) - 1 = (q1 : Int) by omega]
               have hs9 := hap.size
               obtain ⟨nx, hnx⟩ : ∃ nx : FnV, nx = ⟨⟨(cp : Int), I⟩, .slice Ac I.length cc⟩ := ⟨_, rfl⟩
               have hml : (V2 ++ [nx]).map FnV.f = V2.map FnV.f ++ [⟨(cp : Int), I⟩] := by rw [List.map_append, hnx]; rfl
               have hO3 := Own.cast hO2 (show V2.flatMap FnV.cells ++ FnV.cells ⟨⟨(cp : Int), I⟩, .slice Ac I.length cc⟩ = (V2 ++ [nx]).flatMap FnV.cells from by rw [← hnx, List.flatMap_append, List.flatMap_singleton])
               refine ⟨q1, by omega, s, V2 ++ [nx], _, _, _, fun k => C k ∨ Gc k, by rw [List.length_append]; simp; omega, hU, h, by rw [hml]; exact hl, by rw [List.length_append]; exact hO3, fun x hx => ?_, fun k hk => ?_, fun k hk => ?_, by rw [List.length_append]; rfl⟩
               · rcases List.mem_append.1 hx with hx | hx
                 · exact (((hD x hx).upd hW8 (fun k hk _ hS => by have := hC k hk; simp only [At] at hS; omega)).upd hap (fun k hk _ hS => (hC k hk).2.2 hS)).mono fun k hk => .inl hk
                 · rw [List.mem_singleton] at hx
                   subst hx
                   rw [hnx]
                   exact hcr.mono fun k hk => .inr hk
               · rcases hk with hk | hk
                 · have := hG k hk; omega
                 · omega
               · rcases hk with hk | hk
                 · have := hC k hk
                   exact ⟨by omega, by omega, fun h => h.elim this.2.2 (fun h => by omega)⟩
                 · have := hGc k hk
                   exact ⟨by omega, by omega, fun h => h.elim (fun h => by have := hG k h; omega) (fun h => by omega)⟩
       · try (exfalso; first | (simp at hc3; done) | (simp only [decide_eq_true_eq, decide_eq_false_iff_not, Bool.not_eq_true', Bool.not_eq_false', Bool.not_eq_true, Bool.not_eq_false] at hc3; omega) | omega)
         all_goals
          try simp only [decide_eq_true_eq, decide_eq_false_iff_not, Bool.not_eq_true', Bool.not_eq_false', Bool.not_eq_true, Bool.not_eq_false, Option.isNone_none, Option.isNone_some, Option.isSome_none, Option.isSome_some, ne_eq, Decidable.not_not] at hc3
          have hs0 : s = none := by cases s with | none => rfl | some p => simp at hc3
          have he2 : V2.map FnV.f = L9 ∧ s = s9 := by rw [hs0, loadF_none] at hl; rw [hs0]; simpa using hl
          obtain ⟨rfl, rfl⟩ := he2
          refine WC.exit ?_
          refine WX.thenExit ?_
          refine WX.thenExit ?_
          refine WX.blockHere ?_
          refine WX.next ?_
          refine WC.seq ?_
          refine WC.seq ?_
          refine WC.region ?_
          refine WL.val rfl rfl rfl rfl (r_move rfl (ev_t rfl)) ?_
          refine WL.cons (SO.call (bad_ok h) rfl body_14 ⟨(ev_t rfl), trivial⟩ rfl rfl rfl rfl ?_)
          rintro v w20 ⟨rfl, he⟩
          obtain rfl := he.symm
          refine WL.nil ?_
          refine WX.keep [(3, _), (52, _)] ⟨rfl, rfl, trivial⟩ ?_
          refine WX.next ?_
          refine WC.cond rfl (ev_t rfl) (fun hc11 => ?_) (fun hc11 => ?_)
          · try (exfalso; first | (simp at hc11; done) | (simp only [decide_eq_true_eq, decide_eq_false_iff_not, Bool.not_eq_true', Bool.not_eq_false', Bool.not_eq_true, Bool.not_eq_false] at hc11; omega) | omega)
            all_goals
             try simp only [decide_eq_true_eq, decide_eq_false_iff_not, Bool.not_eq_true', Bool.not_eq_false', Bool.not_eq_true, Bool.not_eq_false, Option.isNone_none, Option.isNone_some, Option.isSome_none, Option.isSome_some, ne_eq, Decidable.not_not] at hc11
             refine WC.seq ?_
             refine WC.region ?_
             refine WL.val rfl rfl rfl rfl (r_assign rfl ev_c) ?_
             refine WL.nil ?_
             refine WX.keep [(2, _)] ⟨rfl, trivial⟩ ?_
             refine WX.next ?_
             refine WC.ret ?_
             refine WX.thenRet ?_
             refine WX.retE1 rfl rfl ?_
             have hs0 : s = none := by cases s with | none => rfl | some p => simp at hc11
             rw [if_pos hs0]
             exact ⟨⟨[], Rd.nil _ _ _, (fun x hx => by cases hx), rfl⟩, h, hU⟩
          · try (exfalso; first | (simp at hc11; done) | (simp only [decide_eq_true_eq, decide_eq_false_iff_not, Bool.not_eq_true', Bool.not_eq_false', Bool.not_eq_true, Bool.not_eq_false] at hc11; omega) | omega)
            all_goals
             try simp only [decide_eq_true_eq, decide_eq_false_iff_not, Bool.not_eq_true', Bool.not_eq_false', Bool.not_eq_true, Bool.not_eq_false, Option.isNone_none, Option.isNone_some, Option.isSome_none, Option.isSome_some, ne_eq, Decidable.not_not] at hc11
             refine WC.skip ?_
             refine WX.next ?_
             refine WC.seq ?_
             refine WC.region ?_
             refine WL.val rfl rfl rfl rfl (r_move rfl (ev_t rfl)) ?_
             refine WL.val rfl rfl rfl rfl (r_assign rfl (ev_t rfl)) ?_
             refine WL.nil ?_
             refine WX.keep [(2, _)] ⟨rfl, trivial⟩ ?_
             refine WX.next ?_
             refine WC.ret ?_
             refine WX.retE1 rfl rfl ?_
             have hs0 : ¬ s = none := by rintro rfl; simp at hc11
             rw [if_neg hs0]
             exact ⟨⟨V2, (hO.rd (by omega)).mono (fun k hk => by have := hG k hk; exact ⟨by omega, by omega⟩), fun x hx => (hD x hx).mono fun k hk => by have := hC k hk; exact ⟨by omega, by omega⟩, rfl⟩, h, hU⟩
    · try (exfalso; first | (simp at hb3_2; done) | (simp only [decide_eq_true_eq, decide_eq_false_iff_not, Bool.not_eq_true', Bool.not_eq_false', Bool.not_eq_true, Bool.not_eq_false] at hb3_2; omega) | omega)
      all_goals
       try simp only [decide_eq_true_eq, decide_eq_false_iff_not, Bool.not_eq_true', Bool.not_eq_false', Bool.not_eq_true, Bool.not_eq_false, Option.isNone_none, Option.isNone_some, Option.isSome_none, Option.isSome_some, ne_eq, Decidable.not_not] at hb3_2
       refine WL.skip rfl rfl rfl ?_
       refine WL.skip rfl rfl rfl ?_
       refine WL.skip rfl rfl rfl ?_
       refine WL.val rfl rfl rfl rfl (r_pickF rfl (ev_t rfl) ev_c) ?_
       refine WL.nil ?_
       refine WX.keep [(0, _), (3, _), (4, _), (15, _)] ⟨rfl, rfl, rfl, rfl, trivial⟩ ?_
       refine WX.next ?_
       refine WC.cond_false rfl (ev_t rfl) ?_
       obtain rfl : q = 0 := by omega
       have he2 : V2.map FnV.f = L9 ∧ s = s9 := by rw [loadF_zero] at hl; simpa using hl
       obtain ⟨rfl, rfl⟩ := he2
       refine WC.exit ?_
       refine WX.thenExit ?_
       refine WX.thenExit ?_
       refine WX.blockHere ?_
       refine WX.next ?_
       refine WC.seq ?_
       refine WC.seq ?_
       refine WC.region ?_
       refine WL.val rfl rfl rfl rfl (r_move rfl (ev_t rfl)) ?_
       refine WL.cons (SO.call (bad_ok h) rfl body_14 ⟨(ev_t rfl), trivial⟩ rfl rfl rfl rfl ?_)
       rintro v w21 ⟨rfl, he⟩
       obtain rfl := he.symm
       refine WL.nil ?_
       refine WX.keep [(3, _), (52, _)] ⟨rfl, rfl, trivial⟩ ?_
       refine WX.next ?_
       refine WC.cond rfl (ev_t rfl) (fun hc11 => ?_) (fun hc11 => ?_)
       · try (exfalso; first | (simp at hc11; done) | (simp only [decide_eq_true_eq, decide_eq_false_iff_not, Bool.not_eq_true', Bool.not_eq_false', Bool.not_eq_true, Bool.not_eq_false] at hc11; omega) | omega)
         all_goals
          try simp only [decide_eq_true_eq, decide_eq_false_iff_not, Bool.not_eq_true', Bool.not_eq_false', Bool.not_eq_true, Bool.not_eq_false, Option.isNone_none, Option.isNone_some, Option.isSome_none, Option.isSome_some, ne_eq, Decidable.not_not] at hc11
          refine WC.seq ?_
          refine WC.region ?_
          refine WL.val rfl rfl rfl rfl (r_assign rfl ev_c) ?_
          refine WL.nil ?_
          refine WX.keep [(2, _)] ⟨rfl, trivial⟩ ?_
          refine WX.next ?_
          refine WC.ret ?_
          refine WX.thenRet ?_
          refine WX.retE1 rfl rfl ?_
          have hs0 : s = none := by cases s with | none => rfl | some p => simp at hc11
          rw [if_pos hs0]
          exact ⟨⟨[], Rd.nil _ _ _, (fun x hx => by cases hx), rfl⟩, h, hU⟩
       · try (exfalso; first | (simp at hc11; done) | (simp only [decide_eq_true_eq, decide_eq_false_iff_not, Bool.not_eq_true', Bool.not_eq_false', Bool.not_eq_true, Bool.not_eq_false] at hc11; omega) | omega)
         all_goals
          try simp only [decide_eq_true_eq, decide_eq_false_iff_not, Bool.not_eq_true', Bool.not_eq_false', Bool.not_eq_true, Bool.not_eq_false, Option.isNone_none, Option.isNone_some, Option.isSome_none, Option.isSome_some, ne_eq, Decidable.not_not] at hc11
          refine WC.skip ?_
          refine WX.next ?_
          refine WC.seq ?_
          refine WC.region ?_
          refine WL.val rfl rfl rfl rfl (r_move rfl (ev_t rfl)) ?_
          refine WL.val rfl rfl rfl rfl (r_assign rfl (ev_t rfl)) ?_
          refine WL.nil ?_
          refine WX.keep [(2, _)] ⟨rfl, trivial⟩ ?_
          refine WX.next ?_
          refine WC.ret ?_
          refine WX.retE1 rfl rfl ?_
          have hs0 : ¬ s = none := by rintro rfl; simp at hc11
          rw [if_neg hs0]
          exact ⟨⟨V2, (hO.rd (by omega)).mono (fun k hk => by have := hG k hk; exact ⟨by omega, by omega⟩), fun x hx => (hD x hx).mono fun k hk => by have := hC k hk; exact ⟨by omega, by omega⟩, rfl⟩, h, hU⟩
end Go.Proofs.YtipabhbnljadfaaDoor
