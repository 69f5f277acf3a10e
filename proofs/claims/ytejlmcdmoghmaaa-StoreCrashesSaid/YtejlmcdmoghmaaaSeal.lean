/-
  octet.Seal, octet.Open.
-/
import Derived.Test.YtejlmcdmoghmaaaSum
namespace Go.Proofs.Ytejlmcdmoghmaaa
open Go
set_option linter.unusedSimpArgs false
set_option linter.unusedVariables false

/-- the sum's bytes, the lowest first -/
def le4 (c : Nat) : List UInt8 := [byteAt c 0, byteAt c 1, byteAt c 2, byteAt c 3]
def sealB (l : List UInt8) : List UInt8 := l ++ le4 (crc l)
def openB (l : List UInt8) : List UInt8 × Nat := if l.length < 4 then ([], 3) else if sealB (l.take (l.length - 4)) = l then (l.take (l.length - 4), 0) else ([], 14)
theorem sealB_length (l : List UInt8) : (sealB l).length = l.length + 4 := by simp [sealB, le4]

theorem le4_bits (c : Nat) : [Value.int .u8 (IntKind.u8.wrap (c : Int)), Value.int .u8 (IntKind.u8.wrap ((c : Int) / 2 ^ Int.toNat 8)), Value.int .u8 (IntKind.u8.wrap ((c : Int) / 2 ^ Int.toNat 16)), Value.int .u8 (IntKind.u8.wrap ((c : Int) / 2 ^ Int.toNat 24))] = (le4 c).map U8 := by
  have h0 := wrap_u8_byte c 0
  have h1 := wrap_u8_byte c 1
  have h2 := wrap_u8_byte c 2
  have h3 := wrap_u8_byte c 3
  rw [← shr_byte] at h1 h2 h3
  have e0 : (c / 256 ^ 0 : Nat) = c := by simp
  rw [e0] at h0
  have e1 : ((8 : Int) * ((1 : Nat) : Int)).toNat = Int.toNat 8 := rfl
  have e2 : ((8 : Int) * ((2 : Nat) : Int)).toNat = Int.toNat 16 := rfl
  have e3 : ((8 : Int) * ((3 : Nat) : Int)).toNat = Int.toNat 24 := rfl
  rw [e1] at h1
  rw [e2] at h2
  rw [e3] at h3
  rw [h0, h1, h2, h3]
  rfl
theorem New.of {w w1 w2 w3 : World} {k : Nat} (h : Grow (New w w1) w2 w3 k) (h1 : w.heap.size ≤ w2.heap.size) (h2 : w1.heap.size ≤ w3.heap.size) : New w w3 k := by
  rcases h with h | h
  · exact ⟨h.1, by have := h.2; omega⟩
  · exact ⟨by have := h.1; omega, h.2⟩

theorem seal_ok {w : World} {F : Nat → Prop} {v : Value} {n : Nat} {l : List UInt8} (hr : Rd w F v n 1 (l.map U8)) (hl : l.length ≤ 140737488355000) :
    Ret Try.prog 51 #[v] w fun v' w' => Own w' (New w w') 5 1 v' (sealB l).length ((sealB l).map U8) ∧ Upd No w w' := by
  have hn := hr.lenB
  subst hn
  refine enterRet (vs := [_]) (N := 21) Try.func51 rfl rfl rfl ?_
  refine WC.keep [(0, _)] ⟨rfl, trivial⟩ ?_
  refine WC.seq ?_
  refine WC.region ?_
  refine WL.val rfl rfl rfl rfl (r_assign rfl ev_c) ?_
  refine WL.nil ?_
  refine WX.keep [(0, _)] ⟨rfl, trivial⟩ ?_
  refine WX.next ?_
  refine WC.seq ?_
  refine WC.region ?_
  refine WL.val rfl rfl rfl rfl (r_move rfl (ev_t rfl)) ?_
  refine WL.cons (SO.call (sum_ok hr) rfl body_67 ⟨(ev_t rfl), trivial⟩ rfl rfl rfl rfl ?_)
  rintro v1 w1 ⟨rfl, rfl⟩
  refine WL.val rfl rfl rfl rfl (r_assign rfl (ev_t rfl)) ?_
  refine WL.nil ?_
  refine WX.keep [(0, _), (3, _)] ⟨rfl, rfl, trivial⟩ ?_
  refine WX.next ?_
  refine WC.seq ?_
  refine WC.region ?_
  refine WL.val rfl rfl rfl rfl (r_move rfl (ev_t rfl)) ?_
  refine WL.cons (SO.call (clone_ok hr) rfl body_42 ⟨(ev_t rfl), trivial⟩ rfl rfl rfl rfl ?_)
  rintro v2 w2 ⟨ho, hu2⟩
  refine WL.val rfl rfl rfl rfl (r_move rfl (ev_t rfl)) ?_
  refine WL.val rfl rfl rfl rfl (r_conv rfl (ev_t rfl) some_121 int_5) ?_
  refine WL.val rfl rfl rfl rfl (r_move rfl (ev_t rfl)) ?_
  refine WL.val rfl rfl rfl rfl (r_shr rfl (ev_t rfl) ev_c (by omega) (by simp only [IntKind.bits]; omega)) ?_
  refine WL.val rfl rfl rfl rfl (r_conv rfl (ev_t rfl) some_121 int_5) ?_
  refine WL.val rfl rfl rfl rfl (r_move rfl (ev_t rfl)) ?_
  refine WL.val rfl rfl rfl rfl (r_shr rfl (ev_t rfl) ev_c (by omega) (by simp only [IntKind.bits]; omega)) ?_
  refine WL.val rfl rfl rfl rfl (r_conv rfl (ev_t rfl) some_121 int_5) ?_
  refine WL.val rfl rfl rfl rfl (r_move rfl (ev_t rfl)) ?_
  refine WL.val rfl rfl rfl rfl (r_shr rfl (ev_t rfl) ev_c (by omega) (by simp only [IntKind.bits]; omega)) ?_
  refine WL.val rfl rfl rfl rfl (r_conv rfl (ev_t rfl) some_121 int_5) ?_
  refine WL.cons (SO.alloc rfl rfl rfl rfl (r_buildSlice1 (vs := [_, _, _, _]) rfl ⟨(ev_t rfl), (ev_t rfl), (ev_t rfl), (ev_t rfl), trivial⟩ rfl row_22 rfl rfl) ?_)
  intro w3 hu3 hB3 hz3
  have hs3 := hu3.size
  replace ho := ho.updA hu3
  refine WL.cons (SO.append ho (Rd.of_blk (F := At _) (n := 4) (sz := 1) hB3 rfl rfl (by omega)) row_22 (by intro u hu; simp at hu; rcases hu with rfl | rfl | rfl | rfl <;> rfl) (le_maxLen (by omega)) (by omega) rfl (ev_t rfl) (ev_t rfl) rfl rfl rfl rfl ?_)
  intro v4 w4 ho hu4
  have hs4 := hu4.size
  obtain ⟨A4, c4, rfl, hc4⟩ := Own.form ho
  refine WL.val rfl rfl rfl rfl (r_assign rfl (ev_t rfl)) ?_
  refine WL.nil ?_
  refine WX.keep [(2, _)] ⟨rfl, trivial⟩ ?_
  refine WX.next ?_
  refine WC.ret ?_
  refine WX.retE1 rfl rfl ?_
  rw [show (#[Value.int .u8 (IntKind.u8.wrap (crc l : Int)), Value.int .u8 (IntKind.u8.wrap ((crc l : Int) / 2 ^ Int.toNat 8)), Value.int .u8 (IntKind.u8.wrap ((crc l : Int) / 2 ^ Int.toNat 16)), Value.int .u8 (IntKind.u8.wrap ((crc l : Int) / 2 ^ Int.toNat 24))] : Array Value).toList = (le4 (crc l)).map U8 from le4_bits _, ← List.map_append] at ho
  have h2 := hu2.size
  have h4 := hu4.size
  refine ⟨?_, (hu2.trans_same hu3).fresh hu4 (fun k hk => hk.1)⟩
  rw [sealB_length]
  exact ho.mono fun k hk => New.of hk (by omega) (by omega)

theorem open_ok {w : World} {F : Nat → Prop} {v : Value} {n : Nat} {l : List UInt8} (hr : Rd w F v n 1 (l.map U8)) (hl : l.length ≤ 140737488355000) :
    Ret Try.prog 55 #[v] w fun v' w' => ∃ u, v' = .tuple #[u, .int .i64 ((openB l).2 : Int)] ∧ Own w' (New w w') 5 1 u (openB l).1.length ((openB l).1.map U8) ∧ Upd No w w' := by
  obtain ⟨A, c, rfl, hle⟩ := hr.slice_form
  have hn := hr.lenB
  subst hn
  replace hr := hr.bound
  refine enterRet (vs := [_]) (N := 21) Try.func55 rfl rfl rfl ?_
  refine WC.keep [(0, _)] ⟨rfl, trivial⟩ ?_
  refine WC.seq ?_
  refine WC.region ?_
  refine WL.val rfl rfl rfl rfl (r_assign rfl ev_c) ?_
  refine WL.val rfl rfl rfl rfl (r_assign rfl ev_c) ?_
  refine WL.nil ?_
  refine WX.keep [(0, _)] ⟨rfl, trivial⟩ ?_
  refine WX.next ?_
  refine WC.seq ?_
  refine WC.region ?_
  refine WL.val rfl rfl rfl rfl (r_move rfl (ev_t rfl)) ?_
  refine WL.val rfl rfl rfl rfl (r_lenSlice (ts := #[]) rfl (ev_t rfl) elem_22) ?_
  first | refine WL.val rfl rfl rfl rfl (r_subN rfl (ev_t rfl) ev_c (by simp only [inK]; omega)) ?_ | refine WL.val rfl rfl rfl rfl (r_sub rfl (ev_t rfl) ev_c) ?_
  refine WL.val rfl rfl rfl rfl (r_assign rfl (ev_t rfl)) ?_
  refine WL.nil ?_
  refine WX.keep [(0, _), (4, _)] ⟨rfl, rfl, trivial⟩ ?_
  refine WX.next ?_
  refine WC.seq ?_
  refine WC.seq ?_
  refine WC.region ?_
  refine WL.val rfl rfl rfl rfl (r_move rfl (ev_t rfl)) ?_
  refine WL.val rfl rfl rfl rfl (r_lss rfl (ev_t rfl) ev_c) ?_
  refine WL.nil ?_
  refine WX.keep [(0, _), (4, _), (9, _)] ⟨rfl, rfl, rfl, trivial⟩ ?_
  refine WX.next ?_
  refine WC.cond rfl (ev_t rfl) (fun hc2 => ?_) (fun hc2 => ?_)
  · try (exfalso; first | (simp at hc2; done) | (simp only [decide_eq_true_eq, decide_eq_false_iff_not, Bool.not_eq_true', Bool.not_eq_false', Bool.not_eq_true, Bool.not_eq_false] at hc2; omega) | omega)
    all_goals
     try simp only [decide_eq_true_eq, decide_eq_false_iff_not, Bool.not_eq_true', Bool.not_eq_false', Bool.not_eq_true, Bool.not_eq_false, Option.isNone_none, Option.isNone_some, Option.isSome_none, Option.isSome_some, ne_eq, Decidable.not_not] at hc2
     refine WC.seq ?_
     refine WC.region ?_
     refine WL.val rfl rfl rfl rfl (r_assign rfl ev_c) ?_
     refine WL.val rfl rfl rfl rfl (r_assign rfl ev_c) ?_
     refine WL.nil ?_
     refine WX.keep [(2, _), (3, _)] ⟨rfl, rfl, trivial⟩ ?_
     refine WX.next ?_
     refine WC.ret ?_
     refine WX.thenRet ?_
     refine WX.retE2 rfl rfl rfl ?_
     have ho : openB l = ([], 3) := by unfold openB; rw [if_pos (by omega)]
     rw [ho]
     exact ⟨_, rfl, Own.nil _ _ _ _, Upd.refl _ _⟩
  · try (exfalso; first | (simp at hc2; done) | (simp only [decide_eq_true_eq, decide_eq_false_iff_not, Bool.not_eq_true', Bool.not_eq_false', Bool.not_eq_true, Bool.not_eq_false] at hc2; omega) | omega)
    all_goals
     try simp only [decide_eq_true_eq, decide_eq_false_iff_not, Bool.not_eq_true', Bool.not_eq_false', Bool.not_eq_true, Bool.not_eq_false, Option.isNone_none, Option.isNone_some, Option.isSome_none, Option.isSome_some, ne_eq, Decidable.not_not] at hc2
     obtain ⟨n, hn⟩ : ∃ n : Nat, l.length = n + 4 := ⟨l.length - 4, by omega⟩
     have hcut : ((l.length : Nat) : Int) - 4 = (n : Int) := by omega
     rw [hcut]
     refine WC.skip ?_
     refine WX.next ?_
     refine WC.seq ?_
     refine WC.seq ?_
     refine WC.region ?_
     refine WL.val rfl rfl rfl rfl (r_move rfl (ev_t rfl)) ?_
     refine WL.val rfl rfl rfl rfl (r_move rfl (ev_t rfl)) ?_
     refine WL.val rfl rfl rfl rfl (r_slice (l := 0) (h := n) rfl (ev_t rfl) elem_22 size_5 bnd_none (bnd_some (ev_t rfl) (by omega)) (by omega) (by omega) (by omega)) ?_
     refine WL.cons (SO.call (seal_ok (l := l.take n) (by have := hr.sliceB (lo := 0) (h := n) (by omega) (by omega); simpa using this) (by rw [List.length_take]; omega)) rfl body_51 ⟨(ev_t rfl), trivial⟩ rfl rfl rfl rfl ?_)
     rintro v1 w1 ⟨ho, hu1⟩
     have hs1 := hu1.size
     replace hr := hr.updA hu1
     refine WL.val rfl rfl rfl rfl (r_move rfl (ev_t rfl)) ?_
     refine WL.cons (SO.call (equal_ok (ho.rd (by rw [sealB_length, List.length_take]; omega)) hr) rfl body_68 ⟨(ev_t rfl), (ev_t rfl), trivial⟩ rfl rfl rfl rfl ?_)
     rintro v2 w2 ⟨rfl, hu2⟩
     have hs2 := hu2.size
     replace hr := hr.updA hu2
     replace ho := ho.updA hu2
     refine WL.val rfl rfl rfl rfl (r_not rfl (ev_t rfl)) ?_
     refine WL.nil ?_
     refine WX.keep [(0, _), (4, _), (16, _)] ⟨rfl, rfl, rfl, trivial⟩ ?_
     refine WX.next ?_
     refine WC.cond rfl (ev_t rfl) (fun hc4 => ?_) (fun hc4 => ?_)
     · try (exfalso; first | (simp at hc4; done) | (simp only [decide_eq_true_eq, decide_eq_false_iff_not, Bool.not_eq_true', Bool.not_eq_false', Bool.not_eq_true, Bool.not_eq_false] at hc4; omega) | omega)
       all_goals
        try simp only [decide_eq_true_eq, decide_eq_false_iff_not, Bool.not_eq_true', Bool.not_eq_false', Bool.not_eq_true, Bool.not_eq_false, Option.isNone_none, Option.isNone_some, Option.isSome_none, Option.isSome_some, ne_eq, Decidable.not_not] at hc4
        refine WC.seq ?_
        refine WC.region ?_
        refine WL.val rfl rfl rfl rfl (r_assign rfl ev_c) ?_
        refine WL.val rfl rfl rfl rfl (r_assign rfl ev_c) ?_
        refine WL.nil ?_
        refine WX.keep [(2, _), (3, _)] ⟨rfl, rfl, trivial⟩ ?_
        refine WX.next ?_
        refine WC.ret ?_
        refine WX.thenRet ?_
        refine WX.retE2 rfl rfl rfl ?_
        have he : openB l = ([], 14) := by
          unfold openB
          rw [if_neg (by omega), show l.length - 4 = n by omega, if_neg hc4]
        rw [he]
        exact ⟨_, rfl, Own.nil _ _ _ _, hu1.trans_same hu2⟩
     · try (exfalso; first | (simp at hc4; done) | (simp only [decide_eq_true_eq, decide_eq_false_iff_not, Bool.not_eq_true', Bool.not_eq_false', Bool.not_eq_true, Bool.not_eq_false] at hc4; omega) | omega)
       all_goals
        try simp only [decide_eq_true_eq, decide_eq_false_iff_not, Bool.not_eq_true', Bool.not_eq_false', Bool.not_eq_true, Bool.not_eq_false, Option.isNone_none, Option.isNone_some, Option.isSome_none, Option.isSome_some, ne_eq, Decidable.not_not] at hc4
        refine WC.skip ?_
        refine WX.next ?_
        refine WC.seq ?_
        refine WC.region ?_
        refine WL.val rfl rfl rfl rfl (r_move rfl (ev_t rfl)) ?_
        refine WL.val rfl rfl rfl rfl (r_move rfl (ev_t rfl)) ?_
        refine WL.val rfl rfl rfl rfl (r_slice (l := 0) (h := n) rfl (ev_t rfl) elem_22 size_5 bnd_none (bnd_some (ev_t rfl) (by omega)) (by omega) (by omega) (by omega)) ?_
        refine WL.cons (SO.call (clone_ok (l := l.take n) (n := n - 0) (by have := hr.sliceB (lo := 0) (h := n) (by omega) (by omega); simpa using this)) rfl body_42 ⟨(ev_t rfl), trivial⟩ rfl rfl rfl rfl ?_)
        rintro v3 w3 ⟨ho3, hu3⟩
        refine WL.val rfl rfl rfl rfl (r_assign rfl (ev_t rfl)) ?_
        refine WL.val rfl rfl rfl rfl (r_assign rfl ev_c) ?_
        refine WL.nil ?_
        refine WX.keep [(2, _), (3, _)] ⟨rfl, rfl, trivial⟩ ?_
        refine WX.next ?_
        refine WC.ret ?_
        refine WX.retE2 rfl rfl rfl ?_
        have he : openB l = (l.take n, 0) := by
          unfold openB
          rw [if_neg (by omega), show l.length - 4 = n by omega, if_pos hc4]
        rw [he]
        have hlt : (l.take n).length = n := by rw [List.length_take]; omega
        have h1 := hu1.size
        have h2 := hu2.size
        refine ⟨_, rfl, ?_, (hu1.trans_same hu2).trans_same hu3⟩
        show Own _ _ _ _ _ (l.take n).length _
        rw [hlt]
        exact ho3.mono fun k hk => ⟨by have := hk.1; omega, hk.2⟩
end Go.Proofs.Ytejlmcdmoghmaaa
