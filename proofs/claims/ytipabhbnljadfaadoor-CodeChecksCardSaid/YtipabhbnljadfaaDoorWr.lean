/-
  octet.Writer: Uint.
-/
import Derived.Test.YtipabhbnljadfaaDoorRs
namespace Go.Proofs.YtipabhbnljadfaaDoor
open Go
set_option linter.unusedSimpArgs false
set_option linter.unusedVariables false

/-- a writer at block g that has laid l; its blocks are of M -/
def IsW (w : World) (M : Nat → Prop) (g : Nat) (l : List UInt8) : Prop :=
  ∃ v F, Blk w g #[v] 47 ∧ Own w F 5 1 v l.length (l.map U8) ∧ ¬ F g ∧ M g ∧ ∀ k, F k → M k

theorem IsW.upd {w w' : World} {M S : Nat → Prop} {g : Nat} {l : List UInt8} (h : IsW w M g l) (hu : Upd S w w') (hM : ∀ k, M k → k < w.heap.size → ¬ S k) : IsW w' M g l := by
  obtain ⟨v, F, hb, ho, hn, hg, hF⟩ := h
  exact ⟨v, F, hb.upd hu (hM g hg hb.lt), ho.upd hu (fun k hk hl => hM k (hF k hk) hl), hn, hg, hF⟩
theorem IsW.lt {w : World} {M : Nat → Prop} {g : Nat} {l : List UInt8} (h : IsW w M g l) : g < w.heap.size := by
  obtain ⟨v, F, hb, _⟩ := h
  exact hb.lt
theorem IsW.mono {w : World} {M M' : Nat → Prop} {g : Nat} {l : List UInt8} (h : IsW w M g l) (hM : ∀ k, M k → M' k) : IsW w M' g l := by
  obtain ⟨v, F, hb, ho, hn, hg, hF⟩ := h
  exact ⟨v, F, hb, ho, hn, hM g hg, fun k hk => hM k (hF k hk)⟩
theorem IsW.of {w : World} {M : Nat → Prop} {g : Nat} (hb : Blk w g #[.slice none 0 0] 47) (hg : M g) : IsW w M g [] :=
  ⟨_, fun _ => False, hb, Own.nil _ _ _ _, fun h => h, hg, fun _ h => h.elim⟩
theorem Grow.two {M S S' : Nat → Prop} {w w1 w2 : World} (h : Upd S w w1) (h' : Upd S' w1 w2) (k : Nat) (hk : Grow (Grow M w w1) w1 w2 k) : Grow M w w2 k := Grow.trans h.size h'.size hk
theorem Upd.two {M : Nat → Prop} {w w1 w2 : World} (h : Upd M w w1) (h' : Upd (Grow M w w1) w1 w2) : Upd M w w2 :=
  h.trans h' fun k hk hG => by
    rcases hG with hG | hG
    · exact hG
    · omega

/-- more bytes: an append, a store -/
theorem IsW.put {w w1 w2 w3 : World} {F M : Nat → Prop} {g n : Nat} {l m : List UInt8} {v' : Value} {xs : List Value} {cs : Array Value} (hg : g < w.heap.size) (hFg : ¬ F g) (hMg : M g) (hFM : ∀ k, F k → M k) (hu1 : Upd No w w1) (hx : xs = m.map U8)
    (ho : Own w3 (Grow F w1 w2) 5 1 v' n (l.map U8 ++ xs)) (hn : n = l.length + m.length) (hu2 : Upd F w1 w2) (hu3 : Upd (At g) w2 w3) (hb : Blk w3 g (cs.setIfInBounds 0 v') 47) (hcs : cs.size = 1) :
    IsW w3 (Grow M w w3) g (l ++ m) ∧ Upd M w w3 := by
  have h1 := hu1.size
  have h2 := hu2.size
  have h3 := hu3.size
  refine ⟨⟨v', Grow F w1 w2, ?_, ?_, Grow.old (by omega) hFg, .inl hMg, fun k hk => ?_⟩, ?_⟩
  · have : cs.setIfInBounds 0 v' = #[v'] := by
      obtain ⟨l⟩ := cs
      match l, hcs with
      | [a], _ => rfl
    rw [← this]; exact hb
  · subst hx hn
    simpa using ho
  · rcases hk with hk | hk
    · exact .inl (hFM k hk)
    · exact .inr ⟨by omega, by omega⟩
  · refine (hu1.no.trans_same (hu2.mono fun k _ hk => hFM k hk)).trans_same (hu3.mono fun k _ hk => ?_)
    simp only [At] at hk
    subst hk
    exact hMg

theorem wuint_ok {w : World} {M : Nat → Prop} {g n : Nat} {l : List UInt8} (h : IsW w M g l) (hn : n < 18446744073709551616) (hl : l.length ≤ 140737488355000) :
    Ret Tryd.prog 28 #[.pointer (some ⟨g, 0, none⟩), .int .u64 (n : Int)] w fun v w' =>
      v = .pointer (some ⟨g, 0, none⟩) ∧ IsW w' (Grow M w w') g (l ++ encU n) ∧ Upd M w w' := by
  have hgl := h.lt
  obtain ⟨v, F, hb, ho, hFg, hMg, hFM⟩ := h
  have hbl : blen n ≤ 8 := blen_le (by simpa using hn)
  have key := fun i => lt_blen i n
  refine enterRet (vs := [_, _]) (N := 49) Tryd.func28 rfl rfl rfl ?_
  refine WC.keep [(0, _), (1, _)] ⟨rfl, rfl, trivial⟩ ?_
  refine WC.seq ?_
  refine WC.region ?_
  refine WL.val rfl rfl rfl rfl (r_assign rfl ev_c) ?_
  refine WL.nil ?_
  refine WX.keep [(0, _), (1, _)] ⟨rfl, rfl, trivial⟩ ?_
  refine WX.next ?_
  refine WC.seq ?_
  refine WC.region ?_
  refine WL.val rfl rfl rfl rfl (r_assign rfl ev_c) ?_
  refine WL.nil ?_
  refine WX.keep [(0, _), (1, _), (5, _)] ⟨rfl, rfl, rfl, trivial⟩ ?_
  refine WX.next ?_
  refine WC.seq ?_
  refine WC.block ?_
  -- loop 1: live [0, 1, 5]
  refine WC.keep [(0, _), (1, _), (5, _)] ⟨rfl, rfl, rfl, trivial⟩ ?_
  refine WC.loop (fun m E w' => ∃ i : Nat, i ≤ blen n ∧ m = blen n - i ∧ w = w' ∧ E = [(0, .pointer (some ⟨g, 0, none⟩)), (1, .int .u64 (n : Int)), (5, .int .i64 (i : Int))]) (blen n) ?_ ?_
  · exact ⟨0, by omega, by omega, rfl, rfl⟩
  · rintro m E w' ⟨i, hi, rfl, rfl, rfl⟩
    have hki := key i
    refine WC.seq ?_
    refine WC.seq ?_
    refine WC.region ?_
    refine WL.val rfl rfl rfl rfl (r_move rfl (ev_t rfl)) ?_
    refine WL.val rfl rfl rfl rfl (r_move rfl (ev_t rfl)) ?_
    first | refine WL.val rfl rfl rfl rfl (r_mulN rfl ev_c (ev_t rfl) (by simp only [inK]; omega)) ?_ | refine WL.val rfl rfl rfl rfl (r_mul rfl ev_c (ev_t rfl)) ?_
    refine WL.val rfl rfl rfl rfl (r_shr rfl (ev_t rfl) (ev_t rfl) (by omega) (by simp only [IntKind.bits]; omega)) ?_
    refine WL.val rfl rfl rfl rfl (r_gtr rfl (ev_t rfl) ev_c) ?_
    refine WL.val rfl rfl rfl rfl (r_move rfl (ev_t rfl)) ?_
    refine WL.cases 11 rfl (fun hb2_5 => ?_) (fun hb2_5 => ?_)
    · try (exfalso; first | (simp at hb2_5; done) | (simp only [decide_eq_true_eq, decide_eq_false_iff_not, Bool.not_eq_true', Bool.not_eq_false', Bool.not_eq_true, Bool.not_eq_false] at hb2_5; omega) | omega)
      all_goals
       try simp only [decide_eq_true_eq, decide_eq_false_iff_not, Bool.not_eq_true', Bool.not_eq_false', Bool.not_eq_true, Bool.not_eq_false, Option.isNone_none, Option.isNone_some, Option.isSome_none, Option.isSome_some, ne_eq, Decidable.not_not] at hb2_5
       rw [shr_byte] at hb2_5
       refine WL.val rfl rfl rfl rfl (r_move rfl (ev_t rfl)) ?_
       refine WL.val rfl rfl rfl rfl (r_lss rfl (ev_t rfl) ev_c) ?_
       refine WL.val rfl rfl rfl rfl (r_pickT rfl (ev_t rfl) (ev_t rfl)) ?_
       refine WL.nil ?_
       refine WX.keep [(0, _), (1, _), (5, _), (14, _)] ⟨rfl, rfl, rfl, rfl, trivial⟩ ?_
       refine WX.next ?_
       refine WC.cond rfl (ev_t rfl) (fun hc2 => ?_) (fun hc2 => ?_)
       · try (exfalso; first | (simp at hc2; done) | (simp only [decide_eq_true_eq, decide_eq_false_iff_not, Bool.not_eq_true', Bool.not_eq_false', Bool.not_eq_true, Bool.not_eq_false] at hc2; omega) | omega)
         all_goals
          try simp only [decide_eq_true_eq, decide_eq_false_iff_not, Bool.not_eq_true', Bool.not_eq_false', Bool.not_eq_true, Bool.not_eq_false, Option.isNone_none, Option.isNone_some, Option.isSome_none, Option.isSome_some, ne_eq, Decidable.not_not] at hc2
          refine WC.skip ?_
          refine WX.next ?_
          refine WC.block ?_
          refine WC.region ?_
          refine WL.val rfl rfl rfl rfl (r_move rfl (ev_t rfl)) ?_
          first | refine WL.val rfl rfl rfl rfl (r_addN rfl (ev_t rfl) ev_c (by simp only [inK]; omega)) ?_ | refine WL.val rfl rfl rfl rfl (r_add rfl (ev_t rfl) ev_c) ?_
          refine WL.val rfl rfl rfl rfl (r_assign rfl (ev_t rfl)) ?_
          refine WL.nil ?_
          refine WX.keep [(0, _), (1, _), (5, _)] ⟨rfl, rfl, rfl, trivial⟩ ?_
          refine WX.blockNormal ?_
          refine WX.meet [(0, _), (1, _), (5, _)] ⟨rfl, rfl, rfl, trivial⟩ ?_
          exact ⟨blen n - (i + 1), by omega, i + 1, by omega, rfl, rfl, rfl⟩
       · try simp only [decide_eq_true_eq, decide_eq_false_iff_not, Bool.not_eq_true', Bool.not_eq_false', Bool.not_eq_true, Bool.not_eq_false, Option.isNone_none, Option.isNone_some, Option.isSome_none, Option.isSome_some, ne_eq, Decidable.not_not] at hc2
         exfalso
         exact absurd (hki.2 (by exact_mod_cast hb2_5)) (by omega)
    · try (exfalso; first | (simp at hb2_5; done) | (simp only [decide_eq_true_eq, decide_eq_false_iff_not, Bool.not_eq_true', Bool.not_eq_false', Bool.not_eq_true, Bool.not_eq_false] at hb2_5; omega) | omega)
      all_goals
       try simp only [decide_eq_true_eq, decide_eq_false_iff_not, Bool.not_eq_true', Bool.not_eq_false', Bool.not_eq_true, Bool.not_eq_false, Option.isNone_none, Option.isNone_some, Option.isSome_none, Option.isSome_some, ne_eq, Decidable.not_not] at hb2_5
       rw [shr_byte] at hb2_5
       obtain rfl : i = blen n := by omega
       refine WL.skip rfl rfl rfl ?_
       refine WL.skip rfl rfl rfl ?_
       refine WL.val rfl rfl rfl rfl (r_pickF rfl (ev_t rfl) ev_c) ?_
       refine WL.nil ?_
       refine WX.keep [(0, _), (1, _), (5, _), (14, _)] ⟨rfl, rfl, rfl, rfl, trivial⟩ ?_
       refine WX.next ?_
       refine WC.cond_false rfl (ev_t rfl) ?_
       refine WC.exit ?_
       refine WX.thenExit ?_
       refine WX.thenExit ?_
       refine WX.blockHere ?_
       refine WX.next ?_
       refine WC.seq ?_
       refine WC.region ?_
       refine WL.val rfl rfl rfl rfl (r_move rfl (ev_t rfl)) ?_
       refine WL.val rfl rfl rfl rfl (r_move rfl (ev_t rfl)) ?_
       refine WL.val rfl rfl rfl rfl (r_nilCheck rfl (ev_t rfl)) ?_
       first | refine WL.val rfl rfl rfl rfl (r_field0 rfl (ev_t rfl) fld_47_0) ?_ | refine WL.val rfl rfl rfl rfl (r_fieldAt rfl (ev_t rfl) fld_47_0) ?_
       refine WL.val rfl rfl rfl rfl (r_load rfl (ev_t rfl) flat_30 (Blk.cell hb rfl)) ?_
       refine WL.val rfl rfl rfl rfl (r_move rfl (ev_t rfl)) ?_
       first | refine WL.val rfl rfl rfl rfl (r_convN rfl (ev_t rfl) some_3 int_5 (by simp only [inK]; omega)) ?_ | refine WL.val rfl rfl rfl rfl (r_conv rfl (ev_t rfl) some_3 int_5) ?_
       refine WL.cons (SO.alloc rfl rfl rfl rfl (r_buildSlice1 (vs := [_]) rfl ⟨(ev_t rfl), trivial⟩ rfl row_30 rfl rfl) ?_)
       intro w1 hu1 hB1 hz1
       have hs1 := hu1.size
       replace hb := hb.updA hu1
       replace ho := ho.updA hu1
       refine WL.cons (SO.append ho (Rd.of_blk (F := At _) (n := 1) (sz := 1) hB1 rfl rfl (by omega)) row_30 (oneCell_one rfl) (le_maxLen (by omega)) (by omega) rfl (ev_t rfl) (ev_t rfl) rfl rfl rfl rfl ?_)
       intro v2 w2 ho hu2
       have hs2 := hu2.size
       replace hb := hb.updA hu2
       obtain ⟨A2, c2, rfl, hc2⟩ := Own.form ho
       refine WL.val rfl rfl rfl rfl (r_nilCheck rfl (ev_t rfl)) ?_
       first | refine WL.val rfl rfl rfl rfl (r_field0 rfl (ev_t rfl) fld_47_0) ?_ | refine WL.val rfl rfl rfl rfl (r_fieldAt rfl (ev_t rfl) fld_47_0) ?_
       refine WL.cons (SO.store rfl (ev_t rfl) (ev_t rfl) size_30 hb rfl rfl rfl rfl rfl ?_)
       intro w3 hu3 hb hz3
       have hs3 := hu3.size
       replace ho := ho.updA hu3
       refine WL.nil ?_
       refine WX.keep [(0, _), (1, _), (5, _)] ⟨rfl, rfl, rfl, trivial⟩ ?_
       obtain ⟨hI, hU⟩ := IsW.put (m := [UInt8.ofNat (blen n)]) hgl hFg hMg hFM hu1 (by simp [U8]; omega) ho rfl hu2 hu3 hb rfl
       refine WX.next ?_
       refine WC.seq ?_
       refine WC.seq ?_
       refine WC.region ?_
       refine WL.val rfl rfl rfl rfl (r_move rfl (ev_t rfl)) ?_
       first | refine WL.val rfl rfl rfl rfl (r_subN rfl (ev_t rfl) ev_c (by simp only [inK]; omega)) ?_ | refine WL.val rfl rfl rfl rfl (r_sub rfl (ev_t rfl) ev_c) ?_
       refine WL.val rfl rfl rfl rfl (r_assign rfl (ev_t rfl)) ?_
       refine WL.nil ?_
       refine WX.keep [(0, _), (1, _), (5, _)] ⟨rfl, rfl, rfl, trivial⟩ ?_
       refine WX.next ?_
       refine WC.block ?_
       -- loop 2: live [0, 1, 5]
       refine WC.keep [(0, _), (1, _), (5, _)] ⟨rfl, rfl, rfl, trivial⟩ ?_
       refine WC.loop (fun k E w2 => k ≤ blen n ∧ E = [(0, .pointer (some ⟨g, 0, none⟩)), (1, .int .u64 (n : Int)), (5, .int .i64 ((k : Int) - 1))] ∧ Upd M w w2 ∧ ∃ acc, acc ++ beB n k = encU n ∧ IsW w2 (Grow M w w2) g (l ++ acc)) (blen n) ?_ ?_
       · exact ⟨Nat.le_refl _, rfl, hU, _, rfl, hI⟩
       · rintro k E w2 ⟨hk, rfl, hU, acc, hacc, hI⟩
         have hal := congrArg List.length hacc
         rw [List.length_append, beB_length, encU_length] at hal
         have hgl2 := hI.lt
         have hI0 := hI
         have hla : (l ++ acc).length = l.length + acc.length := List.length_append
         obtain ⟨v2, F2, hb, ho, hFg2, hMg2, hFM2⟩ := hI
         refine WC.seq ?_
         refine WC.seq ?_
         refine WC.region ?_
         refine WL.val rfl rfl rfl rfl (r_move rfl (ev_t rfl)) ?_
         refine WL.val rfl rfl rfl rfl (r_geq rfl (ev_t rfl) ev_c) ?_
         refine WL.nil ?_
         refine WX.keep [(0, _), (1, _), (5, _), (31, _)] ⟨rfl, rfl, rfl, rfl, trivial⟩ ?_
         refine WX.next ?_
         refine WC.cond rfl (ev_t rfl) (fun hc6 => ?_) (fun hc6 => ?_)
         · try (exfalso; first | (simp at hc6; done) | (simp only [decide_eq_true_eq, decide_eq_false_iff_not, Bool.not_eq_true', Bool.not_eq_false', Bool.not_eq_true, Bool.not_eq_false] at hc6; omega) | omega)
           all_goals
            try simp only [decide_eq_true_eq, decide_eq_false_iff_not, Bool.not_eq_true', Bool.not_eq_false', Bool.not_eq_true, Bool.not_eq_false, Option.isNone_none, Option.isNone_some, Option.isSome_none, Option.isSome_some, ne_eq, Decidable.not_not] at hc6
            obtain ⟨j, rfl⟩ : ∃ j, k = j + 1 := ⟨k - 1, by omega⟩
            refine WC.skip ?_
            refine WX.next ?_
            refine WC.seq ?_
            refine WC.block ?_
            refine WC.draws' (fun u0_ u1_ => Upd No u0_ u1_) (fun j => [0, 0, 0, 0, 0, 0, 0, 0, 0, 0, 1, 2, 0, 0, 2].getD j 0) (.calm 0 (.calm 1 (.calm 2 (.calm 3 (.calm 5 (.calm 6 (.calm 7 (.calm 8 (.calm 9 (.held 4 (.one 10 (.one 11 (.calm 12 (.calm 13 (.one 14 (.done)))))))))))))))) mixed (by kernel_rfl) (by repeat (first | with_reducible exact Deaf.body | with_reducible apply Deaf.then | with_reducible apply Deaf.block)) ?_
            intro w4 hu4
            have hz4 := congrArg Array.size hu4.2.2.2
            replace hu4 := Upd.of_draw hu4
            have hs4 := hu4.size
            replace hb := hb.updA hu4
            replace ho := ho.updA hu4
            have hS8 := Upd.refl No w4
            refine WN.calm _ rfl rfl rfl rfl rfl (fun _ => r_move rfl (ev_t rfl)) ?_
            refine WN.calm _ rfl rfl rfl rfl rfl (fun _ => r_move rfl (ev_t rfl)) ?_
            refine WN.calm _ rfl rfl rfl rfl rfl (fun _ => r_nilCheck rfl (ev_t rfl)) ?_
            first | refine WN.calm _ rfl rfl rfl rfl rfl (fun _ => r_field0 rfl (ev_t rfl) fld_47_0) ?_ | refine WN.calm _ rfl rfl rfl rfl rfl (fun _ => r_fieldAt rfl (ev_t rfl) fld_47_0) ?_
            refine WN.calm _ rfl rfl rfl rfl rfl (fun _ => r_move rfl (ev_t rfl)) ?_
            refine WN.calm _ rfl rfl rfl rfl rfl (fun _ => r_move rfl (ev_t rfl)) ?_
            first | refine WN.calm _ rfl rfl rfl rfl rfl (fun _ => r_mulN rfl ev_c (ev_t rfl) (by simp only [inK]; omega)) ?_ | refine WN.calm _ rfl rfl rfl rfl rfl (fun _ => r_mul rfl ev_c (ev_t rfl)) ?_
            refine WN.calm _ rfl rfl rfl rfl rfl (fun _ => r_shr rfl (ev_t rfl) (ev_t rfl) (by omega) (by simp only [IntKind.bits]; omega)) ?_
            first | refine WN.calm _ rfl rfl rfl rfl rfl (fun _ => r_convN rfl (ev_t rfl) some_63 int_5 (by simp only [inK]; omega)) ?_ | refine WN.calm _ rfl rfl rfl rfl rfl (fun _ => r_conv rfl (ev_t rfl) some_63 int_5) ?_
            refine WN.held _ rfl rfl rfl rfl rfl hS8 (fun w' hS => r_load rfl (ev_t rfl) flat_30 (Blk.cell (hb.upd hS (fun h => h)) rfl)) ?_
            refine WN.step _ rfl (SO.alloc rfl rfl rfl rfl (r_buildSlice1 (vs := [_]) rfl ⟨(ev_t rfl), trivial⟩ rfl row_30 rfl rfl) ?_)
            intro w5 hu5 hB5 hz5
            have hs5 := hu5.size
            replace hS8 := Upd.transA hS8 hu5
            replace hb := hb.updA hu5
            replace ho := ho.updA hu5
            refine ⟨hS8, ?_⟩
            refine WN.step _ rfl (SO.append ho (Rd.of_blk (F := At _) (n := 1) (sz := 1) hB5 rfl rfl (by omega)) row_30 (oneCell_one rfl) (le_maxLen (by omega)) (by omega) rfl (ev_t rfl) (ev_t rfl) rfl rfl rfl rfl ?_)
            intro v6 w6 ho hu6
            have hs6 := hu6.size
            try replace hS8 := Upd.transA hS8 hu6
            replace hb := hb.updA hu6
            refine ⟨trivial, ?_⟩
            obtain ⟨A6, c6, rfl, hc6⟩ := Own.form ho
            refine WN.calm _ rfl rfl rfl rfl rfl (fun _ => r_nilCheck rfl (ev_t rfl)) ?_
            first | refine WN.calm _ rfl rfl rfl rfl rfl (fun _ => r_field0 rfl (ev_t rfl) fld_47_0) ?_ | refine WN.calm _ rfl rfl rfl rfl rfl (fun _ => r_fieldAt rfl (ev_t rfl) fld_47_0) ?_
            refine WN.step _ rfl (SO.store rfl (ev_t rfl) (ev_t rfl) size_30 hb rfl rfl rfl rfl rfl ?_)
            intro w7 hu7 hb hz7
            have hs7 := hu7.size
            try replace hS8 := Upd.transA hS8 hu7
            replace ho := ho.updA hu7
            refine ⟨trivial, ?_⟩
            refine WN.done ?_
            refine WX.keep [(0, _), (1, _), (5, _)] ⟨rfl, rfl, rfl, trivial⟩ ?_
            have hx : [Value.int .u8 (IntKind.u8.wrap ((n : Int) / 2 ^ ((8 : Int) * (((j + 1 : Nat) : Int) - 1)).toNat))] = [byteAt n j].map U8 := by
              rw [show ((j + 1 : Nat) : Int) - 1 = (j : Int) by omega, shr_byte, wrap_u8_byte]
              rfl
            obtain ⟨hI, hU'⟩ := IsW.put (m := [byteAt n j]) hgl2 hFg2 hMg2 hFM2 (hu4.trans_same hu5) hx ho rfl hu6 hu7 hb rfl
            refine WX.blockNormal ?_
            refine WX.next ?_
            refine WC.region ?_
            refine WL.val rfl rfl rfl rfl (r_move rfl (ev_t rfl)) ?_
            first | refine WL.val rfl rfl rfl rfl (r_subN rfl (ev_t rfl) ev_c (by simp only [inK]; omega)) ?_ | refine WL.val rfl rfl rfl rfl (r_sub rfl (ev_t rfl) ev_c) ?_
            refine WL.val rfl rfl rfl rfl (r_assign rfl (ev_t rfl)) ?_
            refine WL.nil ?_
            refine WX.keep [(0, _), (1, _), (5, _)] ⟨rfl, rfl, rfl, trivial⟩ ?_
            refine WX.meet [(0, _), (1, _), (5, _)] ⟨rfl, rfl, rfl, trivial⟩ ?_
            exact ⟨j, by omega, by omega, by simp <;> omega, hU.two hU', acc ++ [byteAt n j], by rw [← hacc]; simp [beB], by rw [← List.append_assoc]; exact hI.mono (Grow.two hU hU')⟩
         · try (exfalso; first | (simp at hc6; done) | (simp only [decide_eq_true_eq, decide_eq_false_iff_not, Bool.not_eq_true', Bool.not_eq_false', Bool.not_eq_true, Bool.not_eq_false] at hc6; omega) | omega)
           all_goals
            try simp only [decide_eq_true_eq, decide_eq_false_iff_not, Bool.not_eq_true', Bool.not_eq_false', Bool.not_eq_true, Bool.not_eq_false, Option.isNone_none, Option.isNone_some, Option.isSome_none, Option.isSome_some, ne_eq, Decidable.not_not] at hc6
            obtain rfl : k = 0 := by omega
            rw [beB, List.append_nil] at hacc
            subst hacc
            refine WC.exit ?_
            refine WX.thenExit ?_
            refine WX.thenExit ?_
            refine WX.blockHere ?_
            refine WX.next ?_
            refine WC.seq ?_
            refine WC.region ?_
            refine WL.val rfl rfl rfl rfl (r_move rfl (ev_t rfl)) ?_
            refine WL.val rfl rfl rfl rfl (r_assign rfl (ev_t rfl)) ?_
            refine WL.nil ?_
            refine WX.keep [(4, _)] ⟨rfl, trivial⟩ ?_
            refine WX.next ?_
            refine WC.ret ?_
            refine WX.retE1 rfl rfl ?_
            exact ⟨rfl, hI0, hU⟩
end Go.Proofs.YtipabhbnljadfaaDoor
