/-
  The reference's Sum, Seal, Open.
-/
import Derived.Test.YtjiafgnibhgfbaaRefP
import Derived.Test.YtjiafgnibhgfbaaSeal
namespace Go.Proofs.Ytjiafgnibhgfbaa
open Go
set_option linter.unusedSimpArgs false
set_option linter.unusedVariables false

theorem refSum_ok {w : World} {F : Nat → Prop} {v : Value} {n : Nat} {l : List UInt8} (hr : Rd w F v n 1 (l.map U8)) :
    Ret Try.prog 29 #[v] w fun v' w' => v' = .int .u32 (crc l : Int) ∧ w' = w := by
  obtain ⟨A, c, rfl, hle⟩ := hr.slice_form
  have hn := hr.lenB
  subst hn
  have hm := hr.le
  refine enterRet (vs := [_]) (N := 36) Try.func29 rfl rfl rfl ?_
  refine WC.keep [(0, _)] ⟨rfl, trivial⟩ ?_
  refine WC.seq ?_
  -- region 0 ref.go:89
  refine WC.region ?_
  refine WL.val rfl rfl rfl rfl (r_assign rfl ev_c) ?_
  refine WL.nil ?_
  refine WX.keep [(0, _)] ⟨rfl, trivial⟩ ?_
  refine WX.next ?_
  refine WC.seq ?_
  -- region 1 ref.go:90
  refine WC.region ?_
  refine WL.val rfl rfl rfl rfl (r_assign rfl ev_c) ?_
  refine WL.nil ?_
  refine WX.keep [(0, _), (3, _)] ⟨rfl, rfl, trivial⟩ ?_
  refine WX.next ?_
  refine WC.seq ?_
  refine WC.seq ?_
  -- region 2 ref.go:91
  refine WC.region ?_
  refine WL.val rfl rfl rfl rfl (r_assign rfl ev_c) ?_
  refine WL.nil ?_
  refine WX.keep [(0, _), (3, _), (4, _)] ⟨rfl, rfl, rfl, trivial⟩ ?_
  refine WX.next ?_
  refine WC.block ?_
  -- loop 1: live [0, 3, 4]
  refine WC.keep [(0, _), (3, _), (4, _)] ⟨rfl, rfl, rfl, trivial⟩ ?_
  refine WC.loop (fun m E w' => ∃ i : Nat, i ≤ l.length ∧ m = l.length - i ∧ w = w' ∧ E = [(0, .slice A l.length c), (3, .int .u32 ((l.take i).foldl crcB 4294967295 : Nat)), (4, .int .i64 (i : Int))]) (l.length) ?_ ?_
  · exact ⟨0, by omega, by omega, rfl, rfl⟩
  · rintro m E w' ⟨i, hi, rfl, rfl, rfl⟩
    have hc32 := foldl_crcB_lt (l.take i) (c := 4294967295) (by omega)
    generalize hcc : (l.take i).foldl crcB 4294967295 = cc at hc32 ⊢
    refine WC.seq ?_
    refine WC.seq ?_
    -- region 3 ref.go:91
    refine WC.region ?_
    refine WL.val rfl rfl rfl rfl (r_move rfl (ev_t rfl)) ?_
    refine WL.val rfl rfl rfl rfl (r_move rfl (ev_t rfl)) ?_
    refine WL.val rfl rfl rfl rfl (r_lenSlice (ts := #[]) rfl (ev_t rfl) elem_37) ?_
    refine WL.val rfl rfl rfl rfl (r_lss rfl (ev_t rfl) (ev_t rfl)) ?_
    refine WL.nil ?_
    refine WX.keep [(0, _), (3, _), (4, _), (10, _)] ⟨rfl, rfl, rfl, rfl, trivial⟩ ?_
    refine WX.next ?_
    refine WC.cond rfl (ev_t rfl) (fun hc3 => ?_) (fun hc3 => ?_)
    · try (exfalso; first | (simp at hc3; done) | (simp only [decide_eq_true_eq, decide_eq_false_iff_not, Bool.not_eq_true', Bool.not_eq_false', Bool.not_eq_true, Bool.not_eq_false] at hc3; omega) | omega)
      all_goals
        try simp only [decide_eq_true_eq, decide_eq_false_iff_not, Bool.not_eq_true', Bool.not_eq_false', Bool.not_eq_true, Bool.not_eq_false, Option.isNone_none, Option.isNone_some, Option.isSome_none, Option.isSome_some, ne_eq, Decidable.not_not] at hc3
        have hi' : i < l.length := by omega
        obtain ⟨b, off, rfl, _⟩ := hr.open (by omega)
        have hci : (l.map U8)[i]? = some (.int .u8 (l[i].toNat : Int)) := by simp [U8, hi']
        have hb8 := l[i].toNat_lt
        refine WC.skip ?_
        refine WX.next ?_
        refine WC.seq ?_
        refine WC.block ?_
        refine WC.seq ?_
        -- region 5 ref.go:92
        refine WC.region ?_
        refine WL.val rfl rfl rfl rfl (r_assign rfl ev_c) ?_
        refine WL.nil ?_
        refine WX.keep [(0, _), (3, _), (4, _), (5, _)] ⟨rfl, rfl, rfl, rfl, trivial⟩ ?_
        refine WX.next ?_
        refine WC.block ?_
        -- loop 2: live [0, 3, 4, 5]
        refine WC.keep [(0, _), (3, _), (4, _), (5, _)] ⟨rfl, rfl, rfl, rfl, trivial⟩ ?_
        refine WC.loop (fun m E w' => ∃ j : Nat, j ≤ 8 ∧ m = 8 - j ∧ w = w' ∧ E = [(0, .slice (some ⟨b, off, none⟩) l.length c), (3, .int .u32 (refN l[i].toNat j cc : Nat)), (4, .int .i64 (i : Int)), (5, .int .i64 (j : Int))]) (8) ?_ ?_
        · exact ⟨0, by omega, by omega, rfl, rfl⟩
        · rintro m E w' ⟨j, hj, rfl, rfl, rfl⟩
          have hc33 := refN_lt l[i].toNat j hc32
          refine WC.seq ?_
          refine WC.seq ?_
          -- region 6 ref.go:92
          refine WC.region ?_
          refine WL.val rfl rfl rfl rfl (r_move rfl (ev_t rfl)) ?_
          refine WL.val rfl rfl rfl rfl (r_lss rfl (ev_t rfl) ev_c) ?_
          refine WL.nil ?_
          refine WX.keep [(0, _), (3, _), (4, _), (5, _), (14, _)] ⟨rfl, rfl, rfl, rfl, rfl, trivial⟩ ?_
          refine WX.next ?_
          refine WC.cond rfl (ev_t rfl) (fun hc6 => ?_) (fun hc6 => ?_)
          · try (exfalso; first | (simp at hc6; done) | (simp only [decide_eq_true_eq, decide_eq_false_iff_not, Bool.not_eq_true', Bool.not_eq_false', Bool.not_eq_true, Bool.not_eq_false] at hc6; omega) | omega)
            all_goals
              try simp only [decide_eq_true_eq, decide_eq_false_iff_not, Bool.not_eq_true', Bool.not_eq_false', Bool.not_eq_true, Bool.not_eq_false, Option.isNone_none, Option.isNone_some, Option.isSome_none, Option.isSome_some, ne_eq, Decidable.not_not] at hc6
              refine WC.skip ?_
              refine WX.next ?_
              refine WC.seq ?_
              refine WC.block ?_
              refine WC.seq ?_
              -- region 8 ref.go:93
              refine WC.region ?_
              refine WL.val rfl rfl rfl rfl (r_move rfl (ev_t rfl)) ?_
              refine WL.val rfl rfl rfl rfl (r_and rfl (ev_t rfl) ev_c) ?_
              refine WL.val rfl rfl rfl rfl (r_move rfl (ev_t rfl)) ?_
              refine WL.val rfl rfl rfl rfl (r_move rfl (ev_t rfl)) ?_
              refine WL.val rfl rfl rfl rfl (r_indexAddr rfl (ev_t rfl) (ev_t rfl) elem_37 size_5 (by omega) (by omega)) ?_
              refine WL.val rfl rfl rfl rfl (r_load rfl (ev_t rfl) flat_5 (hr.cell (by omega) hci)) ?_
              refine WL.val rfl rfl rfl rfl (r_move rfl (ev_t rfl)) ?_
              refine WL.val rfl rfl rfl rfl (r_shr rfl (ev_t rfl) (ev_t rfl) (by omega) (by simp only [IntKind.bits]; omega)) ?_
              refine WL.val rfl rfl rfl rfl (r_conv rfl (ev_t rfl) some_5 int_57) ?_
              refine WL.val rfl rfl rfl rfl (r_and rfl (ev_t rfl) ev_c) ?_
              refine WL.val rfl rfl rfl rfl (r_xor rfl (ev_t rfl) (ev_t rfl)) ?_
              rw [low_bits hc33 (by omega)]
              refine WL.val rfl rfl rfl rfl (r_assign rfl (ev_t rfl)) ?_
              refine WL.nil ?_
              refine WX.keep [(0, _), (3, _), (4, _), (5, _), (6, _)] ⟨rfl, rfl, rfl, rfl, rfl, trivial⟩ ?_
              refine WX.next ?_
              refine WC.seq ?_
              -- region 9 ref.go:94
              refine WC.region ?_
              refine WL.val rfl rfl rfl rfl (r_move rfl (ev_t rfl)) ?_
              refine WL.val rfl rfl rfl rfl (r_shr rfl (ev_t rfl) ev_c (by omega) (by simp only [IntKind.bits]; omega)) ?_
              refine WL.val rfl rfl rfl rfl (r_assign rfl (ev_t rfl)) ?_
              refine WL.nil ?_
              refine WX.keep [(0, _), (3, _), (4, _), (5, _), (6, _)] ⟨rfl, rfl, rfl, rfl, rfl, trivial⟩ ?_
              refine WX.next ?_
              refine WC.seq ?_
              -- region 10 ref.go:95
              refine WC.region ?_
              refine WL.val rfl rfl rfl rfl (r_move rfl (ev_t rfl)) ?_
              refine WL.val rfl rfl rfl rfl (r_eql rfl (ev_t rfl) ev_c) ?_
              refine WL.nil ?_
              refine WX.keep [(0, _), (3, _), (4, _), (5, _), (31, _)] ⟨rfl, rfl, rfl, rfl, rfl, trivial⟩ ?_
              refine WX.next ?_
              refine WC.cond rfl (ev_t rfl) (fun hc10 => ?_) (fun hc10 => ?_)
              · try (exfalso; first | (simp at hc10; done) | (simp only [decide_eq_true_eq, decide_eq_false_iff_not, Bool.not_eq_true', Bool.not_eq_false', Bool.not_eq_true, Bool.not_eq_false] at hc10; omega) | omega)
                all_goals
                  try simp only [decide_eq_true_eq, decide_eq_false_iff_not, Bool.not_eq_true', Bool.not_eq_false', Bool.not_eq_true, Bool.not_eq_false, Option.isNone_none, Option.isNone_some, Option.isSome_none, Option.isSome_some, ne_eq, Decidable.not_not] at hc10
                  have hq := refB_T hc10 hc33
                  -- region 11 ref.go:96
                  refine WC.region ?_
                  refine WL.val rfl rfl rfl rfl (r_move rfl (ev_t rfl)) ?_
                  refine WL.val rfl rfl rfl rfl (r_xor rfl (ev_t rfl) ev_c) ?_
                  refine WL.val rfl rfl rfl rfl (r_assign rfl (ev_t rfl)) ?_
                  refine WL.nil ?_
                  refine WX.keep [(0, _), (3, _), (4, _), (5, _)] ⟨rfl, rfl, rfl, rfl, trivial⟩ ?_
                  refine WX.blockNormal ?_
                  refine WX.next ?_
                  -- region 7 ref.go:92
                  refine WC.region ?_
                  refine WL.val rfl rfl rfl rfl (r_move rfl (ev_t rfl)) ?_
                  first | refine WL.val rfl rfl rfl rfl (r_addN rfl (ev_t rfl) ev_c (by simp only [inK]; omega)) ?_ | refine WL.val rfl rfl rfl rfl (r_add rfl (ev_t rfl) ev_c) ?_
                  refine WL.val rfl rfl rfl rfl (r_assign rfl (ev_t rfl)) ?_
                  refine WL.nil ?_
                  refine WX.keep [(0, _), (3, _), (4, _), (5, _)] ⟨rfl, rfl, rfl, rfl, trivial⟩ ?_
                  refine WX.meet [(0, _), (3, _), (4, _), (5, _)] ⟨rfl, rfl, rfl, rfl, trivial⟩ ?_
                  exact ⟨8 - (j + 1), by omega, j + 1, by omega, rfl, rfl, by rw [hq]; rfl⟩
              · try (exfalso; first | (simp at hc10; done) | (simp only [decide_eq_true_eq, decide_eq_false_iff_not, Bool.not_eq_true', Bool.not_eq_false', Bool.not_eq_true, Bool.not_eq_false] at hc10; omega) | omega)
                all_goals
                  try simp only [decide_eq_true_eq, decide_eq_false_iff_not, Bool.not_eq_true', Bool.not_eq_false', Bool.not_eq_true, Bool.not_eq_false, Option.isNone_none, Option.isNone_some, Option.isSome_none, Option.isSome_some, ne_eq, Decidable.not_not] at hc10
                  have hq := refB_F hc10
                  refine WC.skip ?_
                  refine WX.blockNormal ?_
                  refine WX.next ?_
                  -- region 7 ref.go:92
                  refine WC.region ?_
                  refine WL.val rfl rfl rfl rfl (r_move rfl (ev_t rfl)) ?_
                  first | refine WL.val rfl rfl rfl rfl (r_addN rfl (ev_t rfl) ev_c (by simp only [inK]; omega)) ?_ | refine WL.val rfl rfl rfl rfl (r_add rfl (ev_t rfl) ev_c) ?_
                  refine WL.val rfl rfl rfl rfl (r_assign rfl (ev_t rfl)) ?_
                  refine WL.nil ?_
                  refine WX.keep [(0, _), (3, _), (4, _), (5, _)] ⟨rfl, rfl, rfl, rfl, trivial⟩ ?_
                  refine WX.meet [(0, _), (3, _), (4, _), (5, _)] ⟨rfl, rfl, rfl, rfl, trivial⟩ ?_
                  exact ⟨8 - (j + 1), by omega, j + 1, by omega, rfl, rfl, by rw [hq]; rfl⟩
          · try (exfalso; first | (simp at hc6; done) | (simp only [decide_eq_true_eq, decide_eq_false_iff_not, Bool.not_eq_true', Bool.not_eq_false', Bool.not_eq_true, Bool.not_eq_false] at hc6; omega) | omega)
            all_goals
              try simp only [decide_eq_true_eq, decide_eq_false_iff_not, Bool.not_eq_true', Bool.not_eq_false', Bool.not_eq_true, Bool.not_eq_false, Option.isNone_none, Option.isNone_some, Option.isSome_none, Option.isSome_some, ne_eq, Decidable.not_not] at hc6
              obtain rfl : j = 8 := by omega
              refine WC.exit ?_
              refine WX.thenExit ?_
              refine WX.thenExit ?_
              refine WX.blockHere ?_
              refine WX.blockNormal ?_
              refine WX.next ?_
              -- region 4 ref.go:91
              refine WC.region ?_
              refine WL.val rfl rfl rfl rfl (r_move rfl (ev_t rfl)) ?_
              first | refine WL.val rfl rfl rfl rfl (r_addN rfl (ev_t rfl) ev_c (by simp only [inK]; omega)) ?_ | refine WL.val rfl rfl rfl rfl (r_add rfl (ev_t rfl) ev_c) ?_
              refine WL.val rfl rfl rfl rfl (r_assign rfl (ev_t rfl)) ?_
              refine WL.nil ?_
              refine WX.keep [(0, _), (3, _), (4, _)] ⟨rfl, rfl, rfl, trivial⟩ ?_
              refine WX.meet [(0, _), (3, _), (4, _)] ⟨rfl, rfl, rfl, trivial⟩ ?_
              refine ⟨l.length - (i + 1), by omega, i + 1, by omega, rfl, rfl, ?_⟩
              rw [List.take_succ_eq_append_getElem hi', List.foldl_append, hcc, refN_byte]
              rfl
    · try (exfalso; first | (simp at hc3; done) | (simp only [decide_eq_true_eq, decide_eq_false_iff_not, Bool.not_eq_true', Bool.not_eq_false', Bool.not_eq_true, Bool.not_eq_false] at hc3; omega) | omega)
      all_goals
        try simp only [decide_eq_true_eq, decide_eq_false_iff_not, Bool.not_eq_true', Bool.not_eq_false', Bool.not_eq_true, Bool.not_eq_false, Option.isNone_none, Option.isNone_some, Option.isSome_none, Option.isSome_some, ne_eq, Decidable.not_not] at hc3
        obtain rfl : i = l.length := by omega
        rw [List.take_length] at hcc
        refine WC.exit ?_
        refine WX.thenExit ?_
        refine WX.thenExit ?_
        refine WX.blockHere ?_
        refine WX.next ?_
        refine WC.seq ?_
        -- region 12 ref.go:100
        refine WC.region ?_
        refine WL.val rfl rfl rfl rfl (r_move rfl (ev_t rfl)) ?_
        first | refine WL.val rfl rfl rfl rfl (r_subN rfl ev_c (ev_t rfl) (by simp only [inK]; omega)) ?_ | refine WL.val rfl rfl rfl rfl (r_sub rfl ev_c (ev_t rfl)) ?_
        refine WL.val rfl rfl rfl rfl (r_assign rfl (ev_t rfl)) ?_
        refine WL.nil ?_
        refine WX.keep [(2, _)] ⟨rfl, trivial⟩ ?_
        refine WX.next ?_
        refine WC.ret ?_
        refine WX.retE1 rfl rfl ?_
        refine ⟨?_, rfl⟩
        subst hcc
        exact congrArg (Value.int .u32) (com_bits hc32).symm

theorem le4_take {c i : Nat} (h : i < 4) : (le4 c).take (i + 1) = (le4 c).take i ++ [byteAt c i] := by
  match i, h with
  | 0, _ => rfl
  | 1, _ => rfl
  | 2, _ => rfl
  | 3, _ => rfl

theorem refSeal_ok {w : World} {F : Nat → Prop} {v : Value} {n : Nat} {l : List UInt8} (hr : Rd w F v n 1 (l.map U8)) (hl : l.length ≤ 140737488355000) :
    Ret Try.prog 33 #[v] w fun v' w' => Own w' (New w w') 5 1 v' (sealB l).length ((sealB l).map U8) ∧ Upd No w w' := by
  have hn := hr.lenB
  subst hn
  replace hr := hr.bound
  have hc32 := crc_lt l
  refine enterRet (vs := [_]) (N := 24) Try.func33 rfl rfl rfl ?_
  have hU := Upd.refl No w
  refine WC.keep [(0, _)] ⟨rfl, trivial⟩ ?_
  refine WC.seq ?_
  -- region 0 ref.go:104
  refine WC.region ?_
  refine WL.val rfl rfl rfl rfl (r_assign rfl ev_c) ?_
  refine WL.nil ?_
  refine WX.keep [(0, _)] ⟨rfl, trivial⟩ ?_
  refine WX.next ?_
  refine WC.seq ?_
  -- region 1 ref.go:105
  refine WC.region ?_
  refine WL.val rfl rfl rfl rfl (r_assign rfl ev_c) ?_
  refine WL.nil ?_
  refine WX.keep [(0, _), (3, _)] ⟨rfl, rfl, trivial⟩ ?_
  refine WX.next ?_
  refine WC.seq ?_
  -- region 2 ref.go:106
  refine WC.region ?_
  refine WL.val rfl rfl rfl rfl (r_move rfl (ev_t rfl)) ?_
  refine WL.val rfl rfl rfl rfl (r_move rfl (ev_t rfl)) ?_
  refine WL.cons (SO.append (Own.nil _ (fun _ => False) _ _) hr row_37 (U8_one l) (le_maxLen (by omega)) (by omega) rfl (ev_t rfl) (ev_t rfl) rfl rfl rfl rfl ?_)
  intro v1 w1 ho hu1
  have hs1 := hu1.size
  replace hU := hU.fresh hu1 (by first | exact (fun _ h => h.elim) | (intro k hk; simp only [At, New, Grow, From, No] at hk; omega))
  replace hr := hr.upd hu1 (by first | (with_reducible assumption) | exact (fun h => h) | exact (fun _ _ _ h => h) | (simp only [At]; omega) | (intro k hk hl hS; simp only [At] at hS; subst hS; contradiction) | (intro k hk hl hS; simp only [At] at hS; subst hS; exact Grow.old (by omega) (by assumption) hk) | (intro k hk hl hS; (try simp only [At, From, No, Grow, New] at hk hS); omega))
  obtain ⟨A1, c1, rfl, hc1⟩ := Own.form ho
  rw [List.nil_append] at ho
  refine WL.val rfl rfl rfl rfl (r_assign rfl (ev_t rfl)) ?_
  refine WL.nil ?_
  refine WX.keep [(0, _), (3, _)] ⟨rfl, rfl, trivial⟩ ?_
  refine WX.next ?_
  refine WC.seq ?_
  -- region 3 ref.go:107
  refine WC.region ?_
  refine WL.val rfl rfl rfl rfl (r_move rfl (ev_t rfl)) ?_
  refine WL.cons (SO.call (refSum_ok hr) rfl body_29 ⟨(ev_t rfl), trivial⟩ rfl rfl rfl rfl ?_)
  rintro v1 w2 ⟨rfl, rfl⟩
  refine WL.val rfl rfl rfl rfl (r_assign rfl (ev_t rfl)) ?_
  refine WL.nil ?_
  refine WX.keep [(3, _), (4, _)] ⟨rfl, rfl, trivial⟩ ?_
  refine WX.next ?_
  refine WC.seq ?_
  refine WC.seq ?_
  -- region 4 ref.go:108
  refine WC.region ?_
  refine WL.val rfl rfl rfl rfl (r_assign rfl ev_c) ?_
  refine WL.nil ?_
  refine WX.keep [(3, _), (4, _), (5, _)] ⟨rfl, rfl, rfl, trivial⟩ ?_
  refine WX.next ?_
  refine WC.block ?_
  -- loop 1: live [3, 4, 5]
  refine WC.keep [(3, _), (4, _), (5, _)] ⟨rfl, rfl, rfl, trivial⟩ ?_
  refine WC.loop (fun m E w' => ∃ (i : Nat) (A : Option Addr) (c : Nat), i ≤ 4 ∧ m = 4 - i ∧ Upd No w w' ∧ Own w' (New w w') 5 1 (.slice A (l.length + i) c) (l.length + i) ((l ++ (le4 (crc l)).take i).map U8) ∧ E = [(3, .slice A (l.length + i) c), (4, .int .u32 (crc l : Int)), (5, .int .i64 (i : Int))]) (4) ?_ ?_
  · simp only [Nat.zero_add] at ho ⊢
    exact ⟨0, _, _, by omega, rfl, hU, by have h := ho.mono (F' := New w _) (fun k hk => hk.elim (fun h => h.elim) (fun h => h)); simpa using h, rfl⟩
  · rintro m E w' ⟨i, A2, c2, hi, rfl, hU, ho, rfl⟩
    have hs0 := hU.size
    refine WC.seq ?_
    refine WC.seq ?_
    -- region 5 ref.go:108
    refine WC.region ?_
    refine WL.val rfl rfl rfl rfl (r_move rfl (ev_t rfl)) ?_
    refine WL.val rfl rfl rfl rfl (r_lss rfl (ev_t rfl) ev_c) ?_
    refine WL.nil ?_
    refine WX.keep [(3, _), (4, _), (5, _), (12, _)] ⟨rfl, rfl, rfl, rfl, trivial⟩ ?_
    refine WX.next ?_
    refine WC.cond rfl (ev_t rfl) (fun hc5 => ?_) (fun hc5 => ?_)
    · try (exfalso; first | (simp at hc5; done) | (simp only [decide_eq_true_eq, decide_eq_false_iff_not, Bool.not_eq_true', Bool.not_eq_false', Bool.not_eq_true, Bool.not_eq_false] at hc5; omega) | omega)
      all_goals
        try simp only [decide_eq_true_eq, decide_eq_false_iff_not, Bool.not_eq_true', Bool.not_eq_false', Bool.not_eq_true, Bool.not_eq_false, Option.isNone_none, Option.isNone_some, Option.isSome_none, Option.isSome_some, ne_eq, Decidable.not_not] at hc5
        refine WC.skip ?_
        refine WX.next ?_
        refine WC.seq ?_
        refine WC.block ?_
        -- region 7 ref.go:109
        refine WC.region ?_
        refine WL.val rfl rfl rfl rfl (r_move rfl (ev_t rfl)) ?_
        refine WL.val rfl rfl rfl rfl (r_move rfl (ev_t rfl)) ?_
        refine WL.val rfl rfl rfl rfl (r_move rfl (ev_t rfl)) ?_
        first | refine WL.val rfl rfl rfl rfl (r_mulN rfl ev_c (ev_t rfl) (by simp only [inK]; omega)) ?_ | refine WL.val rfl rfl rfl rfl (r_mul rfl ev_c (ev_t rfl)) ?_
        refine WL.val rfl rfl rfl rfl (r_shr rfl (ev_t rfl) (ev_t rfl) (by omega) (by simp only [IntKind.bits]; omega)) ?_
        refine WL.val rfl rfl rfl rfl (r_conv rfl (ev_t rfl) some_57 int_5) ?_
        refine WL.cons (SO.alloc rfl rfl rfl rfl (r_buildSlice1 (vs := [_]) rfl ⟨(ev_t rfl), trivial⟩ rfl row_37 rfl rfl) ?_)
        intro w3 hu3 hB3 hz3
        have hs3 := hu3.size
        replace hU := hU.fresh hu3 (by first | exact (fun _ h => h.elim) | (intro k hk; simp only [At, New, Grow, From, No] at hk; omega))
        replace ho := ho.upd hu3 (by first | (with_reducible assumption) | exact (fun h => h) | exact (fun _ _ _ h => h) | (simp only [At]; omega) | (intro k hk hl hS; simp only [At] at hS; subst hS; contradiction) | (intro k hk hl hS; simp only [At] at hS; subst hS; exact Grow.old (by omega) (by assumption) hk) | (intro k hk hl hS; (try simp only [At, From, No, Grow, New] at hk hS); omega))
        refine WL.cons (SO.append ho (Rd.of_blk (F := At _) (n := 1) (sz := 1) hB3 rfl rfl (by omega)) row_37 (oneCell_one rfl) (le_maxLen (by omega)) (by omega) rfl (ev_t rfl) (ev_t rfl) rfl rfl rfl rfl ?_)
        intro v4 w4 ho hu4
        have hs4 := hu4.size
        replace hU := hU.fresh hu4 (by first | exact (fun _ h => h.elim) | (intro k hk; simp only [At, New, Grow, From, No] at hk; omega))
        obtain ⟨A4, c4, rfl, hc4⟩ := Own.form ho
        refine WL.val rfl rfl rfl rfl (r_assign rfl (ev_t rfl)) ?_
        refine WL.nil ?_
        refine WX.keep [(3, _), (4, _), (5, _)] ⟨rfl, rfl, rfl, trivial⟩ ?_
        refine WX.blockNormal ?_
        refine WX.next ?_
        -- region 6 ref.go:108
        refine WC.region ?_
        refine WL.val rfl rfl rfl rfl (r_move rfl (ev_t rfl)) ?_
        first | refine WL.val rfl rfl rfl rfl (r_addN rfl (ev_t rfl) ev_c (by simp only [inK]; omega)) ?_ | refine WL.val rfl rfl rfl rfl (r_add rfl (ev_t rfl) ev_c) ?_
        refine WL.val rfl rfl rfl rfl (r_assign rfl (ev_t rfl)) ?_
        refine WL.nil ?_
        refine WX.keep [(3, _), (4, _), (5, _)] ⟨rfl, rfl, rfl, trivial⟩ ?_
        refine WX.meet [(3, _), (4, _), (5, _)] ⟨rfl, rfl, rfl, trivial⟩ ?_
        rw [shr_byte, wrap_u8_byte] at ho
        refine ⟨4 - (i + 1), by omega, i + 1, _, _, by omega, rfl, hU, ?_, rfl⟩
        have h1 := ho.mono (F' := New w _) (fun k hk => New.of hk (by omega) (by omega))
        rw [le4_take (by omega), ← List.append_assoc, List.map_append]
        exact h1
    · try (exfalso; first | (simp at hc5; done) | (simp only [decide_eq_true_eq, decide_eq_false_iff_not, Bool.not_eq_true', Bool.not_eq_false', Bool.not_eq_true, Bool.not_eq_false] at hc5; omega) | omega)
      all_goals
        try simp only [decide_eq_true_eq, decide_eq_false_iff_not, Bool.not_eq_true', Bool.not_eq_false', Bool.not_eq_true, Bool.not_eq_false, Option.isNone_none, Option.isNone_some, Option.isSome_none, Option.isSome_some, ne_eq, Decidable.not_not] at hc5
        obtain rfl : i = 4 := by omega
        refine WC.exit ?_
        refine WX.thenExit ?_
        refine WX.thenExit ?_
        refine WX.blockHere ?_
        refine WX.next ?_
        refine WC.seq ?_
        -- region 8 ref.go:111
        refine WC.region ?_
        refine WL.val rfl rfl rfl rfl (r_move rfl (ev_t rfl)) ?_
        refine WL.val rfl rfl rfl rfl (r_assign rfl (ev_t rfl)) ?_
        refine WL.nil ?_
        refine WX.keep [(2, _)] ⟨rfl, trivial⟩ ?_
        refine WX.next ?_
        refine WC.ret ?_
        refine WX.retE1 rfl rfl ?_
        rw [sealB_length]
        exact ⟨ho, hU⟩

theorem refOpen_ok {w : World} {F : Nat → Prop} {v : Value} {n : Nat} {l : List UInt8} (hr : Rd w F v n 1 (l.map U8)) (hl : l.length ≤ 140737488355000) :
    Ret Try.prog 32 #[v] w fun v' w' => ∃ u, v' = .tuple #[u, .int .i64 ((openB l).2 : Int)] ∧ Rd w' (fun k => F k ∧ k < w.heap.size) u (openB l).1.length 1 ((openB l).1.map U8) ∧ Upd No w w' := by
  obtain ⟨A, c, rfl, hle⟩ := hr.slice_form
  have hn := hr.lenB
  subst hn
  replace hr := hr.bound
  refine enterRet (vs := [_]) (N := 22) Try.func32 rfl rfl rfl ?_
  have hU := Upd.refl No w
  refine WC.keep [(0, _)] ⟨rfl, trivial⟩ ?_
  refine WC.seq ?_
  -- region 0 ref.go:115
  refine WC.region ?_
  refine WL.val rfl rfl rfl rfl (r_assign rfl ev_c) ?_
  refine WL.val rfl rfl rfl rfl (r_assign rfl ev_c) ?_
  refine WL.nil ?_
  refine WX.keep [(0, _)] ⟨rfl, trivial⟩ ?_
  refine WX.next ?_
  refine WC.seq ?_
  refine WC.seq ?_
  -- region 1 ref.go:116
  refine WC.region ?_
  refine WL.val rfl rfl rfl rfl (r_move rfl (ev_t rfl)) ?_
  refine WL.val rfl rfl rfl rfl (r_lenSlice (ts := #[]) rfl (ev_t rfl) elem_37) ?_
  refine WL.val rfl rfl rfl rfl (r_lss rfl (ev_t rfl) ev_c) ?_
  refine WL.nil ?_
  refine WX.keep [(0, _), (7, _)] ⟨rfl, rfl, trivial⟩ ?_
  refine WX.next ?_
  refine WC.cond rfl (ev_t rfl) (fun hc1 => ?_) (fun hc1 => ?_)
  · try (exfalso; first | (simp at hc1; done) | (simp only [decide_eq_true_eq, decide_eq_false_iff_not, Bool.not_eq_true', Bool.not_eq_false', Bool.not_eq_true, Bool.not_eq_false] at hc1; omega) | omega)
    all_goals
      try simp only [decide_eq_true_eq, decide_eq_false_iff_not, Bool.not_eq_true', Bool.not_eq_false', Bool.not_eq_true, Bool.not_eq_false, Option.isNone_none, Option.isNone_some, Option.isSome_none, Option.isSome_some, ne_eq, Decidable.not_not] at hc1
      refine WC.seq ?_
      -- region 2 ref.go:117
      refine WC.region ?_
      refine WL.val rfl rfl rfl rfl (r_assign rfl ev_c) ?_
      refine WL.val rfl rfl rfl rfl (r_assign rfl ev_c) ?_
      refine WL.nil ?_
      refine WX.keep [(2, _), (3, _)] ⟨rfl, rfl, trivial⟩ ?_
      refine WX.next ?_
      refine WC.ret ?_
      refine WX.thenRet ?_
      refine WX.retE2 rfl rfl rfl ?_
      have he : openB l = ([], 3) := by unfold openB; rw [if_pos (by omega)]
      rw [he]
      exact ⟨_, rfl, Rd.nil _ _ _, hU⟩
  · try (exfalso; first | (simp at hc1; done) | (simp only [decide_eq_true_eq, decide_eq_false_iff_not, Bool.not_eq_true', Bool.not_eq_false', Bool.not_eq_true, Bool.not_eq_false] at hc1; omega) | omega)
    all_goals
      try simp only [decide_eq_true_eq, decide_eq_false_iff_not, Bool.not_eq_true', Bool.not_eq_false', Bool.not_eq_true, Bool.not_eq_false, Option.isNone_none, Option.isNone_some, Option.isSome_none, Option.isSome_some, ne_eq, Decidable.not_not] at hc1
      obtain ⟨n, hn⟩ : ∃ n : Nat, l.length = n + 4 := ⟨l.length - 4, by omega⟩
      refine WC.skip ?_
      refine WX.next ?_
      refine WC.seq ?_
      -- region 3 ref.go:119
      refine WC.region ?_
      refine WL.val rfl rfl rfl rfl (r_move rfl (ev_t rfl)) ?_
      refine WL.val rfl rfl rfl rfl (r_lenSlice (ts := #[]) rfl (ev_t rfl) elem_37) ?_
      first | refine WL.val rfl rfl rfl rfl (r_subN rfl (ev_t rfl) ev_c (by simp only [inK]; omega)) ?_ | refine WL.val rfl rfl rfl rfl (r_sub rfl (ev_t rfl) ev_c) ?_
      refine WL.val rfl rfl rfl rfl (r_assign rfl (ev_t rfl)) ?_
      refine WL.nil ?_
      refine WX.keep [(0, _), (4, _)] ⟨rfl, rfl, trivial⟩ ?_
      refine WX.next ?_
      refine WC.seq ?_
      refine WC.seq ?_
      have hcut : ((l.length : Nat) : Int) - 4 = (n : Int) := by omega
      rw [hcut]
      -- region 4 ref.go:120 DRAWS
      refine WC.draws' (fun w0 w => Upd No w0 w) (fun j => [0, 0, 0, 2, 2, 0, 2, 0].getD j 0) (.calm 0 (.calm 1 (.calm 2 (.calm 5 (.two 3 6 (.two 4 6 (.one 6 (.calm 7 (.done))) (.one 4 (.calm 7 (.done)))) (.one 3 (.one 4 (.calm 7 (.done))))))))) mixed (by kernel_rfl) (by repeat (first | with_reducible exact Deaf.body | with_reducible apply Deaf.then | with_reducible apply Deaf.block)) ?_
      intro w1 hu1
      have hz1 := congrArg Array.size hu1.2.2.2
      replace hu1 := Upd.of_draw hu1
      have hs1 := hu1.size
      replace hU := hU.fresh hu1 (by first | exact (fun _ h => h.elim) | (intro k hk; simp only [At, New, Grow, From, No] at hk; omega))
      replace hr := hr.upd hu1 (by first | (with_reducible assumption) | exact (fun h => h) | exact (fun _ _ _ h => h) | (simp only [At]; omega) | (intro k hk hl hS; simp only [At] at hS; subst hS; contradiction) | (intro k hk hl hS; simp only [At] at hS; subst hS; exact Grow.old (by omega) (by assumption) hk) | (intro k hk hl hS; (try simp only [At, From, No, Grow, New] at hk hS); omega))
      refine WN.calm _ rfl rfl rfl rfl rfl (fun _ => r_move rfl (ev_t rfl)) ?_
      refine WN.calm _ rfl rfl rfl rfl rfl (fun _ => r_move rfl (ev_t rfl)) ?_
      refine WN.calm _ rfl rfl rfl rfl rfl (fun _ => r_slice (l := 0) (h := n) rfl (ev_t rfl) elem_37 size_5 bnd_none (bnd_some (ev_t rfl) (by omega)) (by omega) (by omega) (by omega)) ?_
      refine WN.calm _ rfl rfl rfl rfl rfl (fun _ => r_move rfl (ev_t rfl)) ?_
      refine WN.fork _ _ rfl rfl ?_ ?_
      · refine SO.call (refSeal_ok (l := l.take n) (by have := hr.sliceB (lo := 0) (h := n) (by omega) (by omega); simpa using this) (by rw [List.length_take]; omega)) rfl body_33 ⟨(ev_t rfl), trivial⟩ rfl rfl rfl rfl ?_
        rintro v1 w2 ⟨ho, hu2⟩
        have hs2 := hu2.size
        replace hU := hU.fresh hu2 (by first | exact (fun _ h => h.elim) | (intro k hk; simp only [At, New, Grow, From, No] at hk; omega))
        replace hr := hr.upd hu2 (by first | (with_reducible assumption) | exact (fun h => h) | exact (fun _ _ _ h => h) | (simp only [At]; omega) | (intro k hk hl hS; simp only [At] at hS; subst hS; contradiction) | (intro k hk hl hS; simp only [At] at hS; subst hS; exact Grow.old (by omega) (by assumption) hk) | (intro k hk hl hS; (try simp only [At, From, No, Grow, New] at hk hS); omega))
        have hlt : (l.take n).length = n := by rw [List.length_take]; omega
        have hls := sealB_length (l.take n)
        obtain ⟨A3, c3, rfl, hc3⟩ := Own.form ho
        refine ⟨trivial, ?_⟩
        refine WN.fork _ _ rfl rfl ?_ ?_
        · refine SO.val rfl rfl rfl rfl (r_toStr rfl (ev_t rfl) (ho.rd (by omega)) elem_37 int_5 str_9) ?_
          refine ⟨trivial, ?_⟩
          refine WN.step _ rfl (SO.val rfl rfl rfl rfl (r_toStr rfl (ev_t rfl) hr elem_37 int_5 str_9) ?_)
          refine ⟨trivial, ?_⟩
          refine WN.calm _ rfl rfl rfl rfl rfl (fun _ => r_neqStr rfl (ev_t rfl) (ev_t rfl)) ?_
          refine WN.done ?_
          refine WX.keep [(0, _), (4, _), (18, _)] ⟨rfl, rfl, rfl, trivial⟩ ?_
          refine WX.next ?_
          refine WC.cond rfl (ev_t rfl) (fun hc4 => ?_) (fun hc4 => ?_)
          · try (exfalso; first | (simp at hc4; done) | (simp only [decide_eq_true_eq, decide_eq_false_iff_not, Bool.not_eq_true', Bool.not_eq_false', Bool.not_eq_true, Bool.not_eq_false] at hc4; omega) | omega)
            all_goals
              try simp only [decide_eq_true_eq, decide_eq_false_iff_not, Bool.not_eq_true', Bool.not_eq_false', Bool.not_eq_true, Bool.not_eq_false, Option.isNone_none, Option.isNone_some, Option.isSome_none, Option.isSome_some, ne_eq, Decidable.not_not] at hc4
              refine WC.seq ?_
              -- region 5 ref.go:121
              refine WC.region ?_
              refine WL.val rfl rfl rfl rfl (r_assign rfl ev_c) ?_
              refine WL.val rfl rfl rfl rfl (r_assign rfl ev_c) ?_
              refine WL.nil ?_
              refine WX.keep [(2, _), (3, _)] ⟨rfl, rfl, trivial⟩ ?_
              refine WX.next ?_
              refine WC.ret ?_
              refine WX.thenRet ?_
              refine WX.retE2 rfl rfl rfl ?_
              rw [mk_toList, mk_toList] at hc4
              have he : openB l = ([], 14) := by
                unfold openB
                rw [if_neg (by omega), show l.length - 4 = n by omega, if_neg hc4]
              rw [he]
              exact ⟨_, rfl, Rd.nil _ _ _, hU⟩
          · try (exfalso; first | (simp at hc4; done) | (simp only [decide_eq_true_eq, decide_eq_false_iff_not, Bool.not_eq_true', Bool.not_eq_false', Bool.not_eq_true, Bool.not_eq_false] at hc4; omega) | omega)
            all_goals
              try simp only [decide_eq_true_eq, decide_eq_false_iff_not, Bool.not_eq_true', Bool.not_eq_false', Bool.not_eq_true, Bool.not_eq_false, Option.isNone_none, Option.isNone_some, Option.isSome_none, Option.isSome_some, ne_eq, Decidable.not_not] at hc4
              refine WC.skip ?_
              refine WX.next ?_
              refine WC.seq ?_
              -- region 6 ref.go:123
              refine WC.region ?_
              refine WL.val rfl rfl rfl rfl (r_move rfl (ev_t rfl)) ?_
              refine WL.val rfl rfl rfl rfl (r_move rfl (ev_t rfl)) ?_
              refine WL.val rfl rfl rfl rfl (r_slice (l := 0) (h := n) rfl (ev_t rfl) elem_37 size_5 bnd_none (bnd_some (ev_t rfl) (by omega)) (by omega) (by omega) (by omega)) ?_
              refine WL.val rfl rfl rfl rfl (r_assign rfl (ev_t rfl)) ?_
              refine WL.val rfl rfl rfl rfl (r_assign rfl ev_c) ?_
              refine WL.nil ?_
              refine WX.keep [(2, _), (3, _)] ⟨rfl, rfl, trivial⟩ ?_
              refine WX.next ?_
              refine WC.ret ?_
              refine WX.retE2 rfl rfl rfl ?_
              rw [mk_toList, mk_toList] at hc4
              have he : openB l = (l.take n, 0) := by
                unfold openB
                rw [if_neg (by omega), show l.length - 4 = n by omega, if_pos hc4]
              rw [he]
              refine ⟨_, rfl, ?_, hU⟩
              show Rd _ _ _ (l.take n).length _ _
              rw [hlt]
              have h1 := hr.sliceB (lo := 0) (h := n) (by omega) (by omega)
              simpa using h1
        · refine SO.val rfl rfl rfl rfl (r_toStr rfl (ev_t rfl) hr elem_37 int_5 str_9) ?_
          refine ⟨trivial, ?_⟩
          refine WN.step _ rfl (SO.val rfl rfl rfl rfl (r_toStr rfl (ev_t rfl) (ho.rd (by omega)) elem_37 int_5 str_9) ?_)
          refine ⟨trivial, ?_⟩
          refine WN.calm _ rfl rfl rfl rfl rfl (fun _ => r_neqStr rfl (ev_t rfl) (ev_t rfl)) ?_
          refine WN.done ?_
          refine WX.keep [(0, _), (4, _), (18, _)] ⟨rfl, rfl, rfl, trivial⟩ ?_
          refine WX.next ?_
          refine WC.cond rfl (ev_t rfl) (fun hc4 => ?_) (fun hc4 => ?_)
          · try (exfalso; first | (simp at hc4; done) | (simp only [decide_eq_true_eq, decide_eq_false_iff_not, Bool.not_eq_true', Bool.not_eq_false', Bool.not_eq_true, Bool.not_eq_false] at hc4; omega) | omega)
            all_goals
              try simp only [decide_eq_true_eq, decide_eq_false_iff_not, Bool.not_eq_true', Bool.not_eq_false', Bool.not_eq_true, Bool.not_eq_false, Option.isNone_none, Option.isNone_some, Option.isSome_none, Option.isSome_some, ne_eq, Decidable.not_not] at hc4
              refine WC.seq ?_
              -- region 5 ref.go:121
              refine WC.region ?_
              refine WL.val rfl rfl rfl rfl (r_assign rfl ev_c) ?_
              refine WL.val rfl rfl rfl rfl (r_assign rfl ev_c) ?_
              refine WL.nil ?_
              refine WX.keep [(2, _), (3, _)] ⟨rfl, rfl, trivial⟩ ?_
              refine WX.next ?_
              refine WC.ret ?_
              refine WX.thenRet ?_
              refine WX.retE2 rfl rfl rfl ?_
              rw [mk_toList, mk_toList] at hc4
              have he : openB l = ([], 14) := by
                unfold openB
                rw [if_neg (by omega), show l.length - 4 = n by omega, if_neg hc4]
              rw [he]
              exact ⟨_, rfl, Rd.nil _ _ _, hU⟩
          · try (exfalso; first | (simp at hc4; done) | (simp only [decide_eq_true_eq, decide_eq_false_iff_not, Bool.not_eq_true', Bool.not_eq_false', Bool.not_eq_true, Bool.not_eq_false] at hc4; omega) | omega)
            all_goals
              try simp only [decide_eq_true_eq, decide_eq_false_iff_not, Bool.not_eq_true', Bool.not_eq_false', Bool.not_eq_true, Bool.not_eq_false, Option.isNone_none, Option.isNone_some, Option.isSome_none, Option.isSome_some, ne_eq, Decidable.not_not] at hc4
              refine WC.skip ?_
              refine WX.next ?_
              refine WC.seq ?_
              -- region 6 ref.go:123
              refine WC.region ?_
              refine WL.val rfl rfl rfl rfl (r_move rfl (ev_t rfl)) ?_
              refine WL.val rfl rfl rfl rfl (r_move rfl (ev_t rfl)) ?_
              refine WL.val rfl rfl rfl rfl (r_slice (l := 0) (h := n) rfl (ev_t rfl) elem_37 size_5 bnd_none (bnd_some (ev_t rfl) (by omega)) (by omega) (by omega) (by omega)) ?_
              refine WL.val rfl rfl rfl rfl (r_assign rfl (ev_t rfl)) ?_
              refine WL.val rfl rfl rfl rfl (r_assign rfl ev_c) ?_
              refine WL.nil ?_
              refine WX.keep [(2, _), (3, _)] ⟨rfl, rfl, trivial⟩ ?_
              refine WX.next ?_
              refine WC.ret ?_
              refine WX.retE2 rfl rfl rfl ?_
              rw [mk_toList, mk_toList] at hc4
              have he : openB l = (l.take n, 0) := by
                unfold openB
                rw [if_neg (by omega), show l.length - 4 = n by omega, if_pos hc4]
              rw [he]
              refine ⟨_, rfl, ?_, hU⟩
              show Rd _ _ _ (l.take n).length _ _
              rw [hlt]
              have h1 := hr.sliceB (lo := 0) (h := n) (by omega) (by omega)
              simpa using h1
      · refine SO.val rfl rfl rfl rfl (r_toStr rfl (ev_t rfl) hr elem_37 int_5 str_9) ?_
        refine ⟨trivial, ?_⟩
        refine WN.step _ rfl (SO.call (refSeal_ok (l := l.take n) (by have := hr.sliceB (lo := 0) (h := n) (by omega) (by omega); simpa using this) (by rw [List.length_take]; omega)) rfl body_33 ⟨(ev_t rfl), trivial⟩ rfl rfl rfl rfl ?_)
        rintro v1 w3 ⟨ho, hu3⟩
        have hs3 := hu3.size
        replace hU := hU.fresh hu3 (by first | exact (fun _ h => h.elim) | (intro k hk; simp only [At, New, Grow, From, No] at hk; omega))
        replace hr := hr.upd hu3 (by first | (with_reducible assumption) | exact (fun h => h) | exact (fun _ _ _ h => h) | (simp only [At]; omega) | (intro k hk hl hS; simp only [At] at hS; subst hS; contradiction) | (intro k hk hl hS; simp only [At] at hS; subst hS; exact Grow.old (by omega) (by assumption) hk) | (intro k hk hl hS; (try simp only [At, From, No, Grow, New] at hk hS); omega))
        have hlt : (l.take n).length = n := by rw [List.length_take]; omega
        have hls := sealB_length (l.take n)
        obtain ⟨A3, c3, rfl, hc3⟩ := Own.form ho
        refine ⟨trivial, ?_⟩
        refine WN.step _ rfl (SO.val rfl rfl rfl rfl (r_toStr rfl (ev_t rfl) (ho.rd (by omega)) elem_37 int_5 str_9) ?_)
        refine ⟨trivial, ?_⟩
        refine WN.calm _ rfl rfl rfl rfl rfl (fun _ => r_neqStr rfl (ev_t rfl) (ev_t rfl)) ?_
        refine WN.done ?_
        refine WX.keep [(0, _), (4, _), (18, _)] ⟨rfl, rfl, rfl, trivial⟩ ?_
        refine WX.next ?_
        refine WC.cond rfl (ev_t rfl) (fun hc4 => ?_) (fun hc4 => ?_)
        · try (exfalso; first | (simp at hc4; done) | (simp only [decide_eq_true_eq, decide_eq_false_iff_not, Bool.not_eq_true', Bool.not_eq_false', Bool.not_eq_true, Bool.not_eq_false] at hc4; omega) | omega)
          all_goals
            try simp only [decide_eq_true_eq, decide_eq_false_iff_not, Bool.not_eq_true', Bool.not_eq_false', Bool.not_eq_true, Bool.not_eq_false, Option.isNone_none, Option.isNone_some, Option.isSome_none, Option.isSome_some, ne_eq, Decidable.not_not] at hc4
            refine WC.seq ?_
            -- region 5 ref.go:121
            refine WC.region ?_
            refine WL.val rfl rfl rfl rfl (r_assign rfl ev_c) ?_
            refine WL.val rfl rfl rfl rfl (r_assign rfl ev_c) ?_
            refine WL.nil ?_
            refine WX.keep [(2, _), (3, _)] ⟨rfl, rfl, trivial⟩ ?_
            refine WX.next ?_
            refine WC.ret ?_
            refine WX.thenRet ?_
            refine WX.retE2 rfl rfl rfl ?_
            rw [mk_toList, mk_toList] at hc4
            have he : openB l = ([], 14) := by
              unfold openB
              rw [if_neg (by omega), show l.length - 4 = n by omega, if_neg hc4]
            rw [he]
            exact ⟨_, rfl, Rd.nil _ _ _, hU⟩
        · try (exfalso; first | (simp at hc4; done) | (simp only [decide_eq_true_eq, decide_eq_false_iff_not, Bool.not_eq_true', Bool.not_eq_false', Bool.not_eq_true, Bool.not_eq_false] at hc4; omega) | omega)
          all_goals
            try simp only [decide_eq_true_eq, decide_eq_false_iff_not, Bool.not_eq_true', Bool.not_eq_false', Bool.not_eq_true, Bool.not_eq_false, Option.isNone_none, Option.isNone_some, Option.isSome_none, Option.isSome_some, ne_eq, Decidable.not_not] at hc4
            refine WC.skip ?_
            refine WX.next ?_
            refine WC.seq ?_
            -- region 6 ref.go:123
            refine WC.region ?_
            refine WL.val rfl rfl rfl rfl (r_move rfl (ev_t rfl)) ?_
            refine WL.val rfl rfl rfl rfl (r_move rfl (ev_t rfl)) ?_
            refine WL.val rfl rfl rfl rfl (r_slice (l := 0) (h := n) rfl (ev_t rfl) elem_37 size_5 bnd_none (bnd_some (ev_t rfl) (by omega)) (by omega) (by omega) (by omega)) ?_
            refine WL.val rfl rfl rfl rfl (r_assign rfl (ev_t rfl)) ?_
            refine WL.val rfl rfl rfl rfl (r_assign rfl ev_c) ?_
            refine WL.nil ?_
            refine WX.keep [(2, _), (3, _)] ⟨rfl, rfl, trivial⟩ ?_
            refine WX.next ?_
            refine WC.ret ?_
            refine WX.retE2 rfl rfl rfl ?_
            rw [mk_toList, mk_toList] at hc4
            have he : openB l = (l.take n, 0) := by
              unfold openB
              rw [if_neg (by omega), show l.length - 4 = n by omega, if_pos hc4]
            rw [he]
            refine ⟨_, rfl, ?_, hU⟩
            show Rd _ _ _ (l.take n).length _ _
            rw [hlt]
            have h1 := hr.sliceB (lo := 0) (h := n) (by omega) (by omega)
            simpa using h1
end Go.Proofs.Ytjiafgnibhgfbaa
