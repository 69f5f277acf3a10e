/-
  octet: any numbers, bytes and texts, one behind the other, and back: the walk.
-/
import Derived.Test.YtjiafgnibhgfbaaWrtP
import Derived.Test.YtjiafgnibhgfbaaRfi
import Derived.Test.YtjiafgnibhgfbaaRds
namespace Go.Proofs.Ytjiafgnibhgfbaa
open Go
set_option linter.unusedSimpArgs false
set_option linter.unusedVariables false

/-- the cells of puts -/
def putC (K : Nat → UInt8) (N : Nat → Nat) (V : Nat → Value) (n : Nat) : List Value := (List.range (n * 3)).map fun j => if j % 3 = 0 then U8 (K (j / 3)) else if j % 3 = 1 then .int .u64 (N (j / 3) : Int) else V (j / 3)
theorem putC_k {K : Nat → UInt8} {N : Nat → Nat} {V : Nat → Value} {n i : Nat} (h : i < n) : (putC K N V n)[i * 3]? = some (.int .u8 ((K i).toNat : Int)) := by
  unfold putC
  rw [List.getElem?_map, List.getElem?_range (by omega)]
  simp [U8]
theorem putC_n {K : Nat → UInt8} {N : Nat → Nat} {V : Nat → Value} {n i : Nat} (h : i < n) : (putC K N V n)[i * 3 + 1]? = some (.int .u64 (N i : Int)) := by
  unfold putC
  rw [List.getElem?_map, List.getElem?_range (by omega)]
  have h1 : (i * 3 + 1) % 3 = 1 := by omega
  have h2 : (i * 3 + 1) / 3 = i := by omega
  simp [h1, h2]
theorem putC_b {K : Nat → UInt8} {N : Nat → Nat} {V : Nat → Value} {n i : Nat} (h : i < n) : (putC K N V n)[i * 3 + 2]? = some (V i) := by
  unfold putC
  rw [List.getElem?_map, List.getElem?_range (by omega)]
  have h1 : (i * 3 + 2) % 3 = 2 := by omega
  have h2 : (i * 3 + 2) / 3 = i := by omega
  simp [h1, h2]

/-- puts, read -/
def IsL (w : World) (F : Nat → Prop) (lv : Value) (n : Nat) (K : Nat → UInt8) (N : Nat → Nat) (V : Nat → Value) (B : Nat → List UInt8) : Prop :=
  Rd w F lv n 3 (putC K N V n) ∧ ∀ i, i < n → Rd w F (V i) (B i).length 1 ((B i).map U8)
theorem IsL.upd {w w' : World} {F S : Nat → Prop} {lv : Value} {n : Nat} {K : Nat → UInt8} {N : Nat → Nat} {V : Nat → Value} {B : Nat → List UInt8} (h : IsL w F lv n K N V B) (hu : Upd S w w') (hF : ∀ k, F k → k < w.heap.size → ¬ S k) : IsL w' F lv n K N V B :=
  ⟨h.1.upd hu hF, fun i hi => (h.2 i hi).upd hu hF⟩

def encP (K : Nat → UInt8) (N : Nat → Nat) (B : Nat → List UInt8) (i : Nat) : List UInt8 :=
  if (K i).toNat % 4 = 0 then encU (N i) else if (K i).toNat % 4 = 1 then encU (zig (IntKind.i64.wrap (N i : Int))) else encU (B i).length ++ B i
def outs (K : Nat → UInt8) (N : Nat → Nat) (B : Nat → List UInt8) (i : Nat) : List UInt8 := (List.range i).flatMap (encP K N B)
theorem outs_succ (K : Nat → UInt8) (N : Nat → Nat) (B : Nat → List UInt8) (i : Nat) : outs K N B (i + 1) = outs K N B i ++ encP K N B i := by
  simp [outs, List.range_succ]
theorem outs_le (K : Nat → UInt8) (N : Nat → Nat) (B : Nat → List UInt8) {i : Nat} : ∀ n, i ≤ n → ∃ t, outs K N B n = outs K N B i ++ t
  | 0, h => ⟨[], by rw [show i = 0 by omega]; simp⟩
  | n + 1, h => by
    rcases Nat.lt_or_ge n i with h1 | h1
    · exact ⟨[], by rw [show i = n + 1 by omega]; simp⟩
    · obtain ⟨t, ht⟩ := outs_le K N B n h1
      exact ⟨t ++ encP K N B n, by rw [outs_succ, ht, List.append_assoc]⟩
theorem wrap_i64_range (z : Int) : -9223372036854775808 ≤ IntKind.i64.wrap z ∧ IntKind.i64.wrap z ≤ 9223372036854775807 := by
  simp only [IntKind.wrap, IntKind.signed, IntKind.bits, Bool.true_and]
  split <;> (rename_i h; simp only [ge_iff_le, decide_eq_true_eq] at h; omega)
theorem encU_len9 {n : Nat} (h : n < 18446744073709551616) : (encU n).length ≤ 9 := by
  have : blen n ≤ 8 := blen_le (by simpa using h)
  rw [encU_length]
  omega

theorem grow_pack {B a : Nat} {M F : Nat → Prop} {w1 w2 : World} (hM : ∀ k, M k → B ≤ k ∧ k < a) (hF : ∀ k, F k → B ≤ k ∧ k < a) (hd : ∀ k, M k → ¬ F k) (h1 : a ≤ w1.heap.size) (h2 : w1.heap.size ≤ w2.heap.size) (hB : B ≤ a) :
    (∀ k, Grow M w1 w2 k → B ≤ k ∧ k < w2.heap.size) ∧ (∀ k, Grow M w1 w2 k → ¬ F k) ∧ (∀ k, F k → B ≤ k ∧ k < w2.heap.size) ∧ (∀ k, F k → ¬ Grow M w1 w2 k) := by
  have hd2 : ∀ k, Grow M w1 w2 k → ¬ F k := fun k hk hf => by
    rcases hk with hk | hk
    · exact hd k hk hf
    · have := (hF k hf).2; omega
  refine ⟨fun k hk => ?_, hd2, fun k hk => ⟨(hF k hk).1, by have := (hF k hk).2; omega⟩, fun k hf hk => hd2 k hk hf⟩
  rcases hk with hk | hk
  · exact ⟨(hM k hk).1, by have := (hM k hk).2; omega⟩
  · exact ⟨by omega, hk.2⟩

theorem encP_len {K : Nat → UInt8} {N : Nat → Nat} {B : Nat → List UInt8} {i : Nat} (hN : N i < 18446744073709551616) (hB : (B i).length ≤ 5000) : (encP K N B i).length ≤ 5009 := by
  have r := wrap_i64_range (N i : Int)
  have h1 := encU_len9 hN
  have h2 := encU_len9 (zig_lt r.1 r.2)
  have h3 := encU_len9 (n := (B i).length) (by omega)
  unfold encP
  split
  · omega
  · split
    · omega
    · rw [List.length_append]; omega

theorem octetWrites.walk {w : World} {lv : Value} {n : Nat} {K : Nat → UInt8} {N : Nat → Nat} {V : Nat → Value} {B : Nat → List UInt8} (hL : IsL w (fun k => k < w.heap.size) lv n K N V B) (hN : ∀ i, N i < 18446744073709551616) :
    Ret Try.prog 15 #[lv] w fun v w' => v = .bool true ∧ Upd No w w' := by
  obtain ⟨A1, c1, rfl, hle1⟩ := hL.1.slice_form
  refine enterRet (vs := [_]) (N := 182) Try.func15 rfl rfl rfl ?_
  have hU := Upd.refl No w
  refine WC.keep [(0, _)] ⟨rfl, trivial⟩ ?_
  refine WC.seq ?_
  -- region 0 law.go:25
  refine WC.region ?_
  refine WL.val rfl rfl rfl rfl (r_assign rfl ev_c) ?_
  refine WL.nil ?_
  refine WX.keep [(0, _)] ⟨rfl, trivial⟩ ?_
  refine WX.next ?_
  refine WC.seq ?_
  refine WC.seq ?_
  -- region 1 law.go:26
  refine WC.region ?_
  refine WL.cons (SO.call (awake1_ok _) rfl body_19 trivial rfl rfl rfl rfl ?_)
  rintro v w1 ⟨rfl, hu1⟩
  have hs1 := hu1.size
  replace hU := hU.trans hu1 (by first | exact (fun _ _ h => h) | exact (fun _ _ h => h.elim) | (intro k hl hk; (try simp only [At, New, Grow, From, No] at hk ⊢); omega) | (intro k hl hk; first | (have := (hMb k hk).1; omega) | (have := (hFb k hk).1; omega)))
  replace hL := hL.upd hu1 (by first | exact (fun _ _ _ h => h) | (intro k hk hl hS; have : k < w.heap.size := hk; first | (have := (hMb k hS).1; omega) | (have := (hFb k hS).1; omega) | (simp only [At, New, Grow, From, No] at hS; omega)))
  refine WL.val rfl rfl rfl rfl (r_not rfl (ev_t rfl)) ?_
  refine WL.val rfl rfl rfl rfl (r_move rfl (ev_t rfl)) ?_
  refine WL.cases 12 rfl (fun hb1_2 => ?_) (fun hb1_2 => ?_)
  · try (exfalso; first | (simp at hb1_2; done) | (simp only [decide_eq_true_eq, decide_eq_false_iff_not, Bool.not_eq_true', Bool.not_eq_false', Bool.not_eq_true, Bool.not_eq_false] at hb1_2; omega) | omega)
    all_goals
      try simp only [decide_eq_true_eq, decide_eq_false_iff_not, Bool.not_eq_true', Bool.not_eq_false', Bool.not_eq_true, Bool.not_eq_false, Option.isNone_none, Option.isNone_some, Option.isSome_none, Option.isSome_some, ne_eq, Decidable.not_not] at hb1_2
      refine WL.skip rfl rfl rfl ?_
      refine WL.skip rfl rfl rfl ?_
      refine WL.skip rfl rfl rfl ?_
      refine WL.val rfl rfl rfl rfl (r_pickT rfl (ev_t rfl) ev_c) ?_
      refine WL.nil ?_
      refine WX.keep [(0, _), (16, _)] ⟨rfl, rfl, trivial⟩ ?_
      refine WX.next ?_
      refine WC.cond_true rfl (ev_t rfl) ?_
      refine WC.seq ?_
      -- region 2 law.go:27
      refine WC.region ?_
      refine WL.cons (SO.call (awake1_ok _) rfl body_19 trivial rfl rfl rfl rfl ?_)
      rintro v w2 ⟨rfl, hu2⟩
      have hs2 := hu2.size
      replace hU := hU.trans hu2 (by first | exact (fun _ _ h => h) | exact (fun _ _ h => h.elim) | (intro k hl hk; (try simp only [At, New, Grow, From, No] at hk ⊢); omega) | (intro k hl hk; first | (have := (hMb k hk).1; omega) | (have := (hFb k hk).1; omega)))
      replace hL := hL.upd hu2 (by first | exact (fun _ _ _ h => h) | (intro k hk hl hS; have : k < w.heap.size := hk; first | (have := (hMb k hS).1; omega) | (have := (hFb k hS).1; omega) | (simp only [At, New, Grow, From, No] at hS; omega)))
      refine WL.val rfl rfl rfl rfl (r_assign rfl (ev_t rfl)) ?_
      refine WL.nil ?_
      refine WX.keep [(2, _)] ⟨rfl, trivial⟩ ?_
      refine WX.next ?_
      refine WC.ret ?_
      refine WX.thenRet ?_
      refine WX.retE1 rfl rfl ?_
      exact ⟨rfl, hU⟩
  · try (exfalso; first | (simp at hb1_2; done) | (simp only [decide_eq_true_eq, decide_eq_false_iff_not, Bool.not_eq_true', Bool.not_eq_false', Bool.not_eq_true, Bool.not_eq_false] at hb1_2; omega) | omega)
    all_goals
      try simp only [decide_eq_true_eq, decide_eq_false_iff_not, Bool.not_eq_true', Bool.not_eq_false', Bool.not_eq_true, Bool.not_eq_false, Option.isNone_none, Option.isNone_some, Option.isSome_none, Option.isSome_some, ne_eq, Decidable.not_not] at hb1_2
      refine WL.val rfl rfl rfl rfl (r_move rfl (ev_t rfl)) ?_
      refine WL.val rfl rfl rfl rfl (r_lenSlice (ts := #[]) rfl (ev_t rfl) elem_81) ?_
      refine WL.val rfl rfl rfl rfl (r_gtr rfl (ev_t rfl) ev_c) ?_
      refine WL.val rfl rfl rfl rfl (r_pickF rfl (ev_t rfl) (ev_t rfl)) ?_
      refine WL.nil ?_
      refine WX.keep [(0, _), (16, _)] ⟨rfl, rfl, trivial⟩ ?_
      refine WX.next ?_
      refine WC.cond rfl (ev_t rfl) (fun hc1 => ?_) (fun hc1 => ?_)
      · try (exfalso; first | (simp at hc1; done) | (simp only [decide_eq_true_eq, decide_eq_false_iff_not, Bool.not_eq_true', Bool.not_eq_false', Bool.not_eq_true, Bool.not_eq_false] at hc1; omega) | omega)
        all_goals
          try simp only [decide_eq_true_eq, decide_eq_false_iff_not, Bool.not_eq_true', Bool.not_eq_false', Bool.not_eq_true, Bool.not_eq_false, Option.isNone_none, Option.isNone_some, Option.isSome_none, Option.isSome_some, ne_eq, Decidable.not_not] at hc1
          refine WC.seq ?_
          -- region 2 law.go:27
          refine WC.region ?_
          refine WL.cons (SO.call (awake1_ok _) rfl body_19 trivial rfl rfl rfl rfl ?_)
          rintro v w3 ⟨rfl, hu3⟩
          have hs3 := hu3.size
          replace hU := hU.trans hu3 (by first | exact (fun _ _ h => h) | exact (fun _ _ h => h.elim) | (intro k hl hk; (try simp only [At, New, Grow, From, No] at hk ⊢); omega) | (intro k hl hk; first | (have := (hMb k hk).1; omega) | (have := (hFb k hk).1; omega)))
          replace hL := hL.upd hu3 (by first | exact (fun _ _ _ h => h) | (intro k hk hl hS; have : k < w.heap.size := hk; first | (have := (hMb k hS).1; omega) | (have := (hFb k hS).1; omega) | (simp only [At, New, Grow, From, No] at hS; omega)))
          refine WL.val rfl rfl rfl rfl (r_assign rfl (ev_t rfl)) ?_
          refine WL.nil ?_
          refine WX.keep [(2, _)] ⟨rfl, trivial⟩ ?_
          refine WX.next ?_
          refine WC.ret ?_
          refine WX.thenRet ?_
          refine WX.retE1 rfl rfl ?_
          exact ⟨rfl, hU⟩
      · try (exfalso; first | (simp at hc1; done) | (simp only [decide_eq_true_eq, decide_eq_false_iff_not, Bool.not_eq_true', Bool.not_eq_false', Bool.not_eq_true, Bool.not_eq_false] at hc1; omega) | omega)
        all_goals
          try simp only [decide_eq_true_eq, decide_eq_false_iff_not, Bool.not_eq_true', Bool.not_eq_false', Bool.not_eq_true, Bool.not_eq_false, Option.isNone_none, Option.isNone_some, Option.isSome_none, Option.isSome_some, ne_eq, Decidable.not_not] at hc1
          refine WC.skip ?_
          refine WX.next ?_
          refine WC.seq ?_
          -- region 3 law.go:29
          refine WC.region ?_
          refine WL.val rfl rfl rfl rfl (r_build (cs := #[_]) (vs := []) rfl trivial plc_39 zero_39 rfl) ?_
          refine WL.cons (SO.alloc rfl rfl rfl rfl (r_boxAgg rfl (ev_t rfl)) ?_)
          intro w4 hu4 hB4 hz4
          have hs4 := hu4.size
          replace hU := hU.trans hu4 (by first | exact (fun _ _ h => h) | exact (fun _ _ h => h.elim) | (intro k hl hk; (try simp only [At, New, Grow, From, No] at hk ⊢); omega) | (intro k hl hk; first | (have := (hMb k hk).1; omega) | (have := (hFb k hk).1; omega)))
          replace hL := hL.upd hu4 (by first | exact (fun _ _ _ h => h) | (intro k hk hl hS; have : k < w.heap.size := hk; first | (have := (hMb k hS).1; omega) | (have := (hFb k hS).1; omega) | (simp only [At, New, Grow, From, No] at hS; omega)))
          refine WL.val rfl rfl rfl rfl (r_assign rfl (ev_t rfl)) ?_
          refine WL.nil ?_
          refine WX.keep [(0, _), (3, _)] ⟨rfl, rfl, trivial⟩ ?_
          have hW := IsW.of (M := fun k => w1.heap.size ≤ k ∧ k < w4.heap.size) hB4 ⟨by omega, by omega⟩
          refine WX.next ?_
          refine WC.seq ?_
          -- region 4 law.go:30
          refine WC.region ?_
          refine WL.val rfl rfl rfl rfl (r_assign rfl ev_c) ?_
          refine WL.nil ?_
          refine WX.keep [(0, _), (3, _), (4, _)] ⟨rfl, rfl, rfl, trivial⟩ ?_
          refine WX.next ?_
          refine WC.seq ?_
          refine WC.seq ?_
          -- region 5 law.go:31
          refine WC.region ?_
          refine WL.val rfl rfl rfl rfl (r_assign rfl ev_c) ?_
          refine WL.nil ?_
          refine WX.keep [(0, _), (3, _), (4, _), (5, _)] ⟨rfl, rfl, rfl, rfl, trivial⟩ ?_
          refine WX.next ?_
          refine WC.block ?_
          -- loop 1: live [0, 3, 4, 5]
          refine WC.keep [(0, _), (3, _), (4, _), (5, _)] ⟨rfl, rfl, rfl, rfl, trivial⟩ ?_
          refine WC.loop (fun q E w' => ∃ (i : Nat) (M F2 : Nat → Prop) (A4 : Option Addr) (c4 : Nat), i ≤ n ∧ q = n - i ∧ Upd No w w' ∧ w4.heap.size ≤ w'.heap.size ∧ IsW w' M w1.heap.size (outs K N B i) ∧ Own w' F2 5 1 (.slice A4 (outs K N B i).length c4) (outs K N B i).length ((outs K N B i).map U8) ∧   (∀ k, M k → w1.heap.size ≤ k ∧ k < w'.heap.size) ∧ (∀ k, F2 k → w1.heap.size ≤ k ∧ k < w'.heap.size) ∧ (∀ k, M k → ¬ F2 k) ∧ IsL w' (fun k => k < w.heap.size) (.slice A1 n c1) n K N V B ∧ (∀ j, j < i → (B j).length ≤ 5000) ∧ (outs K N B i).length ≤ 5009 * i ∧   E = [(0, .slice A1 n c1), (3, .pointer (some ⟨w1.heap.size, 0, none⟩)), (4, .slice A4 (outs K N B i).length c4), (5, .int .i64 (i : Int))]) (n) ?_ ?_
          · exact ⟨0, _, fun _ => False, none, 0, by omega, by omega, hU, by omega, hW, Own.nil _ _ _ _, fun k h => ⟨h.1, by have := h.2; omega⟩, fun k h => h.elim, fun k _ h => h.elim, hL, fun j hj => by omega, by simp [outs], rfl⟩
          · rintro q E w' ⟨i, M, F2, A4, c4, hi, rfl, hU, hs4', hW, hO, hMb, hFb, hd, hL, hB5, hol, rfl⟩
            have hs0 := hU.size
            refine WC.seq ?_
            refine WC.seq ?_
            -- region 6 law.go:31
            refine WC.region ?_
            refine WL.val rfl rfl rfl rfl (r_move rfl (ev_t rfl)) ?_
            refine WL.val rfl rfl rfl rfl (r_move rfl (ev_t rfl)) ?_
            refine WL.val rfl rfl rfl rfl (r_lenSlice (ts := #[]) rfl (ev_t rfl) elem_81) ?_
            refine WL.val rfl rfl rfl rfl (r_lss rfl (ev_t rfl) (ev_t rfl)) ?_
            refine WL.nil ?_
            refine WX.keep [(0, _), (3, _), (4, _), (5, _), (23, _)] ⟨rfl, rfl, rfl, rfl, rfl, trivial⟩ ?_
            refine WX.next ?_
            refine WC.cond rfl (ev_t rfl) (fun hc6 => ?_) (fun hc6 => ?_)
            · try (exfalso; first | (simp at hc6; done) | (simp only [decide_eq_true_eq, decide_eq_false_iff_not, Bool.not_eq_true', Bool.not_eq_false', Bool.not_eq_true, Bool.not_eq_false] at hc6; omega) | omega)
              all_goals
                try simp only [decide_eq_true_eq, decide_eq_false_iff_not, Bool.not_eq_true', Bool.not_eq_false', Bool.not_eq_true, Bool.not_eq_false, Option.isNone_none, Option.isNone_some, Option.isSome_none, Option.isSome_some, ne_eq, Decidable.not_not] at hc6
                have hin : i < n := by omega
                obtain ⟨b, off, rfl, _⟩ := hL.1.open (by omega)
                obtain ⟨Ai, ci, hVi, _⟩ := (hL.2 i hin).slice_form
                have hpk := putC_k (K := K) (N := N) (V := V) hin
                have hpn := putC_n (K := K) (N := N) (V := V) hin
                have hpb := putC_b (K := K) (N := N) (V := V) hin
                rw [hVi] at hpb
                have hNi := hN i
                have hwr := wrap_i64_range (N i : Int)
                refine WC.skip ?_
                refine WX.next ?_
                refine WC.seq ?_
                refine WC.block ?_
                refine WC.seq ?_
                refine WC.seq ?_
                -- region 8 law.go:32
                refine WC.region ?_
                refine WL.val rfl rfl rfl rfl (r_move rfl (ev_t rfl)) ?_
                refine WL.val rfl rfl rfl rfl (r_move rfl (ev_t rfl)) ?_
                refine WL.val rfl rfl rfl rfl (r_indexAddr rfl (ev_t rfl) (ev_t rfl) elem_81 size_83 (by omega) (by omega)) ?_
                first | refine WL.val rfl rfl rfl rfl (r_field0 rfl (ev_t rfl) fld_83_2) ?_ | refine WL.val rfl rfl rfl rfl (r_fieldAt rfl (ev_t rfl) fld_83_2) ?_
                refine WL.val rfl rfl rfl rfl (r_load rfl (ev_t rfl) flat_37 (hL.1.cell (j := i * 3 + 2) (by omega) hpb)) ?_
                refine WL.val rfl rfl rfl rfl (r_lenSlice (ts := #[]) rfl (ev_t rfl) elem_37) ?_
                refine WL.val rfl rfl rfl rfl (r_gtr rfl (ev_t rfl) ev_c) ?_
                refine WL.nil ?_
                refine WX.keep [(0, _), (3, _), (4, _), (5, _), (32, _)] ⟨rfl, rfl, rfl, rfl, rfl, trivial⟩ ?_
                refine WX.next ?_
                refine WC.cond rfl (ev_t rfl) (fun hc8 => ?_) (fun hc8 => ?_)
                · try (exfalso; first | (simp at hc8; done) | (simp only [decide_eq_true_eq, decide_eq_false_iff_not, Bool.not_eq_true', Bool.not_eq_false', Bool.not_eq_true, Bool.not_eq_false] at hc8; omega) | omega)
                  all_goals
                    try simp only [decide_eq_true_eq, decide_eq_false_iff_not, Bool.not_eq_true', Bool.not_eq_false', Bool.not_eq_true, Bool.not_eq_false, Option.isNone_none, Option.isNone_some, Option.isSome_none, Option.isSome_some, ne_eq, Decidable.not_not] at hc8
                    refine WC.seq ?_
                    -- region 9 law.go:33
                    refine WC.region ?_
                    refine WL.val rfl rfl rfl rfl (r_assign rfl ev_c) ?_
                    refine WL.nil ?_
                    refine WX.keep [(2, _)] ⟨rfl, trivial⟩ ?_
                    refine WX.next ?_
                    refine WC.ret ?_
                    refine WX.thenRet ?_
                    refine WX.blockRet ?_
                    refine WX.thenRet ?_
                    refine WX.thenRet ?_
                    refine WX.blockRet ?_
                    refine WX.thenRet ?_
                    refine WX.retE1 rfl rfl ?_
                    exact ⟨rfl, hU⟩
                · try (exfalso; first | (simp at hc8; done) | (simp only [decide_eq_true_eq, decide_eq_false_iff_not, Bool.not_eq_true', Bool.not_eq_false', Bool.not_eq_true, Bool.not_eq_false] at hc8; omega) | omega)
                  all_goals
                    try simp only [decide_eq_true_eq, decide_eq_false_iff_not, Bool.not_eq_true', Bool.not_eq_false', Bool.not_eq_true, Bool.not_eq_false, Option.isNone_none, Option.isNone_some, Option.isSome_none, Option.isSome_some, ne_eq, Decidable.not_not] at hc8
                    have hBi5 : (B i).length ≤ 5000 := by omega
                    have hel := encP_len (K := K) (B := B) hNi hBi5
                    have hol1 : (outs K N B (i + 1)).length = (outs K N B i).length + (encP K N B i).length := by rw [outs_succ, List.length_append]
                    refine WC.skip ?_
                    refine WX.next ?_
                    refine WC.seq ?_
                    -- region 10 law.go:35
                    refine WC.region ?_
                    refine WL.val rfl rfl rfl rfl (r_move rfl (ev_t rfl)) ?_
                    refine WL.val rfl rfl rfl rfl (r_move rfl (ev_t rfl)) ?_
                    refine WL.val rfl rfl rfl rfl (r_indexAddr rfl (ev_t rfl) (ev_t rfl) elem_81 size_83 (by omega) (by omega)) ?_
                    first | refine WL.val rfl rfl rfl rfl (r_field0 rfl (ev_t rfl) fld_83_0) ?_ | refine WL.val rfl rfl rfl rfl (r_fieldAt rfl (ev_t rfl) fld_83_0) ?_
                    refine WL.val rfl rfl rfl rfl (r_load rfl (ev_t rfl) flat_5 (hL.1.cell (j := i * 3) (by omega) hpk)) ?_
                    first | refine WL.val rfl rfl rfl rfl (r_remN rfl (ev_t rfl) ev_c (by omega) (by omega)) ?_ | refine WL.val rfl rfl rfl rfl (r_rem rfl (ev_t rfl) ev_c (by omega)) ?_
                    refine WL.nil ?_
                    refine WX.keep [(0, _), (3, _), (4, _), (5, _), (38, _)] ⟨rfl, rfl, rfl, rfl, rfl, trivial⟩ ?_
                    refine WX.next ?_
                    refine WC.block ?_
                    refine WC.seq ?_
                    -- region 13 law.go:36
                    refine WC.region ?_
                    refine WL.val rfl rfl rfl rfl (r_eql rfl (ev_t rfl) ev_c) ?_
                    refine WL.val rfl rfl rfl rfl (r_assign rfl (ev_t rfl)) ?_
                    refine WL.nil ?_
                    refine WX.keep [(0, _), (3, _), (4, _), (5, _), (38, _), (55, _)] ⟨rfl, rfl, rfl, rfl, rfl, rfl, trivial⟩ ?_
                    refine WX.next ?_
                    refine WC.cond rfl (ev_t rfl) (fun hc13 => ?_) (fun hc13 => ?_)
                    · try (exfalso; first | (simp at hc13; done) | (simp only [decide_eq_true_eq, decide_eq_false_iff_not, Bool.not_eq_true', Bool.not_eq_false', Bool.not_eq_true, Bool.not_eq_false] at hc13; omega) | omega)
                      all_goals
                        try simp only [decide_eq_true_eq, decide_eq_false_iff_not, Bool.not_eq_true', Bool.not_eq_false', Bool.not_eq_true, Bool.not_eq_false, Option.isNone_none, Option.isNone_some, Option.isSome_none, Option.isSome_some, ne_eq, Decidable.not_not] at hc13
                        have hen : encP K N B i = encU (N i) := by unfold encP; rw [if_pos (by omega)]
                        refine WC.seq ?_
                        -- region 14 law.go:37
                        refine WC.region ?_
                        refine WL.val rfl rfl rfl rfl (r_move rfl (ev_t rfl)) ?_
                        refine WL.val rfl rfl rfl rfl (r_move rfl (ev_t rfl)) ?_
                        refine WL.val rfl rfl rfl rfl (r_move rfl (ev_t rfl)) ?_
                        refine WL.val rfl rfl rfl rfl (r_indexAddr rfl (ev_t rfl) (ev_t rfl) elem_81 size_83 (by omega) (by omega)) ?_
                        first | refine WL.val rfl rfl rfl rfl (r_field0 rfl (ev_t rfl) fld_83_1) ?_ | refine WL.val rfl rfl rfl rfl (r_fieldAt rfl (ev_t rfl) fld_83_1) ?_
                        refine WL.val rfl rfl rfl rfl (r_load rfl (ev_t rfl) flat_35 (hL.1.cell (j := i * 3 + 1) (by omega) hpn)) ?_
                        refine WL.cons (SO.call (wuint_ok hW hNi (by omega)) rfl body_20 ⟨(ev_t rfl), (ev_t rfl), trivial⟩ rfl rfl rfl rfl ?_)
                        rintro v w5 ⟨rfl, hW, hu5⟩
                        rw [← hen, ← outs_succ] at hW
                        have hs5 := hu5.size
                        replace hU := hU.trans hu5 (by first | exact (fun _ _ h => h) | exact (fun _ _ h => h.elim) | (intro k hl hk; (try simp only [At, New, Grow, From, No] at hk ⊢); omega) | (intro k hl hk; first | (have := (hMb k hk).1; omega) | (have := (hFb k hk).1; omega)))
                        replace hL := hL.upd hu5 (by first | exact (fun _ _ _ h => h) | (intro k hk hl hS; have : k < w.heap.size := hk; first | (have := (hMb k hS).1; omega) | (have := (hFb k hS).1; omega) | (simp only [At, New, Grow, From, No] at hS; omega)))
                        replace hO := hO.upd hu5 (by first | exact (fun _ _ _ h => h) | exact (fun k hk _ hM => hd k hM hk) | (intro k hk hl hS; have := (hFb k hk).2; simp only [At, New, Grow, From, No] at hS; omega))
                        obtain ⟨hMb, hd, hFb, hd'⟩ := grow_pack hMb hFb hd (Nat.le_refl _) (by omega) (by omega)
                        refine WL.nil ?_
                        refine WX.keep [(0, _), (3, _), (4, _), (5, _)] ⟨rfl, rfl, rfl, rfl, trivial⟩ ?_
                        refine WX.next ?_
                        -- region 15 law.go:38
                        refine WC.region ?_
                        refine WL.val rfl rfl rfl rfl (r_move rfl (ev_t rfl)) ?_
                        refine WL.val rfl rfl rfl rfl (r_move rfl (ev_t rfl)) ?_
                        refine WL.val rfl rfl rfl rfl (r_move rfl (ev_t rfl)) ?_
                        refine WL.val rfl rfl rfl rfl (r_indexAddr rfl (ev_t rfl) (ev_t rfl) elem_81 size_83 (by omega) (by omega)) ?_
                        first | refine WL.val rfl rfl rfl rfl (r_field0 rfl (ev_t rfl) fld_83_1) ?_ | refine WL.val rfl rfl rfl rfl (r_fieldAt rfl (ev_t rfl) fld_83_1) ?_
                        refine WL.val rfl rfl rfl rfl (r_load rfl (ev_t rfl) flat_35 (hL.1.cell (j := i * 3 + 1) (by omega) hpn)) ?_
                        refine WL.cons (SO.call (refUint_ok hNi) rfl body_47 ⟨(ev_t rfl), trivial⟩ rfl rfl rfl rfl ?_)
                        rintro v1 w6 ⟨hE, hu6⟩
                        rw [← hen] at hE
                        have hs6 := hu6.size
                        replace hU := hU.trans hu6 (by first | exact (fun _ _ h => h) | exact (fun _ _ h => h.elim) | (intro k hl hk; (try simp only [At, New, Grow, From, No] at hk ⊢); omega) | (intro k hl hk; first | (have := (hMb k hk).1; omega) | (have := (hFb k hk).1; omega)))
                        replace hL := hL.upd hu6 (by first | exact (fun _ _ _ h => h) | (intro k hk hl hS; have : k < w.heap.size := hk; first | (have := (hMb k hS).1; omega) | (have := (hFb k hS).1; omega) | (simp only [At, New, Grow, From, No] at hS; omega)))
                        replace hO := hO.upd hu6 (by first | exact (fun _ _ _ h => h) | exact (fun k hk _ hM => hd k hM hk) | (intro k hk hl hS; have := (hFb k hk).2; simp only [At, New, Grow, From, No] at hS; omega))
                        replace hW := hW.upd hu6 (by first | exact (fun _ _ _ h => h) | exact (fun k hk _ hF => hd k hk hF))
                        refine WL.cons (SO.append hO (hE.rd (by omega)) row_37 (U8_one _) (le_maxLen (by omega)) (by omega) rfl (ev_t rfl) (ev_t rfl) rfl rfl rfl rfl ?_)
                        intro v7 w7 hO hu7
                        have hs7 := hu7.size
                        replace hU := hU.trans hu7 (by first | exact (fun _ _ h => h) | exact (fun _ _ h => h.elim) | (intro k hl hk; (try simp only [At, New, Grow, From, No] at hk ⊢); omega) | (intro k hl hk; first | (have := (hMb k hk).1; omega) | (have := (hFb k hk).1; omega)))
                        replace hL := hL.upd hu7 (by first | exact (fun _ _ _ h => h) | (intro k hk hl hS; have : k < w.heap.size := hk; first | (have := (hMb k hS).1; omega) | (have := (hFb k hS).1; omega) | (simp only [At, New, Grow, From, No] at hS; omega)))
                        replace hW := hW.upd hu7 (by first | exact (fun _ _ _ h => h) | exact (fun k hk _ hF => hd k hk hF))
                        replace hE := hE.upd hu7 (by first | exact (fun _ _ _ h => h) | (intro k hk hl hS; have := hk.1; have := (hFb k hS).2; omega))
                        obtain ⟨A7, c7, rfl, hc7⟩ := Own.form hO
                        rw [← List.map_append, ← outs_succ] at hO
                        obtain ⟨hFb, hd', hMb, hd⟩ := grow_pack hFb hMb hd' (by omega) (by omega) (by omega)
                        refine WL.val rfl rfl rfl rfl (r_assign rfl (ev_t rfl)) ?_
                        refine WL.nil ?_
                        refine WX.keep [(0, _), (3, _), (4, _), (5, _)] ⟨rfl, rfl, rfl, rfl, trivial⟩ ?_
                        refine WX.blockNormal ?_
                        refine WX.blockNormal ?_
                        refine WX.next ?_
                        -- region 7 law.go:31
                        refine WC.region ?_
                        refine WL.val rfl rfl rfl rfl (r_move rfl (ev_t rfl)) ?_
                        first | refine WL.val rfl rfl rfl rfl (r_addN rfl (ev_t rfl) ev_c (by simp only [inK]; omega)) ?_ | refine WL.val rfl rfl rfl rfl (r_add rfl (ev_t rfl) ev_c) ?_
                        refine WL.val rfl rfl rfl rfl (r_assign rfl (ev_t rfl)) ?_
                        refine WL.nil ?_
                        refine WX.keep [(0, _), (3, _), (4, _), (5, _)] ⟨rfl, rfl, rfl, rfl, trivial⟩ ?_
                        refine WX.meet [(0, _), (3, _), (4, _), (5, _)] ⟨rfl, rfl, rfl, rfl, trivial⟩ ?_
                        rw [← hol1] at hO ⊢
                        exact ⟨n - (i + 1), by omega, i + 1, _, _, _, _, by omega, rfl, hU, by omega, hW, hO, hMb, hFb, hd, hL, fun j hj => by
                          rcases Nat.lt_or_ge j i with h | h
                          · exact hB5 j h
                          · obtain rfl : j = i := by omega
                            exact hBi5, by omega, rfl⟩
                    · try (exfalso; first | (simp at hc13; done) | (simp only [decide_eq_true_eq, decide_eq_false_iff_not, Bool.not_eq_true', Bool.not_eq_false', Bool.not_eq_true, Bool.not_eq_false] at hc13; omega) | omega)
                      all_goals
                        try simp only [decide_eq_true_eq, decide_eq_false_iff_not, Bool.not_eq_true', Bool.not_eq_false', Bool.not_eq_true, Bool.not_eq_false, Option.isNone_none, Option.isNone_some, Option.isSome_none, Option.isSome_some, ne_eq, Decidable.not_not] at hc13
                        refine WC.seq ?_
                        -- region 16 law.go:39
                        refine WC.region ?_
                        refine WL.val rfl rfl rfl rfl (r_eql rfl (ev_t rfl) ev_c) ?_
                        refine WL.val rfl rfl rfl rfl (r_assign rfl (ev_t rfl)) ?_
                        refine WL.nil ?_
                        refine WX.keep [(0, _), (3, _), (4, _), (5, _), (38, _), (72, _)] ⟨rfl, rfl, rfl, rfl, rfl, rfl, trivial⟩ ?_
                        refine WX.next ?_
                        refine WC.cond rfl (ev_t rfl) (fun hc16 => ?_) (fun hc16 => ?_)
                        · try (exfalso; first | (simp at hc16; done) | (simp only [decide_eq_true_eq, decide_eq_false_iff_not, Bool.not_eq_true', Bool.not_eq_false', Bool.not_eq_true, Bool.not_eq_false] at hc16; omega) | omega)
                          all_goals
                            try simp only [decide_eq_true_eq, decide_eq_false_iff_not, Bool.not_eq_true', Bool.not_eq_false', Bool.not_eq_true, Bool.not_eq_false, Option.isNone_none, Option.isNone_some, Option.isSome_none, Option.isSome_some, ne_eq, Decidable.not_not] at hc16
                            have hen : encP K N B i = encU (zig (IntKind.i64.wrap (N i : Int))) := by unfold encP; rw [if_neg (by omega), if_pos (by omega)]
                            refine WC.seq ?_
                            -- region 17 law.go:40
                            refine WC.region ?_
                            refine WL.val rfl rfl rfl rfl (r_move rfl (ev_t rfl)) ?_
                            refine WL.val rfl rfl rfl rfl (r_move rfl (ev_t rfl)) ?_
                            refine WL.val rfl rfl rfl rfl (r_move rfl (ev_t rfl)) ?_
                            refine WL.val rfl rfl rfl rfl (r_indexAddr rfl (ev_t rfl) (ev_t rfl) elem_81 size_83 (by omega) (by omega)) ?_
                            first | refine WL.val rfl rfl rfl rfl (r_field0 rfl (ev_t rfl) fld_83_1) ?_ | refine WL.val rfl rfl rfl rfl (r_fieldAt rfl (ev_t rfl) fld_83_1) ?_
                            refine WL.val rfl rfl rfl rfl (r_load rfl (ev_t rfl) flat_35 (hL.1.cell (j := i * 3 + 1) (by omega) hpn)) ?_
                            refine WL.val rfl rfl rfl rfl (r_conv rfl (ev_t rfl) some_35 int_2) ?_
                            refine WL.cons (SO.call (wint_ok hW hwr.1 hwr.2 (by omega)) rfl body_48 ⟨(ev_t rfl), (ev_t rfl), trivial⟩ rfl rfl rfl rfl ?_)
                            rintro v w8 ⟨rfl, hW, hu8⟩
                            rw [← hen, ← outs_succ] at hW
                            have hs8 := hu8.size
                            replace hU := hU.trans hu8 (by first | exact (fun _ _ h => h) | exact (fun _ _ h => h.elim) | (intro k hl hk; (try simp only [At, New, Grow, From, No] at hk ⊢); omega) | (intro k hl hk; first | (have := (hMb k hk).1; omega) | (have := (hFb k hk).1; omega)))
                            replace hL := hL.upd hu8 (by first | exact (fun _ _ _ h => h) | (intro k hk hl hS; have : k < w.heap.size := hk; first | (have := (hMb k hS).1; omega) | (have := (hFb k hS).1; omega) | (simp only [At, New, Grow, From, No] at hS; omega)))
                            replace hO := hO.upd hu8 (by first | exact (fun _ _ _ h => h) | exact (fun k hk _ hM => hd k hM hk) | (intro k hk hl hS; have := (hFb k hk).2; simp only [At, New, Grow, From, No] at hS; omega))
                            obtain ⟨hMb, hd, hFb, hd'⟩ := grow_pack hMb hFb hd (Nat.le_refl _) (by omega) (by omega)
                            refine WL.nil ?_
                            refine WX.keep [(0, _), (3, _), (4, _), (5, _)] ⟨rfl, rfl, rfl, rfl, trivial⟩ ?_
                            refine WX.next ?_
                            -- region 18 law.go:41
                            refine WC.region ?_
                            refine WL.val rfl rfl rfl rfl (r_move rfl (ev_t rfl)) ?_
                            refine WL.val rfl rfl rfl rfl (r_move rfl (ev_t rfl)) ?_
                            refine WL.val rfl rfl rfl rfl (r_move rfl (ev_t rfl)) ?_
                            refine WL.val rfl rfl rfl rfl (r_indexAddr rfl (ev_t rfl) (ev_t rfl) elem_81 size_83 (by omega) (by omega)) ?_
                            first | refine WL.val rfl rfl rfl rfl (r_field0 rfl (ev_t rfl) fld_83_1) ?_ | refine WL.val rfl rfl rfl rfl (r_fieldAt rfl (ev_t rfl) fld_83_1) ?_
                            refine WL.val rfl rfl rfl rfl (r_load rfl (ev_t rfl) flat_35 (hL.1.cell (j := i * 3 + 1) (by omega) hpn)) ?_
                            refine WL.val rfl rfl rfl rfl (r_conv rfl (ev_t rfl) some_35 int_2) ?_
                            refine WL.cons (SO.call (refInt_ok hwr.1 hwr.2) rfl body_49 ⟨(ev_t rfl), trivial⟩ rfl rfl rfl rfl ?_)
                            rintro v1 w9 ⟨hE, hu9⟩
                            rw [← hen] at hE
                            have hs9 := hu9.size
                            replace hU := hU.trans hu9 (by first | exact (fun _ _ h => h) | exact (fun _ _ h => h.elim) | (intro k hl hk; (try simp only [At, New, Grow, From, No] at hk ⊢); omega) | (intro k hl hk; first | (have := (hMb k hk).1; omega) | (have := (hFb k hk).1; omega)))
                            replace hL := hL.upd hu9 (by first | exact (fun _ _ _ h => h) | (intro k hk hl hS; have : k < w.heap.size := hk; first | (have := (hMb k hS).1; omega) | (have := (hFb k hS).1; omega) | (simp only [At, New, Grow, From, No] at hS; omega)))
                            replace hO := hO.upd hu9 (by first | exact (fun _ _ _ h => h) | exact (fun k hk _ hM => hd k hM hk) | (intro k hk hl hS; have := (hFb k hk).2; simp only [At, New, Grow, From, No] at hS; omega))
                            replace hW := hW.upd hu9 (by first | exact (fun _ _ _ h => h) | exact (fun k hk _ hF => hd k hk hF))
                            refine WL.cons (SO.append hO (hE.rd (by omega)) row_37 (U8_one _) (le_maxLen (by omega)) (by omega) rfl (ev_t rfl) (ev_t rfl) rfl rfl rfl rfl ?_)
                            intro v10 w10 hO hu10
                            have hs10 := hu10.size
                            replace hU := hU.trans hu10 (by first | exact (fun _ _ h => h) | exact (fun _ _ h => h.elim) | (intro k hl hk; (try simp only [At, New, Grow, From, No] at hk ⊢); omega) | (intro k hl hk; first | (have := (hMb k hk).1; omega) | (have := (hFb k hk).1; omega)))
                            replace hL := hL.upd hu10 (by first | exact (fun _ _ _ h => h) | (intro k hk hl hS; have : k < w.heap.size := hk; first | (have := (hMb k hS).1; omega) | (have := (hFb k hS).1; omega) | (simp only [At, New, Grow, From, No] at hS; omega)))
                            replace hW := hW.upd hu10 (by first | exact (fun _ _ _ h => h) | exact (fun k hk _ hF => hd k hk hF))
                            replace hE := hE.upd hu10 (by first | exact (fun _ _ _ h => h) | (intro k hk hl hS; have := hk.1; have := (hFb k hS).2; omega))
                            obtain ⟨A10, c10, rfl, hc10⟩ := Own.form hO
                            rw [← List.map_append, ← outs_succ] at hO
                            obtain ⟨hFb, hd', hMb, hd⟩ := grow_pack hFb hMb hd' (by omega) (by omega) (by omega)
                            refine WL.val rfl rfl rfl rfl (r_assign rfl (ev_t rfl)) ?_
                            refine WL.nil ?_
                            refine WX.keep [(0, _), (3, _), (4, _), (5, _)] ⟨rfl, rfl, rfl, rfl, trivial⟩ ?_
                            refine WX.blockNormal ?_
                            refine WX.blockNormal ?_
                            refine WX.next ?_
                            -- region 7 law.go:31
                            refine WC.region ?_
                            refine WL.val rfl rfl rfl rfl (r_move rfl (ev_t rfl)) ?_
                            first | refine WL.val rfl rfl rfl rfl (r_addN rfl (ev_t rfl) ev_c (by simp only [inK]; omega)) ?_ | refine WL.val rfl rfl rfl rfl (r_add rfl (ev_t rfl) ev_c) ?_
                            refine WL.val rfl rfl rfl rfl (r_assign rfl (ev_t rfl)) ?_
                            refine WL.nil ?_
                            refine WX.keep [(0, _), (3, _), (4, _), (5, _)] ⟨rfl, rfl, rfl, rfl, trivial⟩ ?_
                            refine WX.meet [(0, _), (3, _), (4, _), (5, _)] ⟨rfl, rfl, rfl, rfl, trivial⟩ ?_
                            rw [← hol1] at hO ⊢
                            exact ⟨n - (i + 1), by omega, i + 1, _, _, _, _, by omega, rfl, hU, by omega, hW, hO, hMb, hFb, hd, hL, fun j hj => by
                              rcases Nat.lt_or_ge j i with h | h
                              · exact hB5 j h
                              · obtain rfl : j = i := by omega
                                exact hBi5, by omega, rfl⟩
                        · try (exfalso; first | (simp at hc16; done) | (simp only [decide_eq_true_eq, decide_eq_false_iff_not, Bool.not_eq_true', Bool.not_eq_false', Bool.not_eq_true, Bool.not_eq_false] at hc16; omega) | omega)
                          all_goals
                            try simp only [decide_eq_true_eq, decide_eq_false_iff_not, Bool.not_eq_true', Bool.not_eq_false', Bool.not_eq_true, Bool.not_eq_false, Option.isNone_none, Option.isNone_some, Option.isSome_none, Option.isSome_some, ne_eq, Decidable.not_not] at hc16
                            have hen : encP K N B i = encU (B i).length ++ B i := by unfold encP; rw [if_neg (by omega), if_neg (by omega)]
                            refine WC.seq ?_
                            -- region 19 law.go:42
                            refine WC.region ?_
                            refine WL.val rfl rfl rfl rfl (r_eql rfl (ev_t rfl) ev_c) ?_
                            refine WL.val rfl rfl rfl rfl (r_assign rfl (ev_t rfl)) ?_
                            refine WL.nil ?_
                            refine WX.keep [(0, _), (3, _), (4, _), (5, _), (91, _)] ⟨rfl, rfl, rfl, rfl, rfl, trivial⟩ ?_
                            refine WX.next ?_
                            refine WC.cond rfl (ev_t rfl) (fun hc19 => ?_) (fun hc19 => ?_)
                            · try (exfalso; first | (simp at hc19; done) | (simp only [decide_eq_true_eq, decide_eq_false_iff_not, Bool.not_eq_true', Bool.not_eq_false', Bool.not_eq_true, Bool.not_eq_false] at hc19; omega) | omega)
                              all_goals
                                try simp only [decide_eq_true_eq, decide_eq_false_iff_not, Bool.not_eq_true', Bool.not_eq_false', Bool.not_eq_true, Bool.not_eq_false, Option.isNone_none, Option.isNone_some, Option.isSome_none, Option.isSome_some, ne_eq, Decidable.not_not] at hc19
                                refine WC.seq ?_
                                -- region 20 law.go:43
                                refine WC.region ?_
                                refine WL.val rfl rfl rfl rfl (r_move rfl (ev_t rfl)) ?_
                                refine WL.val rfl rfl rfl rfl (r_move rfl (ev_t rfl)) ?_
                                refine WL.val rfl rfl rfl rfl (r_move rfl (ev_t rfl)) ?_
                                refine WL.val rfl rfl rfl rfl (r_indexAddr rfl (ev_t rfl) (ev_t rfl) elem_81 size_83 (by omega) (by omega)) ?_
                                first | refine WL.val rfl rfl rfl rfl (r_field0 rfl (ev_t rfl) fld_83_2) ?_ | refine WL.val rfl rfl rfl rfl (r_fieldAt rfl (ev_t rfl) fld_83_2) ?_
                                refine WL.val rfl rfl rfl rfl (r_load rfl (ev_t rfl) flat_37 (hL.1.cell (j := i * 3 + 2) (by omega) hpb)) ?_
                                refine WL.cons (SO.call (wbytes_ok hW (by have h := hL.2 i hin; rw [hVi] at h; exact h) (fun k hk hM => by have : k < w.heap.size := hk; have := (hMb k hM).1; omega) (by omega)) rfl body_23 ⟨(ev_t rfl), (ev_t rfl), trivial⟩ rfl rfl rfl rfl ?_)
                                rintro v w11 ⟨rfl, hW, hu11⟩
                                rw [← hen, ← outs_succ] at hW
                                have hs11 := hu11.size
                                replace hU := hU.trans hu11 (by first | exact (fun _ _ h => h) | exact (fun _ _ h => h.elim) | (intro k hl hk; (try simp only [At, New, Grow, From, No] at hk ⊢); omega) | (intro k hl hk; first | (have := (hMb k hk).1; omega) | (have := (hFb k hk).1; omega)))
                                replace hL := hL.upd hu11 (by first | exact (fun _ _ _ h => h) | (intro k hk hl hS; have : k < w.heap.size := hk; first | (have := (hMb k hS).1; omega) | (have := (hFb k hS).1; omega) | (simp only [At, New, Grow, From, No] at hS; omega)))
                                replace hO := hO.upd hu11 (by first | exact (fun _ _ _ h => h) | exact (fun k hk _ hM => hd k hM hk) | (intro k hk hl hS; have := (hFb k hk).2; simp only [At, New, Grow, From, No] at hS; omega))
                                obtain ⟨hMb, hd, hFb, hd'⟩ := grow_pack hMb hFb hd (Nat.le_refl _) (by omega) (by omega)
                                refine WL.nil ?_
                                refine WX.keep [(0, _), (3, _), (4, _), (5, _)] ⟨rfl, rfl, rfl, rfl, trivial⟩ ?_
                                refine WX.next ?_
                                -- region 21 law.go:44
                                refine WC.region ?_
                                refine WL.val rfl rfl rfl rfl (r_move rfl (ev_t rfl)) ?_
                                refine WL.val rfl rfl rfl rfl (r_move rfl (ev_t rfl)) ?_
                                refine WL.val rfl rfl rfl rfl (r_move rfl (ev_t rfl)) ?_
                                refine WL.val rfl rfl rfl rfl (r_indexAddr rfl (ev_t rfl) (ev_t rfl) elem_81 size_83 (by omega) (by omega)) ?_
                                first | refine WL.val rfl rfl rfl rfl (r_field0 rfl (ev_t rfl) fld_83_2) ?_ | refine WL.val rfl rfl rfl rfl (r_fieldAt rfl (ev_t rfl) fld_83_2) ?_
                                refine WL.val rfl rfl rfl rfl (r_load rfl (ev_t rfl) flat_37 (hL.1.cell (j := i * 3 + 2) (by omega) hpb)) ?_
                                refine WL.cons (SO.call (refBytes_ok (by have h := hL.2 i hin; rw [hVi] at h; exact h) (by omega)) rfl body_50 ⟨(ev_t rfl), trivial⟩ rfl rfl rfl rfl ?_)
                                rintro v1 w12 ⟨hE, hu12⟩
                                rw [← hen] at hE
                                have hs12 := hu12.size
                                replace hU := hU.trans hu12 (by first | exact (fun _ _ h => h) | exact (fun _ _ h => h.elim) | (intro k hl hk; (try simp only [At, New, Grow, From, No] at hk ⊢); omega) | (intro k hl hk; first | (have := (hMb k hk).1; omega) | (have := (hFb k hk).1; omega)))
                                replace hL := hL.upd hu12 (by first | exact (fun _ _ _ h => h) | (intro k hk hl hS; have : k < w.heap.size := hk; first | (have := (hMb k hS).1; omega) | (have := (hFb k hS).1; omega) | (simp only [At, New, Grow, From, No] at hS; omega)))
                                replace hO := hO.upd hu12 (by first | exact (fun _ _ _ h => h) | exact (fun k hk _ hM => hd k hM hk) | (intro k hk hl hS; have := (hFb k hk).2; simp only [At, New, Grow, From, No] at hS; omega))
                                replace hW := hW.upd hu12 (by first | exact (fun _ _ _ h => h) | exact (fun k hk _ hF => hd k hk hF))
                                refine WL.cons (SO.append hO (hE.rd (by omega)) row_37 (U8_one _) (le_maxLen (by omega)) (by omega) rfl (ev_t rfl) (ev_t rfl) rfl rfl rfl rfl ?_)
                                intro v13 w13 hO hu13
                                have hs13 := hu13.size
                                replace hU := hU.trans hu13 (by first | exact (fun _ _ h => h) | exact (fun _ _ h => h.elim) | (intro k hl hk; (try simp only [At, New, Grow, From, No] at hk ⊢); omega) | (intro k hl hk; first | (have := (hMb k hk).1; omega) | (have := (hFb k hk).1; omega)))
                                replace hL := hL.upd hu13 (by first | exact (fun _ _ _ h => h) | (intro k hk hl hS; have : k < w.heap.size := hk; first | (have := (hMb k hS).1; omega) | (have := (hFb k hS).1; omega) | (simp only [At, New, Grow, From, No] at hS; omega)))
                                replace hW := hW.upd hu13 (by first | exact (fun _ _ _ h => h) | exact (fun k hk _ hF => hd k hk hF))
                                replace hE := hE.upd hu13 (by first | exact (fun _ _ _ h => h) | (intro k hk hl hS; have := hk.1; have := (hFb k hS).2; omega))
                                obtain ⟨A13, c13, rfl, hc13⟩ := Own.form hO
                                rw [← List.map_append, ← outs_succ] at hO
                                obtain ⟨hFb, hd', hMb, hd⟩ := grow_pack hFb hMb hd' (by omega) (by omega) (by omega)
                                refine WL.val rfl rfl rfl rfl (r_assign rfl (ev_t rfl)) ?_
                                refine WL.nil ?_
                                refine WX.keep [(0, _), (3, _), (4, _), (5, _)] ⟨rfl, rfl, rfl, rfl, trivial⟩ ?_
                                refine WX.blockNormal ?_
                                refine WX.blockNormal ?_
                                refine WX.next ?_
                                -- region 7 law.go:31
                                refine WC.region ?_
                                refine WL.val rfl rfl rfl rfl (r_move rfl (ev_t rfl)) ?_
                                first | refine WL.val rfl rfl rfl rfl (r_addN rfl (ev_t rfl) ev_c (by simp only [inK]; omega)) ?_ | refine WL.val rfl rfl rfl rfl (r_add rfl (ev_t rfl) ev_c) ?_
                                refine WL.val rfl rfl rfl rfl (r_assign rfl (ev_t rfl)) ?_
                                refine WL.nil ?_
                                refine WX.keep [(0, _), (3, _), (4, _), (5, _)] ⟨rfl, rfl, rfl, rfl, trivial⟩ ?_
                                refine WX.meet [(0, _), (3, _), (4, _), (5, _)] ⟨rfl, rfl, rfl, rfl, trivial⟩ ?_
                                rw [← hol1] at hO ⊢
                                exact ⟨n - (i + 1), by omega, i + 1, _, _, _, _, by omega, rfl, hU, by omega, hW, hO, hMb, hFb, hd, hL, fun j hj => by
                                  rcases Nat.lt_or_ge j i with h | h
                                  · exact hB5 j h
                                  · obtain rfl : j = i := by omega
                                    exact hBi5, by omega, rfl⟩
                            · try (exfalso; first | (simp at hc19; done) | (simp only [decide_eq_true_eq, decide_eq_false_iff_not, Bool.not_eq_true', Bool.not_eq_false', Bool.not_eq_true, Bool.not_eq_false] at hc19; omega) | omega)
                              all_goals
                                try simp only [decide_eq_true_eq, decide_eq_false_iff_not, Bool.not_eq_true', Bool.not_eq_false', Bool.not_eq_true, Bool.not_eq_false, Option.isNone_none, Option.isNone_some, Option.isSome_none, Option.isSome_some, ne_eq, Decidable.not_not] at hc19
                                refine WC.seq ?_
                                -- region 11 law.go:46
                                refine WC.region ?_
                                refine WL.val rfl rfl rfl rfl (r_move rfl (ev_t rfl)) ?_
                                refine WL.val rfl rfl rfl rfl (r_move rfl (ev_t rfl)) ?_
                                refine WL.val rfl rfl rfl rfl (r_move rfl (ev_t rfl)) ?_
                                refine WL.val rfl rfl rfl rfl (r_indexAddr rfl (ev_t rfl) (ev_t rfl) elem_81 size_83 (by omega) (by omega)) ?_
                                first | refine WL.val rfl rfl rfl rfl (r_field0 rfl (ev_t rfl) fld_83_2) ?_ | refine WL.val rfl rfl rfl rfl (r_fieldAt rfl (ev_t rfl) fld_83_2) ?_
                                refine WL.val rfl rfl rfl rfl (r_load rfl (ev_t rfl) flat_37 (hL.1.cell (j := i * 3 + 2) (by omega) hpb)) ?_
                                refine WL.val rfl rfl rfl rfl (r_toStr rfl (ev_t rfl) (by have h := hL.2 i hin; rw [hVi] at h; exact h) elem_37 int_5 str_9) ?_
                                refine WL.cons (SO.call (wtext_ok (s := ⟨(B i).toArray⟩) hW (by show _ + (B i).length ≤ _; omega)) rfl body_51 ⟨(ev_t rfl), (ev_t rfl), trivial⟩ rfl rfl rfl rfl ?_)
                                rintro v w14 ⟨rfl, hW, hu14⟩
                                rw [mk_toList, show (ByteArray.mk (B i).toArray).size = (B i).length from rfl, ← hen, ← outs_succ] at hW
                                have hs14 := hu14.size
                                replace hU := hU.trans hu14 (by first | exact (fun _ _ h => h) | exact (fun _ _ h => h.elim) | (intro k hl hk; (try simp only [At, New, Grow, From, No] at hk ⊢); omega) | (intro k hl hk; first | (have := (hMb k hk).1; omega) | (have := (hFb k hk).1; omega)))
                                replace hL := hL.upd hu14 (by first | exact (fun _ _ _ h => h) | (intro k hk hl hS; have : k < w.heap.size := hk; first | (have := (hMb k hS).1; omega) | (have := (hFb k hS).1; omega) | (simp only [At, New, Grow, From, No] at hS; omega)))
                                replace hO := hO.upd hu14 (by first | exact (fun _ _ _ h => h) | exact (fun k hk _ hM => hd k hM hk) | (intro k hk hl hS; have := (hFb k hk).2; simp only [At, New, Grow, From, No] at hS; omega))
                                obtain ⟨hMb, hd, hFb, hd'⟩ := grow_pack hMb hFb hd (Nat.le_refl _) (by omega) (by omega)
                                refine WL.nil ?_
                                refine WX.keep [(0, _), (3, _), (4, _), (5, _)] ⟨rfl, rfl, rfl, rfl, trivial⟩ ?_
                                refine WX.next ?_
                                -- region 12 law.go:47
                                refine WC.region ?_
                                refine WL.val rfl rfl rfl rfl (r_move rfl (ev_t rfl)) ?_
                                refine WL.val rfl rfl rfl rfl (r_move rfl (ev_t rfl)) ?_
                                refine WL.val rfl rfl rfl rfl (r_move rfl (ev_t rfl)) ?_
                                refine WL.val rfl rfl rfl rfl (r_indexAddr rfl (ev_t rfl) (ev_t rfl) elem_81 size_83 (by omega) (by omega)) ?_
                                first | refine WL.val rfl rfl rfl rfl (r_field0 rfl (ev_t rfl) fld_83_2) ?_ | refine WL.val rfl rfl rfl rfl (r_fieldAt rfl (ev_t rfl) fld_83_2) ?_
                                refine WL.val rfl rfl rfl rfl (r_load rfl (ev_t rfl) flat_37 (hL.1.cell (j := i * 3 + 2) (by omega) hpb)) ?_
                                refine WL.cons (SO.call (refBytes_ok (by have h := hL.2 i hin; rw [hVi] at h; exact h) (by omega)) rfl body_50 ⟨(ev_t rfl), trivial⟩ rfl rfl rfl rfl ?_)
                                rintro v1 w15 ⟨hE, hu15⟩
                                rw [← hen] at hE
                                have hs15 := hu15.size
                                replace hU := hU.trans hu15 (by first | exact (fun _ _ h => h) | exact (fun _ _ h => h.elim) | (intro k hl hk; (try simp only [At, New, Grow, From, No] at hk ⊢); omega) | (intro k hl hk; first | (have := (hMb k hk).1; omega) | (have := (hFb k hk).1; omega)))
                                replace hL := hL.upd hu15 (by first | exact (fun _ _ _ h => h) | (intro k hk hl hS; have : k < w.heap.size := hk; first | (have := (hMb k hS).1; omega) | (have := (hFb k hS).1; omega) | (simp only [At, New, Grow, From, No] at hS; omega)))
                                replace hO := hO.upd hu15 (by first | exact (fun _ _ _ h => h) | exact (fun k hk _ hM => hd k hM hk) | (intro k hk hl hS; have := (hFb k hk).2; simp only [At, New, Grow, From, No] at hS; omega))
                                replace hW := hW.upd hu15 (by first | exact (fun _ _ _ h => h) | exact (fun k hk _ hF => hd k hk hF))
                                refine WL.cons (SO.append hO (hE.rd (by omega)) row_37 (U8_one _) (le_maxLen (by omega)) (by omega) rfl (ev_t rfl) (ev_t rfl) rfl rfl rfl rfl ?_)
                                intro v16 w16 hO hu16
                                have hs16 := hu16.size
                                replace hU := hU.trans hu16 (by first | exact (fun _ _ h => h) | exact (fun _ _ h => h.elim) | (intro k hl hk; (try simp only [At, New, Grow, From, No] at hk ⊢); omega) | (intro k hl hk; first | (have := (hMb k hk).1; omega) | (have := (hFb k hk).1; omega)))
                                replace hL := hL.upd hu16 (by first | exact (fun _ _ _ h => h) | (intro k hk hl hS; have : k < w.heap.size := hk; first | (have := (hMb k hS).1; omega) | (have := (hFb k hS).1; omega) | (simp only [At, New, Grow, From, No] at hS; omega)))
                                replace hW := hW.upd hu16 (by first | exact (fun _ _ _ h => h) | exact (fun k hk _ hF => hd k hk hF))
                                replace hE := hE.upd hu16 (by first | exact (fun _ _ _ h => h) | (intro k hk hl hS; have := hk.1; have := (hFb k hS).2; omega))
                                obtain ⟨A16, c16, rfl, hc16⟩ := Own.form hO
                                rw [← List.map_append, ← outs_succ] at hO
                                obtain ⟨hFb, hd', hMb, hd⟩ := grow_pack hFb hMb hd' (by omega) (by omega) (by omega)
                                refine WL.val rfl rfl rfl rfl (r_assign rfl (ev_t rfl)) ?_
                                refine WL.nil ?_
                                refine WX.keep [(0, _), (3, _), (4, _), (5, _)] ⟨rfl, rfl, rfl, rfl, trivial⟩ ?_
                                refine WX.blockNormal ?_
                                refine WX.blockNormal ?_
                                refine WX.next ?_
                                -- region 7 law.go:31
                                refine WC.region ?_
                                refine WL.val rfl rfl rfl rfl (r_move rfl (ev_t rfl)) ?_
                                first | refine WL.val rfl rfl rfl rfl (r_addN rfl (ev_t rfl) ev_c (by simp only [inK]; omega)) ?_ | refine WL.val rfl rfl rfl rfl (r_add rfl (ev_t rfl) ev_c) ?_
                                refine WL.val rfl rfl rfl rfl (r_assign rfl (ev_t rfl)) ?_
                                refine WL.nil ?_
                                refine WX.keep [(0, _), (3, _), (4, _), (5, _)] ⟨rfl, rfl, rfl, rfl, trivial⟩ ?_
                                refine WX.meet [(0, _), (3, _), (4, _), (5, _)] ⟨rfl, rfl, rfl, rfl, trivial⟩ ?_
                                rw [← hol1] at hO ⊢
                                exact ⟨n - (i + 1), by omega, i + 1, _, _, _, _, by omega, rfl, hU, by omega, hW, hO, hMb, hFb, hd, hL, fun j hj => by
                                  rcases Nat.lt_or_ge j i with h | h
                                  · exact hB5 j h
                                  · obtain rfl : j = i := by omega
                                    exact hBi5, by omega, rfl⟩
            · try (exfalso; first | (simp at hc6; done) | (simp only [decide_eq_true_eq, decide_eq_false_iff_not, Bool.not_eq_true', Bool.not_eq_false', Bool.not_eq_true, Bool.not_eq_false] at hc6; omega) | omega)
              all_goals
                try simp only [decide_eq_true_eq, decide_eq_false_iff_not, Bool.not_eq_true', Bool.not_eq_false', Bool.not_eq_true, Bool.not_eq_false, Option.isNone_none, Option.isNone_some, Option.isSome_none, Option.isSome_some, ne_eq, Decidable.not_not] at hc6
                obtain rfl : n = i := by omega
                refine WC.exit ?_
                refine WX.thenExit ?_
                refine WX.thenExit ?_
                refine WX.blockHere ?_
                refine WX.next ?_
                refine WC.seq ?_
                -- region 22 law.go:50
                refine WC.region ?_
                refine WL.val rfl rfl rfl rfl (r_move rfl (ev_t rfl)) ?_
                refine WL.cons (SO.call (wdone_ok hW (by omega)) rfl body_21 ⟨(ev_t rfl), trivial⟩ rfl rfl rfl rfl ?_)
                rintro v6 w17 ⟨hP, hu17⟩
                have hs17 := hu17.size
                replace hU := hU.trans hu17 (by first | exact (fun _ _ h => h) | exact (fun _ _ h => h.elim) | (intro k hl hk; (try simp only [At, New, Grow, From, No] at hk ⊢); omega) | (intro k hl hk; first | (have := (hMb k hk).1; omega) | (have := (hFb k hk).1; omega)))
                replace hL := hL.upd hu17 (by first | exact (fun _ _ _ h => h) | (intro k hk hl hS; have : k < w.heap.size := hk; first | (have := (hMb k hS).1; omega) | (have := (hFb k hS).1; omega) | (simp only [At, New, Grow, From, No] at hS; omega)))
                replace hO := hO.upd hu17 (by first | exact (fun _ _ _ h => h) | exact (fun k hk _ hM => hd k hM hk) | (intro k hk hl hS; have := (hFb k hk).2; simp only [At, New, Grow, From, No] at hS; omega))
                replace hW := hW.upd hu17 (by first | exact (fun _ _ _ h => h) | exact (fun k hk _ hF => hd k hk hF))
                obtain ⟨A6, c6, rfl, hc6'⟩ := Own.form hP
                obtain ⟨P6, hP6⟩ : ∃ P6 : Nat → Prop, P6 = New w' w17 := ⟨_, rfl⟩
                rw [← hP6] at hP
                obtain ⟨D, hD⟩ : ∃ D, D = w17.heap.size := ⟨_, rfl⟩
                have hPb : ∀ k, P6 k → w'.heap.size ≤ k ∧ k < D := fun k hk => by rw [hP6] at hk; exact ⟨hk.1, by have := hk.2; omega⟩
                refine WL.val rfl rfl rfl rfl (r_assign rfl (ev_t rfl)) ?_
                refine WL.nil ?_
                refine WX.keep [(0, _), (4, _), (6, _)] ⟨rfl, rfl, rfl, trivial⟩ ?_
                refine WX.next ?_
                refine WC.seq ?_
                -- region 23 law.go:51
                refine WC.region ?_
                refine WL.val rfl rfl rfl rfl (r_move rfl (ev_t rfl)) ?_
                refine WL.cons (SO.call (newReader_ok (hP.rd (by omega))) rfl body_34 ⟨(ev_t rfl), trivial⟩ rfl rfl rfl rfl ?_)
                rintro v w18 ⟨rfl, hR, hu18⟩
                rw [← hD] at hR ⊢
                have hs18 := hu18.size
                replace hU := hU.trans hu18 (by first | exact (fun _ _ h => h) | exact (fun _ _ h => h.elim) | (intro k hl hk; (try simp only [At, New, Grow, From, No] at hk ⊢); omega) | (intro k hl hk; first | (have := (hMb k hk).1; omega) | (have := (hFb k hk).1; omega)))
                replace hL := hL.upd hu18 (by first | exact (fun _ _ _ h => h) | (intro k hk hl hS; have : k < w.heap.size := hk; first | (have := (hMb k hS).1; omega) | (have := (hFb k hS).1; omega) | (simp only [At, New, Grow, From, No] at hS; omega)))
                replace hO := hO.upd hu18 (by first | exact (fun _ _ _ h => h) | exact (fun k hk _ hM => hd k hM hk) | (intro k hk hl hS; have := (hFb k hk).2; simp only [At, New, Grow, From, No] at hS; omega))
                replace hP := hP.upd hu18 (by first | exact (fun _ _ _ h => h) | (intro k hk hl hS; have := hPb k hk; simp only [At, New, Grow, From, No] at hS; omega))
                have hDl := hR.lt
                have hFg : ¬ P6 D := fun h => by have := (hPb D h).2; omega
                have hDlo : w.heap.size ≤ D := by omega
                have hDlo' : w'.heap.size ≤ D := by omega
                have hDhi : D < w18.heap.size := hDl
                obtain ⟨SZ, hSZ⟩ : ∃ SZ, SZ = w18.heap.size := ⟨_, rfl⟩
                refine WL.val rfl rfl rfl rfl (r_assign rfl (ev_t rfl)) ?_
                refine WL.nil ?_
                refine WX.keep [(0, _), (4, _), (6, _), (7, _)] ⟨rfl, rfl, rfl, rfl, trivial⟩ ?_
                refine WX.next ?_
                refine WC.seq ?_
                refine WC.seq ?_
                -- region 24 law.go:52
                refine WC.region ?_
                refine WL.val rfl rfl rfl rfl (r_assign rfl ev_c) ?_
                refine WL.nil ?_
                refine WX.keep [(0, _), (4, _), (6, _), (7, _), (8, _)] ⟨rfl, rfl, rfl, rfl, rfl, trivial⟩ ?_
                refine WX.next ?_
                refine WC.block ?_
                -- loop 2: live [0, 4, 6, 7, 8]
                refine WC.keep [(0, _), (4, _), (6, _), (7, _), (8, _)] ⟨rfl, rfl, rfl, rfl, rfl, trivial⟩ ?_
                refine WC.loop (fun q E w2 => ∃ (i : Nat) (r : List UInt8), i ≤ n ∧ q = n - i ∧ Upd No w w2 ∧ SZ ≤ w2.heap.size ∧ outs K N B n = outs K N B i ++ r ∧ IsR w2 P6 D (some r) ∧ Own w2 F2 5 1 (.slice A4 (outs K N B n).length c4) (outs K N B n).length ((outs K N B n).map U8) ∧   Own w2 P6 5 1 (.slice A6 (outs K N B n).length c6) (outs K N B n).length ((outs K N B n).map U8) ∧ IsL w2 (fun k => k < w.heap.size) (.slice A1 n c1) n K N V B ∧   E = [(0, .slice A1 n c1), (4, .slice A4 (outs K N B n).length c4), (6, .slice A6 (outs K N B n).length c6), (7, .pointer (some ⟨D, 0, none⟩)), (8, .int .i64 (i : Int))]) (n) ?_ ?_
                · exact ⟨0, _, by omega, by omega, hU, by omega, rfl, hR, hO, hP, hL, rfl⟩
                · rintro q E w2 ⟨i, r, hi, rfl, hU, hSZ2, hor, hR, hO, hP, hL, rfl⟩
                  have hs0' := hU.size
                  refine WC.seq ?_
                  refine WC.seq ?_
                  -- region 25 law.go:52
                  refine WC.region ?_
                  refine WL.val rfl rfl rfl rfl (r_move rfl (ev_t rfl)) ?_
                  refine WL.val rfl rfl rfl rfl (r_move rfl (ev_t rfl)) ?_
                  refine WL.val rfl rfl rfl rfl (r_lenSlice (ts := #[]) rfl (ev_t rfl) elem_81) ?_
                  refine WL.val rfl rfl rfl rfl (r_lss rfl (ev_t rfl) (ev_t rfl)) ?_
                  refine WL.nil ?_
                  refine WX.keep [(0, _), (4, _), (6, _), (7, _), (8, _), (115, _)] ⟨rfl, rfl, rfl, rfl, rfl, rfl, trivial⟩ ?_
                  refine WX.next ?_
                  refine WC.cond rfl (ev_t rfl) (fun hc25 => ?_) (fun hc25 => ?_)
                  · try (exfalso; first | (simp at hc25; done) | (simp only [decide_eq_true_eq, decide_eq_false_iff_not, Bool.not_eq_true', Bool.not_eq_false', Bool.not_eq_true, Bool.not_eq_false] at hc25; omega) | omega)
                    all_goals
                      try simp only [decide_eq_true_eq, decide_eq_false_iff_not, Bool.not_eq_true', Bool.not_eq_false', Bool.not_eq_true, Bool.not_eq_false, Option.isNone_none, Option.isNone_some, Option.isSome_none, Option.isSome_some, ne_eq, Decidable.not_not] at hc25
                      have hin : i < n := by omega
                      obtain ⟨b, off, rfl, _⟩ := hL.1.open (by omega)
                      obtain ⟨Ai, ci, hVi, _⟩ := (hL.2 i hin).slice_form
                      have hpk := putC_k (K := K) (N := N) (V := V) hin
                      have hpn := putC_n (K := K) (N := N) (V := V) hin
                      have hpb := putC_b (K := K) (N := N) (V := V) hin
                      rw [hVi] at hpb
                      have hNi := hN i
                      have hwr := wrap_i64_range (N i : Int)
                      have hBi5 := hB5 i hin
                      obtain ⟨t, ht⟩ := outs_le K N B n (show i + 1 ≤ n by omega)
                      rw [outs_succ, List.append_assoc] at ht
                      obtain rfl : r = encP K N B i ++ t := List.append_cancel_left (hor.symm.trans ht)
                      refine WC.skip ?_
                      refine WX.next ?_
                      refine WC.seq ?_
                      refine WC.block ?_
                      refine WC.seq ?_
                      -- region 27 law.go:53
                      refine WC.region ?_
                      refine WL.val rfl rfl rfl rfl (r_assign rfl ev_c) ?_
                      refine WL.nil ?_
                      refine WX.keep [(0, _), (4, _), (6, _), (7, _), (8, _)] ⟨rfl, rfl, rfl, rfl, rfl, trivial⟩ ?_
                      refine WX.next ?_
                      refine WC.seq ?_
                      refine WC.seq ?_
                      -- region 28 law.go:54
                      refine WC.region ?_
                      refine WL.val rfl rfl rfl rfl (r_move rfl (ev_t rfl)) ?_
                      refine WL.val rfl rfl rfl rfl (r_move rfl (ev_t rfl)) ?_
                      refine WL.val rfl rfl rfl rfl (r_indexAddr rfl (ev_t rfl) (ev_t rfl) elem_81 size_83 (by omega) (by omega)) ?_
                      first | refine WL.val rfl rfl rfl rfl (r_field0 rfl (ev_t rfl) fld_83_0) ?_ | refine WL.val rfl rfl rfl rfl (r_fieldAt rfl (ev_t rfl) fld_83_0) ?_
                      refine WL.val rfl rfl rfl rfl (r_load rfl (ev_t rfl) flat_5 (hL.1.cell (j := i * 3) (by omega) hpk)) ?_
                      first | refine WL.val rfl rfl rfl rfl (r_remN rfl (ev_t rfl) ev_c (by omega) (by omega)) ?_ | refine WL.val rfl rfl rfl rfl (r_rem rfl (ev_t rfl) ev_c (by omega)) ?_
                      refine WL.nil ?_
                      refine WX.keep [(0, _), (4, _), (6, _), (7, _), (8, _), (123, _)] ⟨rfl, rfl, rfl, rfl, rfl, rfl, trivial⟩ ?_
                      refine WX.next ?_
                      refine WC.block ?_
                      refine WC.seq ?_
                      -- region 30 law.go:55
                      refine WC.region ?_
                      refine WL.val rfl rfl rfl rfl (r_eql rfl (ev_t rfl) ev_c) ?_
                      refine WL.val rfl rfl rfl rfl (r_assign rfl (ev_t rfl)) ?_
                      refine WL.nil ?_
                      refine WX.keep [(0, _), (4, _), (6, _), (7, _), (8, _), (123, _), (133, _)] ⟨rfl, rfl, rfl, rfl, rfl, rfl, rfl, trivial⟩ ?_
                      refine WX.next ?_
                      refine WC.cond rfl (ev_t rfl) (fun hc30 => ?_) (fun hc30 => ?_)
                      · try (exfalso; first | (simp at hc30; done) | (simp only [decide_eq_true_eq, decide_eq_false_iff_not, Bool.not_eq_true', Bool.not_eq_false', Bool.not_eq_true, Bool.not_eq_false] at hc30; omega) | omega)
                        all_goals
                          try simp only [decide_eq_true_eq, decide_eq_false_iff_not, Bool.not_eq_true', Bool.not_eq_false', Bool.not_eq_true, Bool.not_eq_false, Option.isNone_none, Option.isNone_some, Option.isSome_none, Option.isSome_some, ne_eq, Decidable.not_not] at hc30
                          have hen : encP K N B i = encU (N i) := by unfold encP; rw [if_pos (by omega)]
                          rw [hen] at hR
                          -- region 31 law.go:56 DRAWS
                          refine WC.draws' (fun u0_ u1_ => Upd (From w.heap.size) u0_ u1_) (fun j => [0, 1, 0, 0, 0, 0, 0, 0, 0].getD j 0) (.calm 0 (.calm 2 (.calm 3 (.calm 4 (.calm 5 (.held 6 (.one 1 (.calm 7 (.calm 8 (.done)))))))))) mixed (by kernel_rfl) (by repeat (first | with_reducible exact Deaf.body | with_reducible apply Deaf.then | with_reducible apply Deaf.block)) ?_
                          intro w19 hu19
                          have hz19 := congrArg Array.size hu19.2.2.2
                          replace hu19 := Upd.of_draw hu19
                          have hs19 := hu19.size
                          replace hU := hU.trans hu19 (by first | exact (fun _ _ h => h) | exact (fun _ _ h => h.elim) | (intro k hl hk; (try simp only [At, New, Grow, From, No] at hk ⊢); omega) | (intro k hl hk; first | (have := (hMb k hk).1; omega) | (have := (hFb k hk).1; omega)))
                          replace hR := hR.upd hu19 (by first | exact (fun h => h) | (simp only [At, New, Grow, From, No]; omega)) (by first | exact (fun _ _ _ h => h) | (intro k hk hl hS; have := hPb k hk; simp only [At, New, Grow, From, No] at hS; omega))
                          replace hO := hO.upd hu19 (by first | exact (fun _ _ _ h => h) | exact (fun k hk _ hM => hd k hM hk) | (intro k hk hl hS; have := (hFb k hk).2; simp only [At, New, Grow, From, No] at hS; omega))
                          replace hP := hP.upd hu19 (by first | exact (fun _ _ _ h => h) | (intro k hk hl hS; have := hPb k hk; simp only [At, New, Grow, From, No] at hS; omega))
                          replace hL := hL.upd hu19 (by first | exact (fun _ _ _ h => h) | (intro k hk hl hS; have : k < w.heap.size := hk; first | (have := (hMb k hS).1; omega) | (have := (hFb k hS).1; omega) | (simp only [At, New, Grow, From, No] at hS; omega)))
                          have hS31 := Upd.refl (From w.heap.size) w19
                          refine WN.calm _ rfl rfl rfl rfl rfl (fun _ => r_move rfl (ev_t rfl)) ?_
                          refine WN.calm _ rfl rfl rfl rfl rfl (fun _ => r_move rfl (ev_t rfl)) ?_
                          refine WN.calm _ rfl rfl rfl rfl rfl (fun _ => r_move rfl (ev_t rfl)) ?_
                          refine WN.calm _ rfl rfl rfl rfl rfl (fun _ => r_indexAddr rfl (ev_t rfl) (ev_t rfl) elem_81 size_83 (by omega) (by omega)) ?_
                          first | refine WN.calm _ rfl rfl rfl rfl rfl (fun _ => r_field0 rfl (ev_t rfl) fld_83_1) ?_ | refine WN.calm _ rfl rfl rfl rfl rfl (fun _ => r_fieldAt rfl (ev_t rfl) fld_83_1) ?_
                          refine WN.held _ rfl rfl rfl rfl rfl hS31 (fun w' hS => r_load rfl (ev_t rfl) flat_35 ((hL.1.upd hS (fun k hk hl hS' => by have : k < w.heap.size := hk; simp only [From] at hS'; omega)).cell (j := i * 3 + 1) (by omega) hpn)) ?_
                          refine WN.step _ rfl (SO.call (ruint_ok hR hFg (uint_enc hNi t)) rfl body_35 ⟨(ev_t rfl), trivial⟩ rfl rfl rfl rfl ?_)
                          rintro v w20 ⟨rfl, hR, hu20⟩
                          have hs20 := hu20.size
                          replace hS31 := Upd.trans_same hS31 (Upd.mono hu20 (by first | exact (fun _ _ h => h) | exact (fun _ _ h => h.elim) | (intro k _ hk; (try simp only [At, New, Grow, From, No] at hk ⊢); omega)))
                          replace hU := hU.trans hu20 (by first | exact (fun _ _ h => h) | exact (fun _ _ h => h.elim) | (intro k hl hk; (try simp only [At, New, Grow, From, No] at hk ⊢); omega) | (intro k hl hk; first | (have := (hMb k hk).1; omega) | (have := (hFb k hk).1; omega)))
                          replace hO := hO.upd hu20 (by first | exact (fun _ _ _ h => h) | exact (fun k hk _ hM => hd k hM hk) | (intro k hk hl hS; have := (hFb k hk).2; simp only [At, New, Grow, From, No] at hS; omega))
                          replace hP := hP.upd hu20 (by first | exact (fun _ _ _ h => h) | (intro k hk hl hS; have := hPb k hk; simp only [At, New, Grow, From, No] at hS; omega))
                          replace hL := hL.upd hu20 (by first | exact (fun _ _ _ h => h) | (intro k hk hl hS; have : k < w.heap.size := hk; first | (have := (hMb k hS).1; omega) | (have := (hFb k hS).1; omega) | (simp only [At, New, Grow, From, No] at hS; omega)))
                          refine ⟨hS31, ?_⟩
                          refine WN.calm _ rfl rfl rfl rfl rfl (fun _ => r_eql rfl (ev_t rfl) (ev_t rfl)) ?_
                          refine WN.calm _ rfl rfl rfl rfl rfl (fun _ => r_assign rfl (ev_t rfl)) ?_
                          refine WN.done ?_
                          refine WX.keep [(0, _), (4, _), (6, _), (7, _), (8, _), (9, _)] ⟨rfl, rfl, rfl, rfl, rfl, rfl, trivial⟩ ?_
                          refine WX.blockNormal ?_
                          refine WX.next ?_
                          refine WC.seq ?_
                          -- region 36 law.go:64
                          refine WC.region ?_
                          refine WL.val rfl rfl rfl rfl (r_move rfl (ev_t rfl)) ?_
                          refine WL.val rfl rfl rfl rfl (r_not rfl (ev_t rfl)) ?_
                          refine WL.nil ?_
                          refine WX.keep [(0, _), (4, _), (6, _), (7, _), (8, _), (167, _)] ⟨rfl, rfl, rfl, rfl, rfl, rfl, trivial⟩ ?_
                          refine WX.next ?_
                          refine WC.cond rfl (ev_t rfl) (fun hc36 => ?_) (fun hc36 => ?_)
                          · try (exfalso; first | (simp at hc36; done) | (simp only [decide_eq_true_eq, decide_eq_false_iff_not, Bool.not_eq_true', Bool.not_eq_false', Bool.not_eq_true, Bool.not_eq_false] at hc36; omega) | omega)
                            all_goals
                              try simp only [decide_eq_true_eq, decide_eq_false_iff_not, Bool.not_eq_true', Bool.not_eq_false', Bool.not_eq_true, Bool.not_eq_false, Option.isNone_none, Option.isNone_some, Option.isSome_none, Option.isSome_some, ne_eq, Decidable.not_not] at hc36
                              refine WC.seq ?_
                              -- region 37 law.go:65
                              refine WC.region ?_
                              refine WL.val rfl rfl rfl rfl (r_assign rfl ev_c) ?_
                              refine WL.nil ?_
                              refine WX.keep [(2, _)] ⟨rfl, trivial⟩ ?_
                              refine WX.next ?_
                              refine WC.ret ?_
                              refine WX.blockRet ?_
                              refine WX.thenRet ?_
                              refine WX.thenRet ?_
                              refine WX.blockRet ?_
                              refine WX.thenRet ?_
                              refine WX.retE1 rfl rfl ?_
                              exact ⟨rfl, hU⟩
                          · try (exfalso; first | (simp at hc36; done) | (simp only [decide_eq_true_eq, decide_eq_false_iff_not, Bool.not_eq_true', Bool.not_eq_false', Bool.not_eq_true, Bool.not_eq_false] at hc36; omega) | omega)
                            all_goals
                              try simp only [decide_eq_true_eq, decide_eq_false_iff_not, Bool.not_eq_true', Bool.not_eq_false', Bool.not_eq_true, Bool.not_eq_false, Option.isNone_none, Option.isNone_some, Option.isSome_none, Option.isSome_some, ne_eq, Decidable.not_not] at hc36
                              refine WC.skip ?_
                              refine WX.blockNormal ?_
                              refine WX.next ?_
                              -- region 26 law.go:52
                              refine WC.region ?_
                              refine WL.val rfl rfl rfl rfl (r_move rfl (ev_t rfl)) ?_
                              first | refine WL.val rfl rfl rfl rfl (r_addN rfl (ev_t rfl) ev_c (by simp only [inK]; omega)) ?_ | refine WL.val rfl rfl rfl rfl (r_add rfl (ev_t rfl) ev_c) ?_
                              refine WL.val rfl rfl rfl rfl (r_assign rfl (ev_t rfl)) ?_
                              refine WL.nil ?_
                              refine WX.keep [(0, _), (4, _), (6, _), (7, _), (8, _)] ⟨rfl, rfl, rfl, rfl, rfl, trivial⟩ ?_
                              refine WX.meet [(0, _), (4, _), (6, _), (7, _), (8, _)] ⟨rfl, rfl, rfl, rfl, rfl, trivial⟩ ?_
                              exact ⟨n - (i + 1), by omega, i + 1, t, by omega, rfl, hU, by omega, by rw [outs_succ, List.append_assoc]; exact hor, hR, hO, hP, hL, rfl⟩
                      · try (exfalso; first | (simp at hc30; done) | (simp only [decide_eq_true_eq, decide_eq_false_iff_not, Bool.not_eq_true', Bool.not_eq_false', Bool.not_eq_true, Bool.not_eq_false] at hc30; omega) | omega)
                        all_goals
                          try simp only [decide_eq_true_eq, decide_eq_false_iff_not, Bool.not_eq_true', Bool.not_eq_false', Bool.not_eq_true, Bool.not_eq_false, Option.isNone_none, Option.isNone_some, Option.isSome_none, Option.isSome_some, ne_eq, Decidable.not_not] at hc30
                          refine WC.seq ?_
                          -- region 32 law.go:57
                          refine WC.region ?_
                          refine WL.val rfl rfl rfl rfl (r_eql rfl (ev_t rfl) ev_c) ?_
                          refine WL.val rfl rfl rfl rfl (r_assign rfl (ev_t rfl)) ?_
                          refine WL.nil ?_
                          refine WX.keep [(0, _), (4, _), (6, _), (7, _), (8, _), (123, _), (143, _)] ⟨rfl, rfl, rfl, rfl, rfl, rfl, rfl, trivial⟩ ?_
                          refine WX.next ?_
                          refine WC.cond rfl (ev_t rfl) (fun hc32 => ?_) (fun hc32 => ?_)
                          · try (exfalso; first | (simp at hc32; done) | (simp only [decide_eq_true_eq, decide_eq_false_iff_not, Bool.not_eq_true', Bool.not_eq_false', Bool.not_eq_true, Bool.not_eq_false] at hc32; omega) | omega)
                            all_goals
                              try simp only [decide_eq_true_eq, decide_eq_false_iff_not, Bool.not_eq_true', Bool.not_eq_false', Bool.not_eq_true, Bool.not_eq_false, Option.isNone_none, Option.isNone_some, Option.isSome_none, Option.isSome_some, ne_eq, Decidable.not_not] at hc32
                              have hen : encP K N B i = encU (zig (IntKind.i64.wrap (N i : Int))) := by unfold encP; rw [if_neg (by omega), if_pos (by omega)]
                              rw [hen] at hR
                              -- region 33 law.go:58 DRAWS
                              refine WC.draws' (fun u0_ u1_ => Upd (From w.heap.size) u0_ u1_) (fun j => [0, 1, 0, 0, 0, 0, 0, 0, 0, 0].getD j 0) (.calm 0 (.calm 2 (.calm 3 (.calm 4 (.calm 5 (.held 6 (.calm 7 (.one 1 (.calm 8 (.calm 9 (.done))))))))))) mixed (by kernel_rfl) (by repeat (first | with_reducible exact Deaf.body | with_reducible apply Deaf.then | with_reducible apply Deaf.block)) ?_
                              intro w21 hu21
                              have hz21 := congrArg Array.size hu21.2.2.2
                              replace hu21 := Upd.of_draw hu21
                              have hs21 := hu21.size
                              replace hU := hU.trans hu21 (by first | exact (fun _ _ h => h) | exact (fun _ _ h => h.elim) | (intro k hl hk; (try simp only [At, New, Grow, From, No] at hk ⊢); omega) | (intro k hl hk; first | (have := (hMb k hk).1; omega) | (have := (hFb k hk).1; omega)))
                              replace hR := hR.upd hu21 (by first | exact (fun h => h) | (simp only [At, New, Grow, From, No]; omega)) (by first | exact (fun _ _ _ h => h) | (intro k hk hl hS; have := hPb k hk; simp only [At, New, Grow, From, No] at hS; omega))
                              replace hO := hO.upd hu21 (by first | exact (fun _ _ _ h => h) | exact (fun k hk _ hM => hd k hM hk) | (intro k hk hl hS; have := (hFb k hk).2; simp only [At, New, Grow, From, No] at hS; omega))
                              replace hP := hP.upd hu21 (by first | exact (fun _ _ _ h => h) | (intro k hk hl hS; have := hPb k hk; simp only [At, New, Grow, From, No] at hS; omega))
                              replace hL := hL.upd hu21 (by first | exact (fun _ _ _ h => h) | (intro k hk hl hS; have : k < w.heap.size := hk; first | (have := (hMb k hS).1; omega) | (have := (hFb k hS).1; omega) | (simp only [At, New, Grow, From, No] at hS; omega)))
                              have hS33 := Upd.refl (From w.heap.size) w21
                              refine WN.calm _ rfl rfl rfl rfl rfl (fun _ => r_move rfl (ev_t rfl)) ?_
                              refine WN.calm _ rfl rfl rfl rfl rfl (fun _ => r_move rfl (ev_t rfl)) ?_
                              refine WN.calm _ rfl rfl rfl rfl rfl (fun _ => r_move rfl (ev_t rfl)) ?_
                              refine WN.calm _ rfl rfl rfl rfl rfl (fun _ => r_indexAddr rfl (ev_t rfl) (ev_t rfl) elem_81 size_83 (by omega) (by omega)) ?_
                              first | refine WN.calm _ rfl rfl rfl rfl rfl (fun _ => r_field0 rfl (ev_t rfl) fld_83_1) ?_ | refine WN.calm _ rfl rfl rfl rfl rfl (fun _ => r_fieldAt rfl (ev_t rfl) fld_83_1) ?_
                              refine WN.held _ rfl rfl rfl rfl rfl hS33 (fun w' hS => r_load rfl (ev_t rfl) flat_35 ((hL.1.upd hS (fun k hk hl hS' => by have : k < w.heap.size := hk; simp only [From] at hS'; omega)).cell (j := i * 3 + 1) (by omega) hpn)) ?_
                              refine WN.calm _ rfl rfl rfl rfl rfl (fun _ => r_conv rfl (ev_t rfl) some_35 int_2) ?_
                              refine WN.step _ rfl (SO.call (int_ok hR hFg (uint_enc (zig_lt hwr.1 hwr.2) t)) rfl body_37 ⟨(ev_t rfl), trivial⟩ rfl rfl rfl rfl ?_)
                              rintro v w22 ⟨rfl, hR, hu22⟩
                              rw [zag_zig]
                              have hs22 := hu22.size
                              replace hS33 := Upd.trans_same hS33 (Upd.mono hu22 (by first | exact (fun _ _ h => h) | exact (fun _ _ h => h.elim) | (intro k _ hk; (try simp only [At, New, Grow, From, No] at hk ⊢); omega)))
                              replace hU := hU.trans hu22 (by first | exact (fun _ _ h => h) | exact (fun _ _ h => h.elim) | (intro k hl hk; (try simp only [At, New, Grow, From, No] at hk ⊢); omega) | (intro k hl hk; first | (have := (hMb k hk).1; omega) | (have := (hFb k hk).1; omega)))
                              replace hO := hO.upd hu22 (by first | exact (fun _ _ _ h => h) | exact (fun k hk _ hM => hd k hM hk) | (intro k hk hl hS; have := (hFb k hk).2; simp only [At, New, Grow, From, No] at hS; omega))
                              replace hP := hP.upd hu22 (by first | exact (fun _ _ _ h => h) | (intro k hk hl hS; have := hPb k hk; simp only [At, New, Grow, From, No] at hS; omega))
                              replace hL := hL.upd hu22 (by first | exact (fun _ _ _ h => h) | (intro k hk hl hS; have : k < w.heap.size := hk; first | (have := (hMb k hS).1; omega) | (have := (hFb k hS).1; omega) | (simp only [At, New, Grow, From, No] at hS; omega)))
                              refine ⟨hS33, ?_⟩
                              refine WN.calm _ rfl rfl rfl rfl rfl (fun _ => r_eql rfl (ev_t rfl) (ev_t rfl)) ?_
                              refine WN.calm _ rfl rfl rfl rfl rfl (fun _ => r_assign rfl (ev_t rfl)) ?_
                              refine WN.done ?_
                              refine WX.keep [(0, _), (4, _), (6, _), (7, _), (8, _), (9, _)] ⟨rfl, rfl, rfl, rfl, rfl, rfl, trivial⟩ ?_
                              refine WX.blockNormal ?_
                              refine WX.next ?_
                              refine WC.seq ?_
                              -- region 36 law.go:64
                              refine WC.region ?_
                              refine WL.val rfl rfl rfl rfl (r_move rfl (ev_t rfl)) ?_
                              refine WL.val rfl rfl rfl rfl (r_not rfl (ev_t rfl)) ?_
                              refine WL.nil ?_
                              refine WX.keep [(0, _), (4, _), (6, _), (7, _), (8, _), (167, _)] ⟨rfl, rfl, rfl, rfl, rfl, rfl, trivial⟩ ?_
                              refine WX.next ?_
                              refine WC.cond rfl (ev_t rfl) (fun hc36 => ?_) (fun hc36 => ?_)
                              · try (exfalso; first | (simp at hc36; done) | (simp only [decide_eq_true_eq, decide_eq_false_iff_not, Bool.not_eq_true', Bool.not_eq_false', Bool.not_eq_true, Bool.not_eq_false] at hc36; omega) | omega)
                                all_goals
                                  try simp only [decide_eq_true_eq, decide_eq_false_iff_not, Bool.not_eq_true', Bool.not_eq_false', Bool.not_eq_true, Bool.not_eq_false, Option.isNone_none, Option.isNone_some, Option.isSome_none, Option.isSome_some, ne_eq, Decidable.not_not] at hc36
                                  refine WC.seq ?_
                                  -- region 37 law.go:65
                                  refine WC.region ?_
                                  refine WL.val rfl rfl rfl rfl (r_assign rfl ev_c) ?_
                                  refine WL.nil ?_
                                  refine WX.keep [(2, _)] ⟨rfl, trivial⟩ ?_
                                  refine WX.next ?_
                                  refine WC.ret ?_
                                  refine WX.blockRet ?_
                                  refine WX.thenRet ?_
                                  refine WX.thenRet ?_
                                  refine WX.blockRet ?_
                                  refine WX.thenRet ?_
                                  refine WX.retE1 rfl rfl ?_
                                  exact ⟨rfl, hU⟩
                              · try (exfalso; first | (simp at hc36; done) | (simp only [decide_eq_true_eq, decide_eq_false_iff_not, Bool.not_eq_true', Bool.not_eq_false', Bool.not_eq_true, Bool.not_eq_false] at hc36; omega) | omega)
                                all_goals
                                  try simp only [decide_eq_true_eq, decide_eq_false_iff_not, Bool.not_eq_true', Bool.not_eq_false', Bool.not_eq_true, Bool.not_eq_false, Option.isNone_none, Option.isNone_some, Option.isSome_none, Option.isSome_some, ne_eq, Decidable.not_not] at hc36
                                  refine WC.skip ?_
                                  refine WX.blockNormal ?_
                                  refine WX.next ?_
                                  -- region 26 law.go:52
                                  refine WC.region ?_
                                  refine WL.val rfl rfl rfl rfl (r_move rfl (ev_t rfl)) ?_
                                  first | refine WL.val rfl rfl rfl rfl (r_addN rfl (ev_t rfl) ev_c (by simp only [inK]; omega)) ?_ | refine WL.val rfl rfl rfl rfl (r_add rfl (ev_t rfl) ev_c) ?_
                                  refine WL.val rfl rfl rfl rfl (r_assign rfl (ev_t rfl)) ?_
                                  refine WL.nil ?_
                                  refine WX.keep [(0, _), (4, _), (6, _), (7, _), (8, _)] ⟨rfl, rfl, rfl, rfl, rfl, trivial⟩ ?_
                                  refine WX.meet [(0, _), (4, _), (6, _), (7, _), (8, _)] ⟨rfl, rfl, rfl, rfl, rfl, trivial⟩ ?_
                                  exact ⟨n - (i + 1), by omega, i + 1, t, by omega, rfl, hU, by omega, by rw [outs_succ, List.append_assoc]; exact hor, hR, hO, hP, hL, rfl⟩
                          · try (exfalso; first | (simp at hc32; done) | (simp only [decide_eq_true_eq, decide_eq_false_iff_not, Bool.not_eq_true', Bool.not_eq_false', Bool.not_eq_true, Bool.not_eq_false] at hc32; omega) | omega)
                            all_goals
                              try simp only [decide_eq_true_eq, decide_eq_false_iff_not, Bool.not_eq_true', Bool.not_eq_false', Bool.not_eq_true, Bool.not_eq_false, Option.isNone_none, Option.isNone_some, Option.isSome_none, Option.isSome_some, ne_eq, Decidable.not_not] at hc32
                              have hen : encP K N B i = encU (B i).length ++ B i := by unfold encP; rw [if_neg (by omega), if_neg (by omega)]
                              rw [hen] at hR
                              refine WC.seq ?_
                              -- region 34 law.go:59
                              refine WC.region ?_
                              refine WL.val rfl rfl rfl rfl (r_eql rfl (ev_t rfl) ev_c) ?_
                              refine WL.val rfl rfl rfl rfl (r_assign rfl (ev_t rfl)) ?_
                              refine WL.nil ?_
                              refine WX.keep [(0, _), (4, _), (6, _), (7, _), (8, _), (154, _)] ⟨rfl, rfl, rfl, rfl, rfl, rfl, trivial⟩ ?_
                              refine WX.next ?_
                              refine WC.cond rfl (ev_t rfl) (fun hc34 => ?_) (fun hc34 => ?_)
                              · try (exfalso; first | (simp at hc34; done) | (simp only [decide_eq_true_eq, decide_eq_false_iff_not, Bool.not_eq_true', Bool.not_eq_false', Bool.not_eq_true, Bool.not_eq_false] at hc34; omega) | omega)
                                all_goals
                                  try simp only [decide_eq_true_eq, decide_eq_false_iff_not, Bool.not_eq_true', Bool.not_eq_false', Bool.not_eq_true, Bool.not_eq_false, Option.isNone_none, Option.isNone_some, Option.isSome_none, Option.isSome_some, ne_eq, Decidable.not_not] at hc34
                                  -- region 35 law.go:60 DRAWS
                                  refine WC.draws' (fun u0_ u1_ => Upd (From w.heap.size) u0_ u1_) (fun j => [0, 1, 1, 0, 0, 0, 0, 0, 2, 0, 0].getD j 0) (.calm 0 (.calm 3 (.calm 4 (.calm 5 (.calm 6 (.held 7 (.two 1 8 (.two 2 8 (.one 8 (.calm 9 (.calm 10 (.done)))) (.one 2 (.calm 9 (.calm 10 (.done))))) (.one 1 (.one 2 (.calm 9 (.calm 10 (.done)))))))))))) mixed (by kernel_rfl) (by repeat (first | with_reducible exact Deaf.body | with_reducible apply Deaf.then | with_reducible apply Deaf.block)) ?_
                                  intro w23 hu23
                                  have hz23 := congrArg Array.size hu23.2.2.2
                                  replace hu23 := Upd.of_draw hu23
                                  have hs23 := hu23.size
                                  replace hU := hU.trans hu23 (by first | exact (fun _ _ h => h) | exact (fun _ _ h => h.elim) | (intro k hl hk; (try simp only [At, New, Grow, From, No] at hk ⊢); omega) | (intro k hl hk; first | (have := (hMb k hk).1; omega) | (have := (hFb k hk).1; omega)))
                                  replace hR := hR.upd hu23 (by first | exact (fun h => h) | (simp only [At, New, Grow, From, No]; omega)) (by first | exact (fun _ _ _ h => h) | (intro k hk hl hS; have := hPb k hk; simp only [At, New, Grow, From, No] at hS; omega))
                                  replace hO := hO.upd hu23 (by first | exact (fun _ _ _ h => h) | exact (fun k hk _ hM => hd k hM hk) | (intro k hk hl hS; have := (hFb k hk).2; simp only [At, New, Grow, From, No] at hS; omega))
                                  replace hP := hP.upd hu23 (by first | exact (fun _ _ _ h => h) | (intro k hk hl hS; have := hPb k hk; simp only [At, New, Grow, From, No] at hS; omega))
                                  replace hL := hL.upd hu23 (by first | exact (fun _ _ _ h => h) | (intro k hk hl hS; have : k < w.heap.size := hk; first | (have := (hMb k hS).1; omega) | (have := (hFb k hS).1; omega) | (simp only [At, New, Grow, From, No] at hS; omega)))
                                  have hS35 := Upd.refl (From w.heap.size) w23
                                  refine WN.calm _ rfl rfl rfl rfl rfl (fun _ => r_move rfl (ev_t rfl)) ?_
                                  refine WN.calm _ rfl rfl rfl rfl rfl (fun _ => r_move rfl (ev_t rfl)) ?_
                                  refine WN.calm _ rfl rfl rfl rfl rfl (fun _ => r_move rfl (ev_t rfl)) ?_
                                  refine WN.calm _ rfl rfl rfl rfl rfl (fun _ => r_indexAddr rfl (ev_t rfl) (ev_t rfl) elem_81 size_83 (by omega) (by omega)) ?_
                                  first | refine WN.calm _ rfl rfl rfl rfl rfl (fun _ => r_field0 rfl (ev_t rfl) fld_83_2) ?_ | refine WN.calm _ rfl rfl rfl rfl rfl (fun _ => r_fieldAt rfl (ev_t rfl) fld_83_2) ?_
                                  refine WN.held _ rfl rfl rfl rfl rfl hS35 (fun w' hS => r_load rfl (ev_t rfl) flat_37 ((hL.1.upd hS (fun k hk hl hS' => by have : k < w.heap.size := hk; simp only [From] at hS'; omega)).cell (j := i * 3 + 2) (by omega) hpb)) ?_
                                  refine WN.fork _ _ rfl rfl ?_ ?_
                                  · refine SO.call (bytes_ok (most := 5000) hR hFg (by simp only [inK]; omega) (bytes_enc hBi5 t)) rfl body_41 ⟨(ev_t rfl), ev_c, trivial⟩ rfl rfl rfl rfl ?_
                                    rintro v w24 ⟨ho, hR, hu24, hlen⟩
                                    have hs24 := hu24.size
                                    replace hS35 := Upd.trans_same hS35 (Upd.mono hu24 (by first | exact (fun _ _ h => h) | exact (fun _ _ h => h.elim) | (intro k _ hk; (try simp only [At, New, Grow, From, No] at hk ⊢); omega)))
                                    replace hU := hU.trans hu24 (by first | exact (fun _ _ h => h) | exact (fun _ _ h => h.elim) | (intro k hl hk; (try simp only [At, New, Grow, From, No] at hk ⊢); omega) | (intro k hl hk; first | (have := (hMb k hk).1; omega) | (have := (hFb k hk).1; omega)))
                                    replace hO := hO.upd hu24 (by first | exact (fun _ _ _ h => h) | exact (fun k hk _ hM => hd k hM hk) | (intro k hk hl hS; have := (hFb k hk).2; simp only [At, New, Grow, From, No] at hS; omega))
                                    replace hP := hP.upd hu24 (by first | exact (fun _ _ _ h => h) | (intro k hk hl hS; have := hPb k hk; simp only [At, New, Grow, From, No] at hS; omega))
                                    replace hL := hL.upd hu24 (by first | exact (fun _ _ _ h => h) | (intro k hk hl hS; have : k < w.heap.size := hk; first | (have := (hMb k hS).1; omega) | (have := (hFb k hS).1; omega) | (simp only [At, New, Grow, From, No] at hS; omega)))
                                    refine ⟨hS35, ?_⟩
                                    refine WN.fork _ _ rfl rfl ?_ ?_
                                    · refine SO.val rfl rfl rfl rfl (r_toStr rfl (ev_t rfl) (ho.rd hlen) elem_37 int_5 str_9) ?_
                                      refine ⟨hS35, ?_⟩
                                      refine WN.step _ rfl (SO.val rfl rfl rfl rfl (r_toStr rfl (ev_t rfl) (by have h := hL.2 i hin; rw [hVi] at h; exact h) elem_37 int_5 str_9) ?_)
                                      refine ⟨trivial, ?_⟩
                                      refine WN.calm _ rfl rfl rfl rfl rfl (fun _ => r_eqlStr rfl (ev_t rfl) (ev_t rfl)) ?_
                                      refine WN.calm _ rfl rfl rfl rfl rfl (fun _ => r_assign rfl (ev_t rfl)) ?_
                                      refine WN.done ?_
                                      refine WX.keep [(0, _), (4, _), (6, _), (7, _), (8, _), (9, _)] ⟨rfl, rfl, rfl, rfl, rfl, rfl, trivial⟩ ?_
                                      refine WX.blockNormal ?_
                                      refine WX.next ?_
                                      refine WC.seq ?_
                                      -- region 36 law.go:64
                                      refine WC.region ?_
                                      refine WL.val rfl rfl rfl rfl (r_move rfl (ev_t rfl)) ?_
                                      refine WL.val rfl rfl rfl rfl (r_not rfl (ev_t rfl)) ?_
                                      refine WL.nil ?_
                                      refine WX.keep [(0, _), (4, _), (6, _), (7, _), (8, _), (167, _)] ⟨rfl, rfl, rfl, rfl, rfl, rfl, trivial⟩ ?_
                                      refine WX.next ?_
                                      refine WC.cond rfl (ev_t rfl) (fun hc36 => ?_) (fun hc36 => ?_)
                                      · try (exfalso; first | (simp at hc36; done) | (simp only [decide_eq_true_eq, decide_eq_false_iff_not, Bool.not_eq_true', Bool.not_eq_false', Bool.not_eq_true, Bool.not_eq_false] at hc36; omega) | omega)
                                        all_goals
                                          try simp only [decide_eq_true_eq, decide_eq_false_iff_not, Bool.not_eq_true', Bool.not_eq_false', Bool.not_eq_true, Bool.not_eq_false, Option.isNone_none, Option.isNone_some, Option.isSome_none, Option.isSome_some, ne_eq, Decidable.not_not] at hc36
                                          refine WC.seq ?_
                                          -- region 37 law.go:65
                                          refine WC.region ?_
                                          refine WL.val rfl rfl rfl rfl (r_assign rfl ev_c) ?_
                                          refine WL.nil ?_
                                          refine WX.keep [(2, _)] ⟨rfl, trivial⟩ ?_
                                          refine WX.next ?_
                                          refine WC.ret ?_
                                          refine WX.blockRet ?_
                                          refine WX.thenRet ?_
                                          refine WX.thenRet ?_
                                          refine WX.blockRet ?_
                                          refine WX.thenRet ?_
                                          refine WX.retE1 rfl rfl ?_
                                          exact ⟨rfl, hU⟩
                                      · try (exfalso; first | (simp at hc36; done) | (simp only [decide_eq_true_eq, decide_eq_false_iff_not, Bool.not_eq_true', Bool.not_eq_false', Bool.not_eq_true, Bool.not_eq_false] at hc36; omega) | omega)
                                        all_goals
                                          try simp only [decide_eq_true_eq, decide_eq_false_iff_not, Bool.not_eq_true', Bool.not_eq_false', Bool.not_eq_true, Bool.not_eq_false, Option.isNone_none, Option.isNone_some, Option.isSome_none, Option.isSome_some, ne_eq, Decidable.not_not] at hc36
                                          refine WC.skip ?_
                                          refine WX.blockNormal ?_
                                          refine WX.next ?_
                                          -- region 26 law.go:52
                                          refine WC.region ?_
                                          refine WL.val rfl rfl rfl rfl (r_move rfl (ev_t rfl)) ?_
                                          first | refine WL.val rfl rfl rfl rfl (r_addN rfl (ev_t rfl) ev_c (by simp only [inK]; omega)) ?_ | refine WL.val rfl rfl rfl rfl (r_add rfl (ev_t rfl) ev_c) ?_
                                          refine WL.val rfl rfl rfl rfl (r_assign rfl (ev_t rfl)) ?_
                                          refine WL.nil ?_
                                          refine WX.keep [(0, _), (4, _), (6, _), (7, _), (8, _)] ⟨rfl, rfl, rfl, rfl, rfl, trivial⟩ ?_
                                          refine WX.meet [(0, _), (4, _), (6, _), (7, _), (8, _)] ⟨rfl, rfl, rfl, rfl, rfl, trivial⟩ ?_
                                          exact ⟨n - (i + 1), by omega, i + 1, t, by omega, rfl, hU, by omega, by rw [outs_succ, List.append_assoc]; exact hor, hR, hO, hP, hL, rfl⟩
                                    · refine SO.val rfl rfl rfl rfl (r_toStr rfl (ev_t rfl) (by have h := hL.2 i hin; rw [hVi] at h; exact h) elem_37 int_5 str_9) ?_
                                      refine ⟨trivial, ?_⟩
                                      refine WN.step _ rfl (SO.val rfl rfl rfl rfl (r_toStr rfl (ev_t rfl) (ho.rd hlen) elem_37 int_5 str_9) ?_)
                                      refine ⟨hS35, ?_⟩
                                      refine WN.calm _ rfl rfl rfl rfl rfl (fun _ => r_eqlStr rfl (ev_t rfl) (ev_t rfl)) ?_
                                      refine WN.calm _ rfl rfl rfl rfl rfl (fun _ => r_assign rfl (ev_t rfl)) ?_
                                      refine WN.done ?_
                                      refine WX.keep [(0, _), (4, _), (6, _), (7, _), (8, _), (9, _)] ⟨rfl, rfl, rfl, rfl, rfl, rfl, trivial⟩ ?_
                                      refine WX.blockNormal ?_
                                      refine WX.next ?_
                                      refine WC.seq ?_
                                      -- region 36 law.go:64
                                      refine WC.region ?_
                                      refine WL.val rfl rfl rfl rfl (r_move rfl (ev_t rfl)) ?_
                                      refine WL.val rfl rfl rfl rfl (r_not rfl (ev_t rfl)) ?_
                                      refine WL.nil ?_
                                      refine WX.keep [(0, _), (4, _), (6, _), (7, _), (8, _), (167, _)] ⟨rfl, rfl, rfl, rfl, rfl, rfl, trivial⟩ ?_
                                      refine WX.next ?_
                                      refine WC.cond rfl (ev_t rfl) (fun hc36 => ?_) (fun hc36 => ?_)
                                      · try (exfalso; first | (simp at hc36; done) | (simp only [decide_eq_true_eq, decide_eq_false_iff_not, Bool.not_eq_true', Bool.not_eq_false', Bool.not_eq_true, Bool.not_eq_false] at hc36; omega) | omega)
                                        all_goals
                                          try simp only [decide_eq_true_eq, decide_eq_false_iff_not, Bool.not_eq_true', Bool.not_eq_false', Bool.not_eq_true, Bool.not_eq_false, Option.isNone_none, Option.isNone_some, Option.isSome_none, Option.isSome_some, ne_eq, Decidable.not_not] at hc36
                                          refine WC.seq ?_
                                          -- region 37 law.go:65
                                          refine WC.region ?_
                                          refine WL.val rfl rfl rfl rfl (r_assign rfl ev_c) ?_
                                          refine WL.nil ?_
                                          refine WX.keep [(2, _)] ⟨rfl, trivial⟩ ?_
                                          refine WX.next ?_
                                          refine WC.ret ?_
                                          refine WX.blockRet ?_
                                          refine WX.thenRet ?_
                                          refine WX.thenRet ?_
                                          refine WX.blockRet ?_
                                          refine WX.thenRet ?_
                                          refine WX.retE1 rfl rfl ?_
                                          exact ⟨rfl, hU⟩
                                      · try (exfalso; first | (simp at hc36; done) | (simp only [decide_eq_true_eq, decide_eq_false_iff_not, Bool.not_eq_true', Bool.not_eq_false', Bool.not_eq_true, Bool.not_eq_false] at hc36; omega) | omega)
                                        all_goals
                                          try simp only [decide_eq_true_eq, decide_eq_false_iff_not, Bool.not_eq_true', Bool.not_eq_false', Bool.not_eq_true, Bool.not_eq_false, Option.isNone_none, Option.isNone_some, Option.isSome_none, Option.isSome_some, ne_eq, Decidable.not_not] at hc36
                                          refine WC.skip ?_
                                          refine WX.blockNormal ?_
                                          refine WX.next ?_
                                          -- region 26 law.go:52
                                          refine WC.region ?_
                                          refine WL.val rfl rfl rfl rfl (r_move rfl (ev_t rfl)) ?_
                                          first | refine WL.val rfl rfl rfl rfl (r_addN rfl (ev_t rfl) ev_c (by simp only [inK]; omega)) ?_ | refine WL.val rfl rfl rfl rfl (r_add rfl (ev_t rfl) ev_c) ?_
                                          refine WL.val rfl rfl rfl rfl (r_assign rfl (ev_t rfl)) ?_
                                          refine WL.nil ?_
                                          refine WX.keep [(0, _), (4, _), (6, _), (7, _), (8, _)] ⟨rfl, rfl, rfl, rfl, rfl, trivial⟩ ?_
                                          refine WX.meet [(0, _), (4, _), (6, _), (7, _), (8, _)] ⟨rfl, rfl, rfl, rfl, rfl, trivial⟩ ?_
                                          exact ⟨n - (i + 1), by omega, i + 1, t, by omega, rfl, hU, by omega, by rw [outs_succ, List.append_assoc]; exact hor, hR, hO, hP, hL, rfl⟩
                                  · refine SO.val rfl rfl rfl rfl (r_toStr rfl (ev_t rfl) (by have h := hL.2 i hin; rw [hVi] at h; exact h) elem_37 int_5 str_9) ?_
                                    refine ⟨trivial, ?_⟩
                                    refine WN.step _ rfl (SO.call (bytes_ok (most := 5000) hR hFg (by simp only [inK]; omega) (bytes_enc hBi5 t)) rfl body_41 ⟨(ev_t rfl), ev_c, trivial⟩ rfl rfl rfl rfl ?_)
                                    rintro v w25 ⟨ho, hR, hu25, hlen⟩
                                    have hs25 := hu25.size
                                    replace hS35 := Upd.trans_same hS35 (Upd.mono hu25 (by first | exact (fun _ _ h => h) | exact (fun _ _ h => h.elim) | (intro k _ hk; (try simp only [At, New, Grow, From, No] at hk ⊢); omega)))
                                    replace hU := hU.trans hu25 (by first | exact (fun _ _ h => h) | exact (fun _ _ h => h.elim) | (intro k hl hk; (try simp only [At, New, Grow, From, No] at hk ⊢); omega) | (intro k hl hk; first | (have := (hMb k hk).1; omega) | (have := (hFb k hk).1; omega)))
                                    replace hO := hO.upd hu25 (by first | exact (fun _ _ _ h => h) | exact (fun k hk _ hM => hd k hM hk) | (intro k hk hl hS; have := (hFb k hk).2; simp only [At, New, Grow, From, No] at hS; omega))
                                    replace hP := hP.upd hu25 (by first | exact (fun _ _ _ h => h) | (intro k hk hl hS; have := hPb k hk; simp only [At, New, Grow, From, No] at hS; omega))
                                    replace hL := hL.upd hu25 (by first | exact (fun _ _ _ h => h) | (intro k hk hl hS; have : k < w.heap.size := hk; first | (have := (hMb k hS).1; omega) | (have := (hFb k hS).1; omega) | (simp only [At, New, Grow, From, No] at hS; omega)))
                                    refine ⟨hS35, ?_⟩
                                    refine WN.step _ rfl (SO.val rfl rfl rfl rfl (r_toStr rfl (ev_t rfl) (ho.rd hlen) elem_37 int_5 str_9) ?_)
                                    refine ⟨hS35, ?_⟩
                                    refine WN.calm _ rfl rfl rfl rfl rfl (fun _ => r_eqlStr rfl (ev_t rfl) (ev_t rfl)) ?_
                                    refine WN.calm _ rfl rfl rfl rfl rfl (fun _ => r_assign rfl (ev_t rfl)) ?_
                                    refine WN.done ?_
                                    refine WX.keep [(0, _), (4, _), (6, _), (7, _), (8, _), (9, _)] ⟨rfl, rfl, rfl, rfl, rfl, rfl, trivial⟩ ?_
                                    refine WX.blockNormal ?_
                                    refine WX.next ?_
                                    refine WC.seq ?_
                                    -- region 36 law.go:64
                                    refine WC.region ?_
                                    refine WL.val rfl rfl rfl rfl (r_move rfl (ev_t rfl)) ?_
                                    refine WL.val rfl rfl rfl rfl (r_not rfl (ev_t rfl)) ?_
                                    refine WL.nil ?_
                                    refine WX.keep [(0, _), (4, _), (6, _), (7, _), (8, _), (167, _)] ⟨rfl, rfl, rfl, rfl, rfl, rfl, trivial⟩ ?_
                                    refine WX.next ?_
                                    refine WC.cond rfl (ev_t rfl) (fun hc36 => ?_) (fun hc36 => ?_)
                                    · try (exfalso; first | (simp at hc36; done) | (simp only [decide_eq_true_eq, decide_eq_false_iff_not, Bool.not_eq_true', Bool.not_eq_false', Bool.not_eq_true, Bool.not_eq_false] at hc36; omega) | omega)
                                      all_goals
                                        try simp only [decide_eq_true_eq, decide_eq_false_iff_not, Bool.not_eq_true', Bool.not_eq_false', Bool.not_eq_true, Bool.not_eq_false, Option.isNone_none, Option.isNone_some, Option.isSome_none, Option.isSome_some, ne_eq, Decidable.not_not] at hc36
                                        refine WC.seq ?_
                                        -- region 37 law.go:65
                                        refine WC.region ?_
                                        refine WL.val rfl rfl rfl rfl (r_assign rfl ev_c) ?_
                                        refine WL.nil ?_
                                        refine WX.keep [(2, _)] ⟨rfl, trivial⟩ ?_
                                        refine WX.next ?_
                                        refine WC.ret ?_
                                        refine WX.blockRet ?_
                                        refine WX.thenRet ?_
                                        refine WX.thenRet ?_
                                        refine WX.blockRet ?_
                                        refine WX.thenRet ?_
                                        refine WX.retE1 rfl rfl ?_
                                        exact ⟨rfl, hU⟩
                                    · try (exfalso; first | (simp at hc36; done) | (simp only [decide_eq_true_eq, decide_eq_false_iff_not, Bool.not_eq_true', Bool.not_eq_false', Bool.not_eq_true, Bool.not_eq_false] at hc36; omega) | omega)
                                      all_goals
                                        try simp only [decide_eq_true_eq, decide_eq_false_iff_not, Bool.not_eq_true', Bool.not_eq_false', Bool.not_eq_true, Bool.not_eq_false, Option.isNone_none, Option.isNone_some, Option.isSome_none, Option.isSome_some, ne_eq, Decidable.not_not] at hc36
                                        refine WC.skip ?_
                                        refine WX.blockNormal ?_
                                        refine WX.next ?_
                                        -- region 26 law.go:52
                                        refine WC.region ?_
                                        refine WL.val rfl rfl rfl rfl (r_move rfl (ev_t rfl)) ?_
                                        first | refine WL.val rfl rfl rfl rfl (r_addN rfl (ev_t rfl) ev_c (by simp only [inK]; omega)) ?_ | refine WL.val rfl rfl rfl rfl (r_add rfl (ev_t rfl) ev_c) ?_
                                        refine WL.val rfl rfl rfl rfl (r_assign rfl (ev_t rfl)) ?_
                                        refine WL.nil ?_
                                        refine WX.keep [(0, _), (4, _), (6, _), (7, _), (8, _)] ⟨rfl, rfl, rfl, rfl, rfl, trivial⟩ ?_
                                        refine WX.meet [(0, _), (4, _), (6, _), (7, _), (8, _)] ⟨rfl, rfl, rfl, rfl, rfl, trivial⟩ ?_
                                        exact ⟨n - (i + 1), by omega, i + 1, t, by omega, rfl, hU, by omega, by rw [outs_succ, List.append_assoc]; exact hor, hR, hO, hP, hL, rfl⟩
                              · try (exfalso; first | (simp at hc34; done) | (simp only [decide_eq_true_eq, decide_eq_false_iff_not, Bool.not_eq_true', Bool.not_eq_false', Bool.not_eq_true, Bool.not_eq_false] at hc34; omega) | omega)
                                all_goals
                                  try simp only [decide_eq_true_eq, decide_eq_false_iff_not, Bool.not_eq_true', Bool.not_eq_false', Bool.not_eq_true, Bool.not_eq_false, Option.isNone_none, Option.isNone_some, Option.isSome_none, Option.isSome_some, ne_eq, Decidable.not_not] at hc34
                                  -- region 29 law.go:62 DRAWS
                                  refine WC.draws' (fun u0_ u1_ => Upd (From w.heap.size) u0_ u1_) (fun j => [0, 1, 0, 0, 0, 0, 0, 2, 0, 0].getD j 0) (.calm 0 (.calm 2 (.calm 3 (.calm 4 (.calm 5 (.held 6 (.two 1 7 (.one 7 (.calm 8 (.calm 9 (.done)))) (.one 1 (.calm 8 (.calm 9 (.done))))))))))) mixed (by kernel_rfl) (by repeat (first | with_reducible exact Deaf.body | with_reducible apply Deaf.then | with_reducible apply Deaf.block)) ?_
                                  intro w26 hu26
                                  have hz26 := congrArg Array.size hu26.2.2.2
                                  replace hu26 := Upd.of_draw hu26
                                  have hs26 := hu26.size
                                  replace hU := hU.trans hu26 (by first | exact (fun _ _ h => h) | exact (fun _ _ h => h.elim) | (intro k hl hk; (try simp only [At, New, Grow, From, No] at hk ⊢); omega) | (intro k hl hk; first | (have := (hMb k hk).1; omega) | (have := (hFb k hk).1; omega)))
                                  replace hR := hR.upd hu26 (by first | exact (fun h => h) | (simp only [At, New, Grow, From, No]; omega)) (by first | exact (fun _ _ _ h => h) | (intro k hk hl hS; have := hPb k hk; simp only [At, New, Grow, From, No] at hS; omega))
                                  replace hO := hO.upd hu26 (by first | exact (fun _ _ _ h => h) | exact (fun k hk _ hM => hd k hM hk) | (intro k hk hl hS; have := (hFb k hk).2; simp only [At, New, Grow, From, No] at hS; omega))
                                  replace hP := hP.upd hu26 (by first | exact (fun _ _ _ h => h) | (intro k hk hl hS; have := hPb k hk; simp only [At, New, Grow, From, No] at hS; omega))
                                  replace hL := hL.upd hu26 (by first | exact (fun _ _ _ h => h) | (intro k hk hl hS; have : k < w.heap.size := hk; first | (have := (hMb k hS).1; omega) | (have := (hFb k hS).1; omega) | (simp only [At, New, Grow, From, No] at hS; omega)))
                                  have hS29 := Upd.refl (From w.heap.size) w26
                                  refine WN.calm _ rfl rfl rfl rfl rfl (fun _ => r_move rfl (ev_t rfl)) ?_
                                  refine WN.calm _ rfl rfl rfl rfl rfl (fun _ => r_move rfl (ev_t rfl)) ?_
                                  refine WN.calm _ rfl rfl rfl rfl rfl (fun _ => r_move rfl (ev_t rfl)) ?_
                                  refine WN.calm _ rfl rfl rfl rfl rfl (fun _ => r_indexAddr rfl (ev_t rfl) (ev_t rfl) elem_81 size_83 (by omega) (by omega)) ?_
                                  first | refine WN.calm _ rfl rfl rfl rfl rfl (fun _ => r_field0 rfl (ev_t rfl) fld_83_2) ?_ | refine WN.calm _ rfl rfl rfl rfl rfl (fun _ => r_fieldAt rfl (ev_t rfl) fld_83_2) ?_
                                  refine WN.held _ rfl rfl rfl rfl rfl hS29 (fun w' hS => r_load rfl (ev_t rfl) flat_37 ((hL.1.upd hS (fun k hk hl hS' => by have : k < w.heap.size := hk; simp only [From] at hS'; omega)).cell (j := i * 3 + 2) (by omega) hpb)) ?_
                                  refine WN.fork _ _ rfl rfl ?_ ?_
                                  · refine SO.call (text_ok (most := 5000) hR hFg (by simp only [inK]; omega) (bytes_enc hBi5 t)) rfl body_43 ⟨(ev_t rfl), ev_c, trivial⟩ rfl rfl rfl rfl ?_
                                    rintro v w27 ⟨rfl, hR, hu27, hlen⟩
                                    have hs27 := hu27.size
                                    replace hS29 := Upd.trans_same hS29 (Upd.mono hu27 (by first | exact (fun _ _ h => h) | exact (fun _ _ h => h.elim) | (intro k _ hk; (try simp only [At, New, Grow, From, No] at hk ⊢); omega)))
                                    replace hU := hU.trans hu27 (by first | exact (fun _ _ h => h) | exact (fun _ _ h => h.elim) | (intro k hl hk; (try simp only [At, New, Grow, From, No] at hk ⊢); omega) | (intro k hl hk; first | (have := (hMb k hk).1; omega) | (have := (hFb k hk).1; omega)))
                                    replace hO := hO.upd hu27 (by first | exact (fun _ _ _ h => h) | exact (fun k hk _ hM => hd k hM hk) | (intro k hk hl hS; have := (hFb k hk).2; simp only [At, New, Grow, From, No] at hS; omega))
                                    replace hP := hP.upd hu27 (by first | exact (fun _ _ _ h => h) | (intro k hk hl hS; have := hPb k hk; simp only [At, New, Grow, From, No] at hS; omega))
                                    replace hL := hL.upd hu27 (by first | exact (fun _ _ _ h => h) | (intro k hk hl hS; have : k < w.heap.size := hk; first | (have := (hMb k hS).1; omega) | (have := (hFb k hS).1; omega) | (simp only [At, New, Grow, From, No] at hS; omega)))
                                    refine ⟨hS29, ?_⟩
                                    refine WN.step _ rfl (SO.val rfl rfl rfl rfl (r_toStr rfl (ev_t rfl) (by have h := hL.2 i hin; rw [hVi] at h; exact h) elem_37 int_5 str_9) ?_)
                                    refine ⟨trivial, ?_⟩
                                    refine WN.calm _ rfl rfl rfl rfl rfl (fun _ => r_eqlStr rfl (ev_t rfl) (ev_t rfl)) ?_
                                    refine WN.calm _ rfl rfl rfl rfl rfl (fun _ => r_assign rfl (ev_t rfl)) ?_
                                    refine WN.done ?_
                                    refine WX.keep [(0, _), (4, _), (6, _), (7, _), (8, _), (9, _)] ⟨rfl, rfl, rfl, rfl, rfl, rfl, trivial⟩ ?_
                                    refine WX.blockNormal ?_
                                    refine WX.next ?_
                                    refine WC.seq ?_
                                    -- region 36 law.go:64
                                    refine WC.region ?_
                                    refine WL.val rfl rfl rfl rfl (r_move rfl (ev_t rfl)) ?_
                                    refine WL.val rfl rfl rfl rfl (r_not rfl (ev_t rfl)) ?_
                                    refine WL.nil ?_
                                    refine WX.keep [(0, _), (4, _), (6, _), (7, _), (8, _), (167, _)] ⟨rfl, rfl, rfl, rfl, rfl, rfl, trivial⟩ ?_
                                    refine WX.next ?_
                                    refine WC.cond rfl (ev_t rfl) (fun hc36 => ?_) (fun hc36 => ?_)
                                    · try (exfalso; first | (simp at hc36; done) | (simp only [decide_eq_true_eq, decide_eq_false_iff_not, Bool.not_eq_true', Bool.not_eq_false', Bool.not_eq_true, Bool.not_eq_false] at hc36; omega) | omega)
                                      all_goals
                                        try simp only [decide_eq_true_eq, decide_eq_false_iff_not, Bool.not_eq_true', Bool.not_eq_false', Bool.not_eq_true, Bool.not_eq_false, Option.isNone_none, Option.isNone_some, Option.isSome_none, Option.isSome_some, ne_eq, Decidable.not_not] at hc36
                                        refine WC.seq ?_
                                        -- region 37 law.go:65
                                        refine WC.region ?_
                                        refine WL.val rfl rfl rfl rfl (r_assign rfl ev_c) ?_
                                        refine WL.nil ?_
                                        refine WX.keep [(2, _)] ⟨rfl, trivial⟩ ?_
                                        refine WX.next ?_
                                        refine WC.ret ?_
                                        refine WX.blockRet ?_
                                        refine WX.thenRet ?_
                                        refine WX.thenRet ?_
                                        refine WX.blockRet ?_
                                        refine WX.thenRet ?_
                                        refine WX.retE1 rfl rfl ?_
                                        exact ⟨rfl, hU⟩
                                    · try (exfalso; first | (simp at hc36; done) | (simp only [decide_eq_true_eq, decide_eq_false_iff_not, Bool.not_eq_true', Bool.not_eq_false', Bool.not_eq_true, Bool.not_eq_false] at hc36; omega) | omega)
                                      all_goals
                                        try simp only [decide_eq_true_eq, decide_eq_false_iff_not, Bool.not_eq_true', Bool.not_eq_false', Bool.not_eq_true, Bool.not_eq_false, Option.isNone_none, Option.isNone_some, Option.isSome_none, Option.isSome_some, ne_eq, Decidable.not_not] at hc36
                                        refine WC.skip ?_
                                        refine WX.blockNormal ?_
                                        refine WX.next ?_
                                        -- region 26 law.go:52
                                        refine WC.region ?_
                                        refine WL.val rfl rfl rfl rfl (r_move rfl (ev_t rfl)) ?_
                                        first | refine WL.val rfl rfl rfl rfl (r_addN rfl (ev_t rfl) ev_c (by simp only [inK]; omega)) ?_ | refine WL.val rfl rfl rfl rfl (r_add rfl (ev_t rfl) ev_c) ?_
                                        refine WL.val rfl rfl rfl rfl (r_assign rfl (ev_t rfl)) ?_
                                        refine WL.nil ?_
                                        refine WX.keep [(0, _), (4, _), (6, _), (7, _), (8, _)] ⟨rfl, rfl, rfl, rfl, rfl, trivial⟩ ?_
                                        refine WX.meet [(0, _), (4, _), (6, _), (7, _), (8, _)] ⟨rfl, rfl, rfl, rfl, rfl, trivial⟩ ?_
                                        exact ⟨n - (i + 1), by omega, i + 1, t, by omega, rfl, hU, by omega, by rw [outs_succ, List.append_assoc]; exact hor, hR, hO, hP, hL, rfl⟩
                                  · refine SO.val rfl rfl rfl rfl (r_toStr rfl (ev_t rfl) (by have h := hL.2 i hin; rw [hVi] at h; exact h) elem_37 int_5 str_9) ?_
                                    refine ⟨trivial, ?_⟩
                                    refine WN.step _ rfl (SO.call (text_ok (most := 5000) hR hFg (by simp only [inK]; omega) (bytes_enc hBi5 t)) rfl body_43 ⟨(ev_t rfl), ev_c, trivial⟩ rfl rfl rfl rfl ?_)
                                    rintro v w28 ⟨rfl, hR, hu28, hlen⟩
                                    have hs28 := hu28.size
                                    replace hS29 := Upd.trans_same hS29 (Upd.mono hu28 (by first | exact (fun _ _ h => h) | exact (fun _ _ h => h.elim) | (intro k _ hk; (try simp only [At, New, Grow, From, No] at hk ⊢); omega)))
                                    replace hU := hU.trans hu28 (by first | exact (fun _ _ h => h) | exact (fun _ _ h => h.elim) | (intro k hl hk; (try simp only [At, New, Grow, From, No] at hk ⊢); omega) | (intro k hl hk; first | (have := (hMb k hk).1; omega) | (have := (hFb k hk).1; omega)))
                                    replace hO := hO.upd hu28 (by first | exact (fun _ _ _ h => h) | exact (fun k hk _ hM => hd k hM hk) | (intro k hk hl hS; have := (hFb k hk).2; simp only [At, New, Grow, From, No] at hS; omega))
                                    replace hP := hP.upd hu28 (by first | exact (fun _ _ _ h => h) | (intro k hk hl hS; have := hPb k hk; simp only [At, New, Grow, From, No] at hS; omega))
                                    replace hL := hL.upd hu28 (by first | exact (fun _ _ _ h => h) | (intro k hk hl hS; have : k < w.heap.size := hk; first | (have := (hMb k hS).1; omega) | (have := (hFb k hS).1; omega) | (simp only [At, New, Grow, From, No] at hS; omega)))
                                    refine ⟨hS29, ?_⟩
                                    refine WN.calm _ rfl rfl rfl rfl rfl (fun _ => r_eqlStr rfl (ev_t rfl) (ev_t rfl)) ?_
                                    refine WN.calm _ rfl rfl rfl rfl rfl (fun _ => r_assign rfl (ev_t rfl)) ?_
                                    refine WN.done ?_
                                    refine WX.keep [(0, _), (4, _), (6, _), (7, _), (8, _), (9, _)] ⟨rfl, rfl, rfl, rfl, rfl, rfl, trivial⟩ ?_
                                    refine WX.blockNormal ?_
                                    refine WX.next ?_
                                    refine WC.seq ?_
                                    -- region 36 law.go:64
                                    refine WC.region ?_
                                    refine WL.val rfl rfl rfl rfl (r_move rfl (ev_t rfl)) ?_
                                    refine WL.val rfl rfl rfl rfl (r_not rfl (ev_t rfl)) ?_
                                    refine WL.nil ?_
                                    refine WX.keep [(0, _), (4, _), (6, _), (7, _), (8, _), (167, _)] ⟨rfl, rfl, rfl, rfl, rfl, rfl, trivial⟩ ?_
                                    refine WX.next ?_
                                    refine WC.cond rfl (ev_t rfl) (fun hc36 => ?_) (fun hc36 => ?_)
                                    · try (exfalso; first | (simp at hc36; done) | (simp only [decide_eq_true_eq, decide_eq_false_iff_not, Bool.not_eq_true', Bool.not_eq_false', Bool.not_eq_true, Bool.not_eq_false] at hc36; omega) | omega)
                                      all_goals
                                        try simp only [decide_eq_true_eq, decide_eq_false_iff_not, Bool.not_eq_true', Bool.not_eq_false', Bool.not_eq_true, Bool.not_eq_false, Option.isNone_none, Option.isNone_some, Option.isSome_none, Option.isSome_some, ne_eq, Decidable.not_not] at hc36
                                        refine WC.seq ?_
                                        -- region 37 law.go:65
                                        refine WC.region ?_
                                        refine WL.val rfl rfl rfl rfl (r_assign rfl ev_c) ?_
                                        refine WL.nil ?_
                                        refine WX.keep [(2, _)] ⟨rfl, trivial⟩ ?_
                                        refine WX.next ?_
                                        refine WC.ret ?_
                                        refine WX.blockRet ?_
                                        refine WX.thenRet ?_
                                        refine WX.thenRet ?_
                                        refine WX.blockRet ?_
                                        refine WX.thenRet ?_
                                        refine WX.retE1 rfl rfl ?_
                                        exact ⟨rfl, hU⟩
                                    · try (exfalso; first | (simp at hc36; done) | (simp only [decide_eq_true_eq, decide_eq_false_iff_not, Bool.not_eq_true', Bool.not_eq_false', Bool.not_eq_true, Bool.not_eq_false] at hc36; omega) | omega)
                                      all_goals
                                        try simp only [decide_eq_true_eq, decide_eq_false_iff_not, Bool.not_eq_true', Bool.not_eq_false', Bool.not_eq_true, Bool.not_eq_false, Option.isNone_none, Option.isNone_some, Option.isSome_none, Option.isSome_some, ne_eq, Decidable.not_not] at hc36
                                        refine WC.skip ?_
                                        refine WX.blockNormal ?_
                                        refine WX.next ?_
                                        -- region 26 law.go:52
                                        refine WC.region ?_
                                        refine WL.val rfl rfl rfl rfl (r_move rfl (ev_t rfl)) ?_
                                        first | refine WL.val rfl rfl rfl rfl (r_addN rfl (ev_t rfl) ev_c (by simp only [inK]; omega)) ?_ | refine WL.val rfl rfl rfl rfl (r_add rfl (ev_t rfl) ev_c) ?_
                                        refine WL.val rfl rfl rfl rfl (r_assign rfl (ev_t rfl)) ?_
                                        refine WL.nil ?_
                                        refine WX.keep [(0, _), (4, _), (6, _), (7, _), (8, _)] ⟨rfl, rfl, rfl, rfl, rfl, trivial⟩ ?_
                                        refine WX.meet [(0, _), (4, _), (6, _), (7, _), (8, _)] ⟨rfl, rfl, rfl, rfl, rfl, trivial⟩ ?_
                                        exact ⟨n - (i + 1), by omega, i + 1, t, by omega, rfl, hU, by omega, by rw [outs_succ, List.append_assoc]; exact hor, hR, hO, hP, hL, rfl⟩
                  · try (exfalso; first | (simp at hc25; done) | (simp only [decide_eq_true_eq, decide_eq_false_iff_not, Bool.not_eq_true', Bool.not_eq_false', Bool.not_eq_true, Bool.not_eq_false] at hc25; omega) | omega)
                    all_goals
                      try simp only [decide_eq_true_eq, decide_eq_false_iff_not, Bool.not_eq_true', Bool.not_eq_false', Bool.not_eq_true, Bool.not_eq_false, Option.isNone_none, Option.isNone_some, Option.isSome_none, Option.isSome_some, ne_eq, Decidable.not_not] at hc25
                      obtain rfl : n = i := by omega
                      obtain rfl : r = [] := by
                        have h0 := congrArg List.length hor
                        rw [List.length_append] at h0
                        exact List.eq_nil_of_length_eq_zero (by omega)
                      refine WC.exit ?_
                      refine WX.thenExit ?_
                      refine WX.thenExit ?_
                      refine WX.blockHere ?_
                      refine WX.next ?_
                      refine WC.seq ?_
                      -- region 38 law.go:68
                      refine WC.region ?_
                      refine WL.val rfl rfl rfl rfl (r_move rfl (ev_t rfl)) ?_
                      refine WL.val rfl rfl rfl rfl (r_toStr rfl (ev_t rfl) (hP.rd (by omega)) elem_37 int_5 str_9) ?_
                      refine WL.val rfl rfl rfl rfl (r_move rfl (ev_t rfl)) ?_
                      refine WL.val rfl rfl rfl rfl (r_toStr rfl (ev_t rfl) (hO.rd (by omega)) elem_37 int_5 str_9) ?_
                      refine WL.val rfl rfl rfl rfl (r_eqlStr rfl (ev_t rfl) (ev_t rfl)) ?_
                      refine WL.val rfl rfl rfl rfl (r_move rfl (ev_t rfl)) ?_
                      refine WL.cases 173 rfl (fun hb38_5 => ?_) (fun hb38_5 => ?_)
                      · try (exfalso; first | (simp at hb38_5; done) | (simp only [decide_eq_true_eq, decide_eq_false_iff_not, Bool.not_eq_true', Bool.not_eq_false', Bool.not_eq_true, Bool.not_eq_false] at hb38_5; omega) | omega)
                        all_goals
                          try simp only [decide_eq_true_eq, decide_eq_false_iff_not, Bool.not_eq_true', Bool.not_eq_false', Bool.not_eq_true, Bool.not_eq_false, Option.isNone_none, Option.isNone_some, Option.isSome_none, Option.isSome_some, ne_eq, Decidable.not_not] at hb38_5
                          refine WL.val rfl rfl rfl rfl (r_move rfl (ev_t rfl)) ?_
                          refine WL.cons (SO.call (end_ok hR) rfl body_45 ⟨(ev_t rfl), trivial⟩ rfl rfl rfl rfl ?_)
                          rintro v w29 ⟨rfl, rfl⟩
                          refine WL.val rfl rfl rfl rfl (r_pickT rfl (ev_t rfl) (ev_t rfl)) ?_
                          refine WL.val rfl rfl rfl rfl (r_move rfl (ev_t rfl)) ?_
                          refine WL.cases 177 rfl (fun hb38_9 => ?_) (fun hb38_9 => ?_)
                          · try (exfalso; first | (simp at hb38_9; done) | (simp only [decide_eq_true_eq, decide_eq_false_iff_not, Bool.not_eq_true', Bool.not_eq_false', Bool.not_eq_true, Bool.not_eq_false] at hb38_9; omega) | omega)
                            all_goals
                              try simp only [decide_eq_true_eq, decide_eq_false_iff_not, Bool.not_eq_true', Bool.not_eq_false', Bool.not_eq_true, Bool.not_eq_false, Option.isNone_none, Option.isNone_some, Option.isSome_none, Option.isSome_some, ne_eq, Decidable.not_not] at hb38_9
                              refine WL.val rfl rfl rfl rfl (r_move rfl (ev_t rfl)) ?_
                              refine WL.cons (SO.call (bad_ok hR) rfl body_44 ⟨(ev_t rfl), trivial⟩ rfl rfl rfl rfl ?_)
                              rintro v w30 ⟨rfl, rfl⟩
                              refine WL.val rfl rfl rfl rfl (r_not rfl (ev_t rfl)) ?_
                              refine WL.val rfl rfl rfl rfl (r_pickT rfl (ev_t rfl) (ev_t rfl)) ?_
                              refine WL.val rfl rfl rfl rfl (r_assign rfl (ev_t rfl)) ?_
                              refine WL.nil ?_
                              refine WX.keep [(2, _)] ⟨rfl, trivial⟩ ?_
                              refine WX.next ?_
                              refine WC.ret ?_
                              refine WX.retE1 rfl rfl ?_
                              exact ⟨rfl, hU⟩
                          · try (exfalso; first | (simp at hb38_9; done) | (simp only [decide_eq_true_eq, decide_eq_false_iff_not, Bool.not_eq_true', Bool.not_eq_false', Bool.not_eq_true, Bool.not_eq_false] at hb38_9; omega) | omega)
                            all_goals
                              try simp only [decide_eq_true_eq, decide_eq_false_iff_not, Bool.not_eq_true', Bool.not_eq_false', Bool.not_eq_true, Bool.not_eq_false, Option.isNone_none, Option.isNone_some, Option.isSome_none, Option.isSome_some, ne_eq, Decidable.not_not] at hb38_9
                              refine WL.skip rfl rfl rfl ?_
                              refine WL.skip rfl rfl rfl ?_
                              refine WL.skip rfl rfl rfl ?_
                              refine WL.val rfl rfl rfl rfl (r_pickF rfl (ev_t rfl) ev_c) ?_
                              refine WL.val rfl rfl rfl rfl (r_assign rfl (ev_t rfl)) ?_
                              refine WL.nil ?_
                              refine WX.keep [(2, _)] ⟨rfl, trivial⟩ ?_
                              refine WX.next ?_
                              refine WC.ret ?_
                              refine WX.retE1 rfl rfl ?_
                              exact ⟨rfl, hU⟩
                      · try (exfalso; first | (simp at hb38_5; done) | (simp only [decide_eq_true_eq, decide_eq_false_iff_not, Bool.not_eq_true', Bool.not_eq_false', Bool.not_eq_true, Bool.not_eq_false] at hb38_5; omega) | omega)
                        all_goals
                          try simp only [decide_eq_true_eq, decide_eq_false_iff_not, Bool.not_eq_true', Bool.not_eq_false', Bool.not_eq_true, Bool.not_eq_false, Option.isNone_none, Option.isNone_some, Option.isSome_none, Option.isSome_some, ne_eq, Decidable.not_not] at hb38_5
                          refine WL.skip rfl rfl rfl ?_
                          refine WL.skip rfl rfl rfl ?_
                          refine WL.val rfl rfl rfl rfl (r_pickF rfl (ev_t rfl) ev_c) ?_
                          refine WL.val rfl rfl rfl rfl (r_move rfl (ev_t rfl)) ?_
                          refine WL.skip rfl rfl rfl ?_
                          refine WL.skip rfl rfl rfl ?_
                          refine WL.skip rfl rfl rfl ?_
                          refine WL.val rfl rfl rfl rfl (r_pickF rfl (ev_t rfl) ev_c) ?_
                          refine WL.val rfl rfl rfl rfl (r_assign rfl (ev_t rfl)) ?_
                          refine WL.nil ?_
                          refine WX.keep [(2, _)] ⟨rfl, trivial⟩ ?_
                          refine WX.next ?_
                          refine WC.ret ?_
                          refine WX.retE1 rfl rfl ?_
                          exact ⟨rfl, hU⟩
end Go.Proofs.Ytjiafgnibhgfbaa
