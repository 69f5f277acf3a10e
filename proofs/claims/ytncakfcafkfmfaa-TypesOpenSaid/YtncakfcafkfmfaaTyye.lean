/-
  types: Open and its closure.
-/
import Derived.Test.YtncakfcafkfmfaaTyyd
import Derived.Test.YtncakfcafkfmfaaTyt
import Derived.Test.YtncakfcafkfmfaaFv
namespace Go.Proofs.Ytncakfcafkfmfaa
open Go
set_option linter.unusedSimpArgs false
set_option linter.unusedVariables false

def zc3 : C3 := (.string ⟨#[]⟩, .int .i64 0, .slice none 0 0)
/-- the first i made -/
def opR (nn : Int) (i n : Nat) : List C3 := (List.range n).map fun j => if j < i then lv (nn + (j : Int) + 1) else zc3
theorem opR_len (nn : Int) (i n : Nat) : (opR nn i n).length = n := by simp [opR]
theorem opR_zero (nn : Int) (n : Nat) : opR nn 0 n = List.replicate n zc3 := by
  apply List.ext_getElem
  · simp [opR]
  · intro j h1 h2
    simp [opR]
theorem opR_set {nn : Int} {i n : Nat} (hi : i < n) : (opR nn i n).set i (lv (nn + (i : Int) + 1)) = opR nn (i + 1) n := by
  apply List.ext_getElem
  · simp [opR]
  · intro j h1 h2
    rw [List.getElem_set]
    by_cases h : i = j
    · subst h; simp [opR]
    · rw [if_neg h]
      simp only [opR, List.getElem_map, List.getElem_range]
      by_cases h3 : j < i
      · rw [if_pos h3, if_pos (by omega)]
      · rw [if_neg h3, if_neg (by omega)]
theorem opR_get {nn : Int} {j n : Nat} (hj : j < n) : (opR nn n n)[j]? = some (lv (nn + (j : Int) + 1)) := by
  rw [List.getElem?_eq_getElem (by rw [opR_len]; exact hj)]
  simp only [opR, List.getElem_map, List.getElem_range]
  rw [if_pos hj]
theorem zeroTyp (n : Nat) : (rowCells (.agg #[.string ⟨#[]⟩, .int .i64 0, .slice none 0 0]) n).toList = (opR 0 0 n).flatMap c3 := by
  rw [opR_zero]
  unfold rowCells
  induction n with
  | zero => rfl
  | succ n ih =>
    rw [List.replicate_succ, List.replicate_succ, List.flatten_cons, List.flatMap_cons]
    simp only at ih ⊢
    rw [ih]
    rfl
theorem opR_nn (nn : Int) (n : Nat) : opR 0 0 n = opR nn 0 n := by rw [opR_zero, opR_zero]
abbrev f3C (b3 b5 : Nat) : Value := .func (.func 44) #[] #[.pointer (some ⟨b3, 0, none⟩), .pointer (some ⟨b5, 0, none⟩)]
theorem open1_ok {w : World} {F : Nat → Prop} {A : Option Addr} {c b3 b5 n : Nat} {nn x : Int} {v1 v2 v3 : Value} (hx : 1 ≤ x ∧ x ≤ n) (hn : n ≤ 1000000) (hnn : 0 ≤ nn ∧ nn ≤ 1000000000) (h3 : Blk w b3 #[.int .i64 (n : Int), v1, v2, v3] 49) (h5 : Blk w b5 #[.slice A n c] 26) (hr : Rd w F (.slice A n c) n 3 ((opR nn n n).flatMap c3)) :
    Ret Try.prog 44 #[.int .i64 x, .pointer (some ⟨b3, 0, none⟩), .pointer (some ⟨b5, 0, none⟩)] w fun v w' => v = .agg #[.string ⟨#[]⟩, .int .i64 (nn + x), .slice none 0 0] ∧ Upd No w w' := by
  obtain ⟨j, rfl⟩ : ∃ j : Nat, x = (j : Int) + 1 := ⟨(x - 1).toNat, by omega⟩
  have hj : j < n := by omega
  obtain ⟨b0, off, rfl, _⟩ := hr.open (by omega)
  refine enterRet (vs := [_, _, _]) (N := 23) Try.func44 rfl rfl rfl ?_
  have hU := Upd.refl No w
  refine WC.keep [(0, _), (1, _), (2, _)] ⟨rfl, rfl, rfl, trivial⟩ ?_
  refine WC.seq ?_
  refine WC.region ?_
  refine WL.cons (SO.alloc rfl rfl rfl rfl (r_alloc rfl zero_28) ?_)
  intro w1 hu1 hB1 hz1
  have hs1 := hu1.size
  replace hU := hU.transA hu1
  refine WL.nil ?_
  refine WX.keep [(0, _), (1, _), (2, _), (4, _)] ⟨rfl, rfl, rfl, rfl, trivial⟩ ?_
  refine WX.next ?_
  refine WC.seq ?_
  refine WC.seq ?_
  refine WC.region ?_
  refine WL.val rfl rfl rfl rfl (r_move rfl (ev_t rfl)) ?_
  refine WL.val rfl rfl rfl rfl (r_geq rfl (ev_t rfl) ev_c) ?_
  refine WL.val rfl rfl rfl rfl (r_move rfl (ev_t rfl)) ?_
  refine WL.cases 7 rfl (fun hb1_2 => ?_) (fun hb1_2 => ?_)
  · try (exfalso; first | (simp at hb1_2; done) | (simp only [decide_eq_true_eq, decide_eq_false_iff_not, Bool.not_eq_true', Bool.not_eq_false', Bool.not_eq_true, Bool.not_eq_false] at hb1_2; omega) | omega)
    all_goals
     try simp only [decide_eq_true_eq, decide_eq_false_iff_not, Bool.not_eq_true', Bool.not_eq_false', Bool.not_eq_true, Bool.not_eq_false, Option.isNone_none, Option.isNone_some, Option.isSome_none, Option.isSome_some, ne_eq, Decidable.not_not] at hb1_2
     refine WL.val rfl rfl rfl rfl (r_move rfl (ev_t rfl)) ?_
     first | refine WL.val rfl rfl rfl rfl (r_field0 rfl (ev_t rfl) fld_49_0) ?_ | refine WL.val rfl rfl rfl rfl (r_fieldAt rfl (ev_t rfl) fld_49_0) ?_
     refine WL.val rfl rfl rfl rfl (r_load rfl (ev_t rfl) flat_3 (Blk.cell (h3.upd hU (fun h => h)) rfl)) ?_
     refine WL.val rfl rfl rfl rfl (r_leq rfl (ev_t rfl) (ev_t rfl)) ?_
     refine WL.val rfl rfl rfl rfl (r_pickT rfl (ev_t rfl) (ev_t rfl)) ?_
     refine WL.nil ?_
     refine WX.keep [(0, _), (2, _), (4, _), (12, _)] ⟨rfl, rfl, rfl, rfl, trivial⟩ ?_
     refine WX.next ?_
     refine WC.cond rfl (ev_t rfl) (fun hc1 => ?_) (fun hc1 => ?_)
     · try (exfalso; first | (simp at hc1; done) | (simp only [decide_eq_true_eq, decide_eq_false_iff_not, Bool.not_eq_true', Bool.not_eq_false', Bool.not_eq_true, Bool.not_eq_false] at hc1; omega) | omega)
       all_goals
        try simp only [decide_eq_true_eq, decide_eq_false_iff_not, Bool.not_eq_true', Bool.not_eq_false', Bool.not_eq_true, Bool.not_eq_false, Option.isNone_none, Option.isNone_some, Option.isSome_none, Option.isSome_some, ne_eq, Decidable.not_not] at hc1
        refine WC.seq ?_
        refine WC.region ?_
        refine WL.val rfl rfl rfl rfl (r_load rfl (ev_t rfl) flat_26 (Blk.cell (h5.upd hU (fun h => h)) rfl)) ?_
        refine WL.val rfl rfl rfl rfl (r_move rfl (ev_t rfl)) ?_
        first | refine WL.val rfl rfl rfl rfl (r_subN rfl (ev_t rfl) ev_c (by simp only [inK]; omega)) ?_ | refine WL.val rfl rfl rfl rfl (r_sub rfl (ev_t rfl) ev_c) ?_
        rw [show ((j : Int) + 1 - 1) = ((j : Nat) : Int) by omega]
        refine WL.val rfl rfl rfl rfl (r_indexAddr rfl (ev_t rfl) (ev_t rfl) elem_26 size_28 (by omega) (by omega)) ?_
        refine WL.val rfl rfl rfl rfl (r_loadAgg (vs := [_, _, _]) rfl (ev_t rfl) agg_28 size_28 (kid_cells (hr.upd hU (fun _ _ _ h => h)) (opR_get hj) rfl)) ?_
        refine WL.cons (SO.storeAll (us := [_, _, _]) rfl (ev_t rfl) (ev_t rfl) size_28 hB1 rfl rfl rfl rfl rfl ?_)
        intro w2 hu2 hB1 hz2
        have hs2 := hu2.size
        replace hU := hU.transA hu2
        refine WL.nil ?_
        refine WX.keep [(4, _)] ⟨rfl, trivial⟩ ?_
        refine WX.next ?_
        refine WC.ret ?_
        refine WX.thenRet ?_
        refine WX.retC (vs := [_, _, _]) rfl rfl agg_28 size_28 (Blk.cellsL hB1) ?_
        refine ⟨?_, hU⟩
        show Value.agg #[_, .int .i64 (nn + (j : Int) + 1), _] = _
        rw [show nn + (j : Int) + 1 = nn + ((j : Int) + 1) by omega]
        rfl
     · try simp only [decide_eq_true_eq, decide_eq_false_iff_not, Bool.not_eq_true', Bool.not_eq_false', Bool.not_eq_true, Bool.not_eq_false, Option.isNone_none, Option.isNone_some, Option.isSome_none, Option.isSome_some, ne_eq, Decidable.not_not] at hc1
       exfalso
       first
         | omega
         | (simp at hc1; omega)
         | (simp_all; done)
  · try (exfalso; first | (simp at hb1_2; done) | (simp only [decide_eq_true_eq, decide_eq_false_iff_not, Bool.not_eq_true', Bool.not_eq_false', Bool.not_eq_true, Bool.not_eq_false] at hb1_2; omega) | omega)
    all_goals
     try simp only [decide_eq_true_eq, decide_eq_false_iff_not, Bool.not_eq_true', Bool.not_eq_false', Bool.not_eq_true, Bool.not_eq_false, Option.isNone_none, Option.isNone_some, Option.isSome_none, Option.isSome_some, ne_eq, Decidable.not_not] at hb1_2
     refine WL.skip rfl rfl rfl ?_
     refine WL.skip rfl rfl rfl ?_
     refine WL.skip rfl rfl rfl ?_
     refine WL.skip rfl rfl rfl ?_
     refine WL.val rfl rfl rfl rfl (r_pickF rfl (ev_t rfl) ev_c) ?_
     refine WL.nil ?_
     refine WX.keep [(0, _), (2, _), (4, _), (12, _)] ⟨rfl, rfl, rfl, rfl, trivial⟩ ?_
     refine WX.next ?_
     refine WC.cond_false rfl (ev_t rfl) ?_
     refine WC.skip ?_
     refine WX.next ?_
     refine WC.seq ?_
     refine WC.region ?_
     refine WL.val rfl rfl rfl rfl (r_move rfl (ev_t rfl)) ?_
     refine WL.val rfl rfl rfl rfl (r_move rfl (ev_t rfl)) ?_
     first | refine WL.val rfl rfl rfl rfl (r_negN rfl (ev_t rfl) (by simp only [inK]; omega)) ?_ | refine WL.val rfl rfl rfl rfl (r_neg rfl (ev_t rfl)) ?_
     refine WL.val rfl rfl rfl rfl (r_max rfl (ev_t rfl) (ev_t rfl)) ?_
     refine WL.val rfl rfl rfl rfl (r_build (cs := #[_, _, _]) (vs := [(1, _)]) rfl ⟨⟨rfl, (ev_t rfl)⟩, trivial⟩ plc_28 zero_28 rfl) ?_
     fail -- store 3.5: which block? (st 3.5: name)

set_option maxHeartbeats 2000000 in
theorem rename3_ok {b3 b5 n c1 : Nat} {nn : Int} {A1 : Option Addr} {F2 : Nat → Prop} {v1 v2 v3 : Value} (hn : n ≤ 1000000) (hnn : 0 ≤ nn ∧ nn ≤ 1000000000) : ∀ (N : Nat) (F : Nat → Prop) (w : World) (a b c : Value) (t : Ty), sz t ≤ N → TV w F (a, b, c) t → (∀ x ∈ vars t, 1 ≤ x ∧ x ≤ n) → Blk w b3 #[.int .i64 (n : Int), v1, v2, v3] 49 → Blk w b5 #[.slice A1 n c1] 26 → Rd w F2 (.slice A1 n c1) n 3 ((opR nn n n).flatMap c3) →
    Ret Try.prog 41 #[.agg #[a, b, c], f3C b3 b5] w fun v w' => ∃ a' b' c', v = .agg #[a', b', c'] ∧ TV w' (New w w') (a', b', c') (ext (fun x => Ty.v (nn + x)) t) ∧ Upd No w w' := by
  intro N
  induction N with
  | zero =>
    intro F w a b c t hN
    have := sz_pos t
    omega
  | succ N ih =>
    intro F w a b c t hN ht hvs h31 h51 hr5
    replace ht := ht.bound
    obtain ⟨m, A0, k0, xk, rfl, rfl, rfl, hm, hr, hl, hb, hk⟩ := ht.open
    have hks : TVs w (fun k => F k ∧ k < w.heap.size) xk t.kids := ⟨hl, hk⟩
    refine enterRet (vs := [_, _]) (N := 35) Try.func41 rfl rfl rfl ?_
    have hU := Upd.refl No w
    refine WC.keep [(0, _), (1, _)] ⟨rfl, rfl, trivial⟩ ?_
    refine WC.seq ?_
    refine WC.region ?_
    refine WL.cons (SO.alloc rfl rfl rfl rfl (r_boxAgg rfl (ev_t rfl)) ?_)
    intro w1 hu1 hB1 hz1
    have hs1 := hu1.size
    replace hU := hU.trans hu1 (by first | exact (fun _ _ h => h) | exact (fun _ _ h => h.elim) | (intro k hl hk; (try simp only [At, New, Grow, From, No] at hk ⊢); omega) | (intro k hl hk; have := hG k hk; omega))
    replace hr := hr.upd hu1 (fun k hk hl hS => by first | exact (show False from hS).elim | (simp only [At] at hS; omega) | (have := hG k hS; omega))
    replace hks := hks.upd hu1 (fun k hk hl hS => by first | exact (show False from hS).elim | (simp only [At] at hS; omega) | (have := hG k hS; omega))
    refine WL.cons (SO.alloc rfl rfl rfl rfl (r_alloc rfl zero_28) ?_)
    intro w2 hu2 hB2 hz2
    have hs2 := hu2.size
    replace hU := hU.trans hu2 (by first | exact (fun _ _ h => h) | exact (fun _ _ h => h.elim) | (intro k hl hk; (try simp only [At, New, Grow, From, No] at hk ⊢); omega) | (intro k hl hk; have := hG k hk; omega))
    replace hr := hr.upd hu2 (fun k hk hl hS => by first | exact (show False from hS).elim | (simp only [At] at hS; omega) | (have := hG k hS; omega))
    replace hks := hks.upd hu2 (fun k hk hl hS => by first | exact (show False from hS).elim | (simp only [At] at hS; omega) | (have := hG k hS; omega))
    replace hB1 := hB1.updA hu2
    refine WL.nil ?_
    refine WX.keep [(1, _), (2, _), (4, _)] ⟨rfl, rfl, rfl, trivial⟩ ?_
    refine WX.next ?_
    refine WC.seq ?_
    refine WC.seq ?_
    refine WC.region ?_
    first | refine WL.val rfl rfl rfl rfl (r_field0 rfl (ev_t rfl) fld_28_0) ?_ | refine WL.val rfl rfl rfl rfl (r_fieldAt rfl (ev_t rfl) fld_28_0) ?_
    refine WL.val rfl rfl rfl rfl (r_load rfl (ev_t rfl) flat_9 (Blk.cell hB1 rfl)) ?_
    refine WL.val rfl rfl rfl rfl (r_eqlStrL rfl (ev_t rfl) ev_c) ?_
    refine WL.nil ?_
    refine WX.keep [(1, _), (2, _), (4, _), (10, _)] ⟨rfl, rfl, rfl, rfl, trivial⟩ ?_
    refine WX.next ?_
    refine WC.cond rfl (ev_t rfl) (fun hc1 => ?_) (fun hc1 => ?_)
    · try (exfalso; first | (simp at hc1; done) | (simp only [decide_eq_true_eq, decide_eq_false_iff_not, Bool.not_eq_true', Bool.not_eq_false', Bool.not_eq_true, Bool.not_eq_false] at hc1; omega) | omega)
      all_goals
       try simp only [decide_eq_true_eq, decide_eq_false_iff_not, Bool.not_eq_true', Bool.not_eq_false', Bool.not_eq_true, Bool.not_eq_false, Option.isNone_none, Option.isNone_some, Option.isSome_none, Option.isSome_some, ne_eq, Decidable.not_not] at hc1
       obtain ⟨x, rfl⟩ := Ty.nm_nil.1 hc1
       obtain rfl := (hm x rfl).symm
       have hx := hvs x (by rw [vars_v]; simp)
       refine WC.seq ?_
       refine WC.region ?_
       refine WL.val rfl rfl rfl rfl (r_move rfl (ev_t rfl)) ?_
       first | refine WL.val rfl rfl rfl rfl (r_field0 rfl (ev_t rfl) fld_28_1) ?_ | refine WL.val rfl rfl rfl rfl (r_fieldAt rfl (ev_t rfl) fld_28_1) ?_
       refine WL.val rfl rfl rfl rfl (r_load rfl (ev_t rfl) flat_3 (Blk.cell hB1 rfl)) ?_
       refine WL.cons (SO.callV (vs := [_]) rfl (ev_t rfl) body_44 ⟨(ev_t rfl), trivial⟩ rfl (open1_ok hx hn hnn (h31.upd hU (fun h => h)) (h51.upd hU (fun h => h)) (hr5.upd hU (fun _ _ _ h => h))) rfl rfl rfl rfl ?_)
       rintro v w3 ⟨rfl, hu3⟩
       have hs3 := hu3.size
       replace hU := hU.trans hu3 (by first | exact (fun _ _ h => h) | exact (fun _ _ h => h.elim) | (intro k hl hk; (try simp only [At, New, Grow, From, No] at hk ⊢); omega) | (intro k hl hk; have := hG k hk; omega))
       replace hr := hr.upd hu3 (fun k hk hl hS => by first | exact (show False from hS).elim | (simp only [At] at hS; omega) | (have := hG k hS; omega))
       replace hks := hks.upd hu3 (fun k hk hl hS => by first | exact (show False from hS).elim | (simp only [At] at hS; omega) | (have := hG k hS; omega))
       replace hB1 := hB1.updA hu3
       replace hB2 := hB2.upd hu3 (by first | exact (fun h => h) | (simp only [At]; omega) | (intro hS; have := hG _ hS; omega))
       refine WL.cons (SO.storeAll (us := [_, _, _]) rfl (ev_t rfl) (ev_t rfl) size_28 hB2 rfl rfl rfl rfl rfl ?_)
       intro w4 hu4 hB2 hz4
       have hs4 := hu4.size
       replace hU := hU.trans hu4 (by first | exact (fun _ _ h => h) | exact (fun _ _ h => h.elim) | (intro k hl hk; (try simp only [At, New, Grow, From, No] at hk ⊢); omega) | (intro k hl hk; have := hG k hk; omega))
       replace hr := hr.upd hu4 (fun k hk hl hS => by first | exact (show False from hS).elim | (simp only [At] at hS; omega) | (have := hG k hS; omega))
       replace hks := hks.upd hu4 (fun k hk hl hS => by first | exact (show False from hS).elim | (simp only [At] at hS; omega) | (have := hG k hS; omega))
       replace hB1 := hB1.updA hu4
       refine WL.nil ?_
       refine WX.keep [(4, _)] ⟨rfl, trivial⟩ ?_
       refine WX.next ?_
       refine WC.ret ?_
       refine WX.thenRet ?_
       refine WX.retC (vs := [_, _, _]) rfl rfl agg_28 size_28 (Blk.cellsL hB2) ?_
       refine ⟨_, _, _, rfl, ?_, hU⟩
       rw [ext_v]
       exact TV.nil _
    · try (exfalso; first | (simp at hc1; done) | (simp only [decide_eq_true_eq, decide_eq_false_iff_not, Bool.not_eq_true', Bool.not_eq_false', Bool.not_eq_true, Bool.not_eq_false] at hc1; omega) | omega)
      all_goals
       try simp only [decide_eq_true_eq, decide_eq_false_iff_not, Bool.not_eq_true', Bool.not_eq_false', Bool.not_eq_true, Bool.not_eq_false, Option.isNone_none, Option.isNone_some, Option.isSome_none, Option.isSome_some, ne_eq, Decidable.not_not] at hc1
       obtain ⟨f, ks, rfl⟩ := nm_c hc1
       refine WC.skip ?_
       refine WX.next ?_
       refine WC.seq ?_
       refine WC.region ?_
       first | refine WL.val rfl rfl rfl rfl (r_field0 rfl (ev_t rfl) fld_28_0) ?_ | refine WL.val rfl rfl rfl rfl (r_fieldAt rfl (ev_t rfl) fld_28_0) ?_
       refine WL.val rfl rfl rfl rfl (r_load rfl (ev_t rfl) flat_9 (Blk.cell hB1 rfl)) ?_
       refine WL.val rfl rfl rfl rfl (r_build (cs := #[_, _, _]) (vs := [(0, _)]) rfl ⟨⟨rfl, (ev_t rfl)⟩, trivial⟩ plc_28 zero_28 rfl) ?_
       refine WL.cons (SO.alloc rfl rfl rfl rfl (r_alloc rfl zero_28) ?_)
       intro w5 hu5 hB5 hz5
       have hs5 := hu5.size
       replace hU := hU.trans hu5 (by first | exact (fun _ _ h => h) | exact (fun _ _ h => h.elim) | (intro k hl hk; (try simp only [At, New, Grow, From, No] at hk ⊢); omega) | (intro k hl hk; have := hG k hk; omega))
       replace hr := hr.upd hu5 (fun k hk hl hS => by first | exact (show False from hS).elim | (simp only [At] at hS; omega) | (have := hG k hS; omega))
       replace hks := hks.upd hu5 (fun k hk hl hS => by first | exact (show False from hS).elim | (simp only [At] at hS; omega) | (have := hG k hS; omega))
       replace hB1 := hB1.updA hu5
       replace hB2 := hB2.upd hu5 (by first | exact (fun h => h) | (simp only [At]; omega) | (intro hS; have := hG _ hS; omega))
       refine WL.cons (SO.storeAll (us := [_, _, _]) rfl (ev_t rfl) (ev_t rfl) size_28 hB5 rfl rfl rfl rfl rfl ?_)
       intro w6 hu6 hB5 hz6
       have hs6 := hu6.size
       replace hU := hU.trans hu6 (by first | exact (fun _ _ h => h) | exact (fun _ _ h => h.elim) | (intro k hl hk; (try simp only [At, New, Grow, From, No] at hk ⊢); omega) | (intro k hl hk; have := hG k hk; omega))
       replace hr := hr.upd hu6 (fun k hk hl hS => by first | exact (show False from hS).elim | (simp only [At] at hS; omega) | (have := hG k hS; omega))
       replace hks := hks.upd hu6 (fun k hk hl hS => by first | exact (show False from hS).elim | (simp only [At] at hS; omega) | (have := hG k hS; omega))
       replace hB1 := hB1.updA hu6
       replace hB2 := hB2.upd hu6 (by first | exact (fun h => h) | (simp only [At]; omega) | (intro hS; have := hG _ hS; omega))
       refine WL.nil ?_
       refine WX.keep [(1, _), (2, _), (4, _), (5, _)] ⟨rfl, rfl, rfl, rfl, trivial⟩ ?_
       refine WX.next ?_
       refine WC.seq ?_
       refine WC.seq ?_
       refine WC.region ?_
       first | refine WL.val rfl rfl rfl rfl (r_field0 rfl (ev_t rfl) fld_28_2) ?_ | refine WL.val rfl rfl rfl rfl (r_fieldAt rfl (ev_t rfl) fld_28_2) ?_
       refine WL.val rfl rfl rfl rfl (r_load rfl (ev_t rfl) flat_26 (Blk.cell hB1 rfl)) ?_
       refine WL.val rfl rfl rfl rfl (r_lenSlice (ts := #[]) rfl (ev_t rfl) elem_26) ?_
       refine WL.val rfl rfl rfl rfl (r_move rfl ev_c) ?_
       refine WL.nil ?_
       refine WX.keep [(1, _), (4, _), (5, _), (19, _), (20, _), (21, _)] ⟨rfl, rfl, rfl, rfl, rfl, rfl, trivial⟩ ?_
       refine WX.next ?_
       refine WC.block ?_
       -- loop 1: live [1, 4, 5, 19, 20, 21]
       refine WC.keep [(1, _), (4, _), (5, _), (19, _), (20, _), (21, _)] ⟨rfl, rfl, rfl, rfl, rfl, rfl, trivial⟩ ?_
       refine WC.loop (fun q E w' => ∃ (i : Nat) (A5 : Option Addr) (c5 : Nat) (ys : List C3) (G T : Nat → Prop), i ≤ ks.length ∧ q = ks.length - i ∧ Upd No w w' ∧ w6.heap.size ≤ w'.heap.size ∧ Rd w' (fun k => F k ∧ k < w.heap.size) (.slice A0 ks.length k0) ks.length 3 (xk.flatMap c3) ∧ TVs w' (fun k => F k ∧ k < w.heap.size) xk ks ∧   Blk w' w1.heap.size #[.string ⟨#[]⟩, .int .i64 0, .slice none 0 0] typ ∧ Blk w' w2.heap.size #[.string ⟨f.1.toArray⟩, .int .i64 0, .slice A5 i c5] typ ∧ Own w' G typ 3 (.slice A5 i c5) i (ys.flatMap c3) ∧ TVs w' T ys ((ks.take i).map (ext (fun x => Ty.v (nn + x)))) ∧ (∀ k, G k → w6.heap.size ≤ k ∧ k < w'.heap.size) ∧ (∀ k, T k → w6.heap.size ≤ k ∧ k < w'.heap.size ∧ ¬ G k) ∧   E = [(1, f3C b3 b5), (4, .pointer (some ⟨w1.heap.size, 0, none⟩)), (5, .pointer (some ⟨w2.heap.size, 0, none⟩)), (19, .slice A0 ks.length k0), (20, .int .i64 (ks.length : Int)), (21, .int .i64 (i : Int))]) (ks.length) ?_ ?_
       · exact ⟨0, none, 0, [], fun _ => False, fun _ => False, by omega, by omega, hU, by omega, hr, hks, hB2, hB5, Own.nil _ _ _ _, TVs.nil _ _, fun k h => h.elim, fun k h => h.elim, rfl⟩
       · clear hU hr hks hB1 hB2
         rintro q E w' ⟨i, A5, c5, ys, G, T, hi, rfl, hU, hws, hr, hks, hB2, hb5, ho, hys, hG, hT, rfl⟩
         have hs0 := hU.size
         simp only [Ty.kids] at hb
         refine WC.seq ?_
         refine WC.region ?_
         refine WL.val rfl rfl rfl rfl (r_lss rfl (ev_t rfl) (ev_t rfl)) ?_
         refine WL.nil ?_
         refine WX.keep [(1, _), (4, _), (5, _), (19, _), (20, _), (21, _), (22, _)] ⟨rfl, rfl, rfl, rfl, rfl, rfl, rfl, trivial⟩ ?_
         refine WX.next ?_
         refine WC.seq ?_
         refine WC.cond rfl (ev_t rfl) (fun hc5 => ?_) (fun hc5 => ?_)
         · try (exfalso; first | (simp at hc5; done) | (simp only [decide_eq_true_eq, decide_eq_false_iff_not, Bool.not_eq_true', Bool.not_eq_false', Bool.not_eq_true, Bool.not_eq_false] at hc5; omega) | omega)
           all_goals
            try simp only [decide_eq_true_eq, decide_eq_false_iff_not, Bool.not_eq_true', Bool.not_eq_false', Bool.not_eq_true, Bool.not_eq_false, Option.isNone_none, Option.isNone_some, Option.isSome_none, Option.isSome_some, ne_eq, Decidable.not_not] at hc5
            have hi' : i < ks.length := by omega
            obtain ⟨b0, off, rfl, _⟩ := hr.open (by omega)
            have hlx : i < xk.length := by have := hks.1; omega
            have hxi : xk[i]? = some xk[i] := List.getElem?_eq_getElem hlx
            have hki : ks[i]? = some ks[i] := List.getElem?_eq_getElem hi'
            have htk := hks.2 i _ _ hxi hki
            have htake := take_map_snoc (f := ext (fun x => Ty.v (nn + x))) hi'
            have hkl := sz_kid (n := f) (List.getElem_mem hi')
            have hkv := fun (x : Int) (hx : x ∈ vars ks[i]) => hvs x (mem_vars_c.2 ⟨_, List.getElem_mem hi', hx⟩)
            generalize xk[i] = ck at *
            generalize ks[i] = kk at *
            obtain ⟨ca, cb, cc⟩ := ck
            have hcel := kid_cells hr hxi rfl
            obtain ⟨m3, A3, k3, xk3, rfl, rfl, rfl, _⟩ := htk.open
            refine WC.skip ?_
            refine WX.next ?_
            refine WC.seq ?_
            refine WC.block ?_
            refine WC.seq ?_
            refine WC.region ?_
            refine WL.val rfl rfl rfl rfl (r_indexAddr rfl (ev_t rfl) (ev_t rfl) elem_26 size_28 (by omega) (by omega)) ?_
            refine WL.val rfl rfl rfl rfl (r_loadAgg (vs := [_, _, _]) rfl (ev_t rfl) agg_28 size_28 hcel) ?_
            skip
            refine WL.cons (SO.alloc rfl rfl rfl rfl (r_alloc rfl zero_28) ?_)
            intro w7 hu7 hB7 hz7
            have hs7 := hu7.size
            replace hU := hU.trans hu7 (by first | exact (fun _ _ h => h) | exact (fun _ _ h => h.elim) | (intro k hl hk; (try simp only [At, New, Grow, From, No] at hk ⊢); omega) | (intro k hl hk; have := hG k hk; omega))
            replace hr := hr.upd hu7 (fun k hk hl hS => by first | exact (show False from hS).elim | (simp only [At] at hS; omega) | (have := hG k hS; omega))
            replace hks := hks.upd hu7 (fun k hk hl hS => by first | exact (show False from hS).elim | (simp only [At] at hS; omega) | (have := hG k hS; omega))
            replace hB2 := hB2.upd hu7 (by first | exact (fun h => h) | (simp only [At]; omega) | (intro hS; have := hG _ hS; omega))
            replace hb5 := hb5.upd hu7 (by first | exact (fun h => h) | (simp only [At]; omega) | (intro hS; have := hG _ hS; omega))
            replace ho := ho.upd hu7 (fun k hk hl hS => by first | exact (show False from hS).elim | (simp only [At] at hS; first | (have := hG k hk; omega) | (rcases hk with hk | hk <;> first | (have := hG k hk; omega) | omega)))
            replace hys := hys.upd hu7 (fun k hk hl hS => by have := hT k hk; first | exact (show False from hS).elim | (simp only [At] at hS; omega))
            replace htk := htk.upd hu7 (fun k hk hl hS => by first | exact (show False from hS).elim | (simp only [At] at hS; omega) | (have := hG k hS; omega))
            refine WL.cons (SO.storeAll (us := [_, _, _]) rfl (ev_t rfl) (ev_t rfl) size_28 hB7 rfl rfl rfl rfl rfl ?_)
            intro w8 hu8 hB7 hz8
            have hs8 := hu8.size
            replace hU := hU.trans hu8 (by first | exact (fun _ _ h => h) | exact (fun _ _ h => h.elim) | (intro k hl hk; (try simp only [At, New, Grow, From, No] at hk ⊢); omega) | (intro k hl hk; have := hG k hk; omega))
            replace hr := hr.upd hu8 (fun k hk hl hS => by first | exact (show False from hS).elim | (simp only [At] at hS; omega) | (have := hG k hS; omega))
            replace hks := hks.upd hu8 (fun k hk hl hS => by first | exact (show False from hS).elim | (simp only [At] at hS; omega) | (have := hG k hS; omega))
            replace hB2 := hB2.upd hu8 (by first | exact (fun h => h) | (simp only [At]; omega) | (intro hS; have := hG _ hS; omega))
            replace hb5 := hb5.upd hu8 (by first | exact (fun h => h) | (simp only [At]; omega) | (intro hS; have := hG _ hS; omega))
            replace ho := ho.upd hu8 (fun k hk hl hS => by first | exact (show False from hS).elim | (simp only [At] at hS; first | (have := hG k hk; omega) | (rcases hk with hk | hk <;> first | (have := hG k hk; omega) | omega)))
            replace hys := hys.upd hu8 (fun k hk hl hS => by have := hT k hk; first | exact (show False from hS).elim | (simp only [At] at hS; omega))
            replace htk := htk.upd hu8 (fun k hk hl hS => by first | exact (show False from hS).elim | (simp only [At] at hS; omega) | (have := hG k hS; omega))
            refine WL.nil ?_
            refine WX.keep [(1, _), (4, _), (5, _), (7, _), (19, _), (20, _), (21, _)] ⟨rfl, rfl, rfl, rfl, rfl, rfl, rfl, trivial⟩ ?_
            refine WX.next ?_
            refine WC.draws' (fun u0_ u1_ => Upd No u0_ u1_) (fun j => [0, 0, 1, 0, 1, 1, 2, 0, 2].getD j 0) (.calm 0 (.calm 3 (.held 1 (.one 2 (.one 4 (.one 5 (.one 6 (.calm 7 (.one 8 (.done)))))))))) mixed (by kernel_rfl) (by repeat (first | with_reducible exact Deaf.body | with_reducible apply Deaf.then | with_reducible apply Deaf.block)) ?_
            intro w9 hu9
            have hz9 := congrArg Array.size hu9.2.2.2
            replace hu9 := Upd.of_draw hu9
            have hs9 := hu9.size
            replace hU := hU.trans hu9 (by first | exact (fun _ _ h => h) | exact (fun _ _ h => h.elim) | (intro k hl hk; (try simp only [At, New, Grow, From, No] at hk ⊢); omega) | (intro k hl hk; have := hG k hk; omega))
            replace hr := hr.upd hu9 (fun k hk hl hS => by first | exact (show False from hS).elim | (simp only [At] at hS; omega) | (have := hG k hS; omega))
            replace hks := hks.upd hu9 (fun k hk hl hS => by first | exact (show False from hS).elim | (simp only [At] at hS; omega) | (have := hG k hS; omega))
            replace hB2 := hB2.upd hu9 (by first | exact (fun h => h) | (simp only [At]; omega) | (intro hS; have := hG _ hS; omega))
            replace hb5 := hb5.upd hu9 (by first | exact (fun h => h) | (simp only [At]; omega) | (intro hS; have := hG _ hS; omega))
            replace ho := ho.upd hu9 (fun k hk hl hS => by first | exact (show False from hS).elim | (simp only [At] at hS; first | (have := hG k hk; omega) | (rcases hk with hk | hk <;> first | (have := hG k hk; omega) | omega)))
            replace hys := hys.upd hu9 (fun k hk hl hS => by have := hT k hk; first | exact (show False from hS).elim | (simp only [At] at hS; omega))
            replace htk := htk.upd hu9 (fun k hk hl hS => by first | exact (show False from hS).elim | (simp only [At] at hS; omega) | (have := hG k hS; omega))
            replace hB7 := hB7.updA hu9
            have hS7 := Upd.refl No w9
            have hb7 := hB7
            first | refine WN.calm _ rfl rfl rfl rfl rfl (fun _ => r_field0 rfl (ev_t rfl) fld_28_2) ?_ | refine WN.calm _ rfl rfl rfl rfl rfl (fun _ => r_fieldAt rfl (ev_t rfl) fld_28_2) ?_
            refine WN.calm _ rfl rfl rfl rfl rfl (fun _ => r_move rfl (ev_t rfl)) ?_
            refine WN.held _ rfl rfl rfl rfl rfl hS7 (fun w' hS => r_load rfl (ev_t rfl) flat_26 (Blk.cell (hb5.upd hS (fun h => h)) rfl)) ?_
            refine WN.step _ rfl (SO.val rfl rfl rfl rfl (r_loadAgg (vs := [_, _, _]) rfl (ev_t rfl) agg_28 size_28 (Blk.cellsL hb7)) ?_)
            refine ⟨hS7, ?_⟩
            refine WN.step _ rfl (SO.call (ih _ _ _ _ _ kk (by omega) htk hkv (h31.upd hU (fun h => h)) (h51.upd hU (fun h => h)) (hr5.upd hU (fun _ _ _ h => h))) rfl body_41 ⟨(ev_t rfl), (ev_t rfl), trivial⟩ rfl rfl rfl rfl ?_)
            rintro v w10 ⟨a8, b8, c8, rfl, ht8, hu10⟩
            obtain ⟨m8, A8, k8, xk8, rfl, rfl, rfl, _⟩ := ht8.open
            have hs8 := hu10.size
            have hs10 := hu10.size
            replace hS7 := Upd.transA hS7 hu10
            replace hU := hU.trans hu10 (by first | exact (fun _ _ h => h) | exact (fun _ _ h => h.elim) | (intro k hl hk; (try simp only [At, New, Grow, From, No] at hk ⊢); omega) | (intro k hl hk; have := hG k hk; omega))
            replace hr := hr.upd hu10 (fun k hk hl hS => by first | exact (show False from hS).elim | (simp only [At] at hS; omega) | (have := hG k hS; omega))
            replace hks := hks.upd hu10 (fun k hk hl hS => by first | exact (show False from hS).elim | (simp only [At] at hS; omega) | (have := hG k hS; omega))
            replace hB2 := hB2.upd hu10 (by first | exact (fun h => h) | (simp only [At]; omega) | (intro hS; have := hG _ hS; omega))
            replace hb5 := hb5.upd hu10 (by first | exact (fun h => h) | (simp only [At]; omega) | (intro hS; have := hG _ hS; omega))
            replace ho := ho.upd hu10 (fun k hk hl hS => by first | exact (show False from hS).elim | (simp only [At] at hS; first | (have := hG k hk; omega) | (rcases hk with hk | hk <;> first | (have := hG k hk; omega) | omega)))
            replace hys := hys.upd hu10 (fun k hk hl hS => by have := hT k hk; first | exact (show False from hS).elim | (simp only [At] at hS; omega))
            replace htk := htk.upd hu10 (fun k hk hl hS => by first | exact (show False from hS).elim | (simp only [At] at hS; omega) | (have := hG k hS; omega))
            replace hb7 := hb7.upd hu10 (by first | exact (fun h => h) | (simp only [At]; omega) | (intro hS; have := hG _ hS; omega))
            have hys2 := (hys.mono (F' := fun k => T k ∨ New w9 w10 k) (fun k h => .inl h)).snoc (ht8.mono (F' := fun k => T k ∨ New w9 w10 k) (fun k h => .inr h))
            rw [← htake] at hys2
            refine ⟨hS7, ?_⟩
            refine WN.step _ rfl (SO.alloc rfl rfl rfl rfl (r_buildSlice (cs := #[_, _, _]) (vs := [(0, _)]) rfl ⟨⟨rfl, (ev_t rfl)⟩, trivial⟩ row_26 rfl rfl) ?_)
            intro w11 hu11 hB11 hz11
            have hs11 := hu11.size
            replace hS7 := Upd.transA hS7 hu11
            replace hU := hU.trans hu11 (by first | exact (fun _ _ h => h) | exact (fun _ _ h => h.elim) | (intro k hl hk; (try simp only [At, New, Grow, From, No] at hk ⊢); omega) | (intro k hl hk; have := hG k hk; omega))
            replace hr := hr.upd hu11 (fun k hk hl hS => by first | exact (show False from hS).elim | (simp only [At] at hS; omega) | (have := hG k hS; omega))
            replace hks := hks.upd hu11 (fun k hk hl hS => by first | exact (show False from hS).elim | (simp only [At] at hS; omega) | (have := hG k hS; omega))
            replace hB2 := hB2.upd hu11 (by first | exact (fun h => h) | (simp only [At]; omega) | (intro hS; have := hG _ hS; omega))
            replace hb5 := hb5.upd hu11 (by first | exact (fun h => h) | (simp only [At]; omega) | (intro hS; have := hG _ hS; omega))
            replace ho := ho.upd hu11 (fun k hk hl hS => by first | exact (show False from hS).elim | (simp only [At] at hS; first | (have := hG k hk; omega) | (rcases hk with hk | hk <;> first | (have := hG k hk; omega) | omega)))
            replace hys2 := hys2.upd hu11 (fun k hk hl hS => by first | exact (show False from hS).elim | (rcases hk with hk | hk <;> first | exact (hT k hk).2.2 hS | (have := hT k hk; simp only [At] at hS; omega) | (simp only [New] at hk; have := hG k hS; omega) | (simp only [New, At] at *; omega)))
            refine ⟨hS7, ?_⟩
            refine WN.step _ rfl (SO.append ho (show Rd _ _ _ 1 3 [Value.string ⟨(ext (fun x => Ty.v (nn + x)) kk).nm.toArray⟩, .int .i64 m8, .slice A8 (ext (fun x => Ty.v (nn + x)) kk).kids.length k8] from rd_one hB11) row_26 one_c3 (le_maxLen (by omega)) (by omega) rfl (ev_t rfl) (ev_t rfl) rfl rfl rfl rfl ?_)
            intro v12 w12 ho hu12
            have hs12 := hu12.size
            try replace hS7 := Upd.transA hS7 hu12
            replace hU := hU.trans hu12 (by first | exact (fun _ _ h => h) | exact (fun _ _ h => h.elim) | (intro k hl hk; (try simp only [At, New, Grow, From, No] at hk ⊢); omega) | (intro k hl hk; have := hG k hk; omega))
            replace hr := hr.upd hu12 (fun k hk hl hS => by first | exact (show False from hS).elim | (simp only [At] at hS; omega) | (have := hG k hS; omega))
            replace hks := hks.upd hu12 (fun k hk hl hS => by first | exact (show False from hS).elim | (simp only [At] at hS; omega) | (have := hG k hS; omega))
            replace hB2 := hB2.upd hu12 (by first | exact (fun h => h) | (simp only [At]; omega) | (intro hS; have := hG _ hS; omega))
            replace hb5 := hb5.upd hu12 (by first | exact (fun h => h) | (simp only [At]; omega) | (intro hS; have := hG _ hS; omega))
            replace hys2 := hys2.upd hu12 (fun k hk hl hS => by first | exact (show False from hS).elim | (rcases hk with hk | hk <;> first | exact (hT k hk).2.2 hS | (have := hT k hk; simp only [At] at hS; omega) | (simp only [New] at hk; have := hG k hS; omega) | (simp only [New, At] at *; omega)))
            refine ⟨trivial, ?_⟩
            obtain ⟨A12, c12, rfl, hc12⟩ := Own.form ho
            rw [← flat_snoc] at ho
            first | refine WN.calm _ rfl rfl rfl rfl rfl (fun _ => r_field0 rfl (ev_t rfl) fld_28_2) ?_ | refine WN.calm _ rfl rfl rfl rfl rfl (fun _ => r_fieldAt rfl (ev_t rfl) fld_28_2) ?_
            refine WN.step _ rfl (SO.store rfl (ev_t rfl) (ev_t rfl) size_26 hb5 rfl rfl rfl rfl rfl ?_)
            intro w13 hu13 hb5 hz13
            have hs13 := hu13.size
            try replace hS7 := Upd.transA hS7 hu13
            replace hU := hU.trans hu13 (by first | exact (fun _ _ h => h) | exact (fun _ _ h => h.elim) | (intro k hl hk; (try simp only [At, New, Grow, From, No] at hk ⊢); omega) | (intro k hl hk; have := hG k hk; omega))
            replace hr := hr.upd hu13 (fun k hk hl hS => by first | exact (show False from hS).elim | (simp only [At] at hS; omega) | (have := hG k hS; omega))
            replace hks := hks.upd hu13 (fun k hk hl hS => by first | exact (show False from hS).elim | (simp only [At] at hS; omega) | (have := hG k hS; omega))
            replace hB2 := hB2.upd hu13 (by first | exact (fun h => h) | (simp only [At]; omega) | (intro hS; have := hG _ hS; omega))
            replace ho := ho.upd hu13 (fun k hk hl hS => by first | exact (show False from hS).elim | (simp only [At] at hS; first | (have := hG k hk; omega) | (rcases hk with hk | hk <;> first | (have := hG k hk; omega) | omega)))
            replace hys2 := hys2.upd hu13 (fun k hk hl hS => by first | exact (show False from hS).elim | (rcases hk with hk | hk <;> first | exact (hT k hk).2.2 hS | (have := hT k hk; simp only [At] at hS; omega) | (simp only [New] at hk; have := hG k hS; omega) | (simp only [New, At] at *; omega)))
            refine ⟨trivial, ?_⟩
            refine WN.done ?_
            refine WX.keep [(1, _), (4, _), (5, _), (19, _), (20, _), (21, _)] ⟨rfl, rfl, rfl, rfl, rfl, rfl, trivial⟩ ?_
            refine WX.blockNormal ?_
            refine WX.next ?_
            refine WC.region ?_
            first | refine WL.val rfl rfl rfl rfl (r_addN rfl (ev_t rfl) ev_c (by simp only [inK]; omega)) ?_ | refine WL.val rfl rfl rfl rfl (r_add rfl (ev_t rfl) ev_c) ?_
            refine WL.val rfl rfl rfl rfl (r_move rfl (ev_t rfl)) ?_
            refine WL.nil ?_
            refine WX.keep [(1, _), (4, _), (5, _), (19, _), (20, _), (21, _)] ⟨rfl, rfl, rfl, rfl, rfl, rfl, trivial⟩ ?_
            refine WX.meet [(1, _), (4, _), (5, _), (19, _), (20, _), (21, _)] ⟨rfl, rfl, rfl, rfl, rfl, rfl, trivial⟩ ?_
            refine ⟨ks.length - (i + 1), by omega, i + 1, _, _, _, _, _, by omega, rfl, hU, by omega, hr, hks, hB2, hb5, ho, hys2, fun k hk => ?_, fun k hk => ?_, by simp⟩
            · rcases hk with hk | hk
              · have := hG k hk; omega
              · omega
            · rcases hk with hk | hk
              · have h9 := hT k hk
                refine ⟨by omega, by omega, fun h => ?_⟩
                rcases h with h | h
                · exact h9.2.2 h
                · omega
              · simp only [New] at hk
                refine ⟨by omega, by omega, fun h => ?_⟩
                rcases h with h | h
                · have := hG k h; omega
                · omega
         · try (exfalso; first | (simp at hc5; done) | (simp only [decide_eq_true_eq, decide_eq_false_iff_not, Bool.not_eq_true', Bool.not_eq_false', Bool.not_eq_true, Bool.not_eq_false] at hc5; omega) | omega)
           all_goals
            try simp only [decide_eq_true_eq, decide_eq_false_iff_not, Bool.not_eq_true', Bool.not_eq_false', Bool.not_eq_true, Bool.not_eq_false, Option.isNone_none, Option.isNone_some, Option.isSome_none, Option.isSome_some, ne_eq, Decidable.not_not] at hc5
            refine WC.exit ?_
            refine WX.thenExit ?_
            refine WX.thenExit ?_
            refine WX.blockHere ?_
            refine WX.next ?_
            refine WC.seq ?_
            refine WC.region ?_
            refine WL.val rfl rfl rfl rfl (r_loadAgg (vs := [_, _, _]) rfl (ev_t rfl) agg_28 size_28 (Blk.cellsL hb5)) ?_
            refine WL.cons (SO.storeAll (us := [_, _, _]) rfl (ev_t rfl) (ev_t rfl) size_28 hB2 rfl rfl rfl rfl rfl ?_)
            intro w14 hu14 hB2 hz14
            have hs14 := hu14.size
            replace hU := hU.trans hu14 (by first | exact (fun _ _ h => h) | exact (fun _ _ h => h.elim) | (intro k hl hk; (try simp only [At, New, Grow, From, No] at hk ⊢); omega) | (intro k hl hk; have := hG k hk; omega))
            replace hr := hr.upd hu14 (fun k hk hl hS => by first | exact (show False from hS).elim | (simp only [At] at hS; omega) | (have := hG k hS; omega))
            replace hks := hks.upd hu14 (fun k hk hl hS => by first | exact (show False from hS).elim | (simp only [At] at hS; omega) | (have := hG k hS; omega))
            replace hb5 := hb5.upd hu14 (by first | exact (fun h => h) | (simp only [At]; omega) | (intro hS; have := hG _ hS; omega))
            replace ho := ho.upd hu14 (fun k hk hl hS => by first | exact (show False from hS).elim | (simp only [At] at hS; first | (have := hG k hk; omega) | (rcases hk with hk | hk <;> first | (have := hG k hk; omega) | omega)))
            replace hys := hys.upd hu14 (fun k hk hl hS => by have := hT k hk; first | exact (show False from hS).elim | (simp only [At] at hS; omega))
            refine WL.nil ?_
            refine WX.keep [(4, _)] ⟨rfl, trivial⟩ ?_
            refine WX.next ?_
            refine WC.ret ?_
            refine WX.retC (vs := [_, _, _]) rfl rfl agg_28 size_28 (Blk.cellsL hB2) ?_
            obtain rfl : i = ks.length := by omega
            rw [List.take_of_length_le (Nat.le_refl _)] at hys
            refine ⟨_, _, _, rfl, ?_, hU⟩
            rw [ext_c]
            refine TV.kids (t := .c f (ks.map (ext (fun x => Ty.v (nn + x))))) (xs := ys) (fun x e => by cases e) ?_ (by simpa [Ty.kids] using hb) (hys.mono fun k hk => by have := hT k hk; simp only [New]; omega)
            simp only [Ty.kids, List.length_map]
            exact (ho.rd (by omega)).mono fun k hk => by have := hG k hk; simp only [New]; omega

theorem Own.of_row {w : World} {g n : Nat} {cs : Array Value} {xs : List C3} (hb : Blk w g cs typ) (hn : n ≤ 1000000) (he : cs.toList = xs.flatMap c3) (hl : xs.length = n) : Own w (At g) typ 3 (.slice (some ⟨g, 0, none⟩) n n) n (xs.flatMap c3) := by
  have hsz : cs.size = n * 3 := by rw [← Array.length_toList, he, flatMap_len c3_len, hl]
  have h := Own.of_blk (F := At _) (n := n) (sz := 3) hb rfl hsz (le_maxLen (by omega))
  rw [he] at h
  exact h
set_option maxHeartbeats 4000000 in
theorem open_ok {w : World} {F F2 : Nat → Prop} {p m1 m2 N : Nat} {σ : Sg} {D : Dn} {nn : Int} {xs : List C3} {a b c : Value} {C : Ty} (hI : IsS w F p m1 m2 σ D nn xs) (hF : ∀ k, F k → ¬ Mut p m1 m2 k) (hFb : ∀ k, F k → k < w.heap.size) (hN : N ≤ 100000) (hnn : 0 ≤ nn ∧ nn ≤ 100000000) (hC : TV w F2 (a, b, c) C) (hF2 : ∀ k, F2 k → k < w.heap.size ∧ k ≠ p) (hv : ∀ x ∈ vars C, 1 ≤ x ∧ x ≤ N) :
    Ret Try.prog 27 #[.pointer (some ⟨p, 0, none⟩), .agg #[.int .i64 (N : Int), a, b, c]] w fun v w' => ∃ a' b' c', v = .agg #[a', b', c'] ∧ TV w' (New w w') (a', b', c') (ext (fun x => Ty.v (nn + x)) C) ∧ IsS w' F p m1 m2 σ D (nn + N) xs ∧ Upd (At p) w w' := by
  obtain ⟨m0, A9, k9, xk9, rfl, rfl, rfl, _⟩ := hC.open
  obtain ⟨hlp, hl1, hl2⟩ := hI.lt
  refine enterRet (vs := [_, _]) (N := 25) Try.func27 rfl rfl rfl ?_
  have hU := Upd.refl (At p) w
  refine WC.keep [(0, _), (1, _)] ⟨rfl, rfl, trivial⟩ ?_
  refine WC.seq ?_
  refine WC.region ?_
  refine WL.cons (SO.alloc rfl rfl rfl rfl (r_boxAgg rfl (ev_t rfl)) ?_)
  intro w1 hu1 hB1 hz1
  have hs1 := hu1.size
  replace hU := hU.trans hu1 (by first | exact (fun _ _ h => h) | exact (fun _ _ h => h.elim) | (intro k hl hk; (try simp only [At, New, Grow, From, No] at hk ⊢); omega) | (intro k hl hk; first | exact (show False from hk).elim | exact hk | (simp only [At] at *; exfalso; omega)))
  replace hI := hI.upd hu1 (fun k hk hl hS => by first | exact (show False from hS).elim | (simp only [At] at hS; subst hS; rcases hk with hk | hk; simp only [Mut] at hk; omega; have := hFb _ hk; omega))
  replace hC := hC.upd hu1 (fun k hk hl hS => by first | exact (show False from hS).elim | (simp only [At] at hS; have := hF2 k hk; omega))
  refine WL.cons (SO.alloc rfl rfl rfl rfl (r_alloc rfl zero_28) ?_)
  intro w2 hu2 hB2 hz2
  have hs2 := hu2.size
  replace hU := hU.trans hu2 (by first | exact (fun _ _ h => h) | exact (fun _ _ h => h.elim) | (intro k hl hk; (try simp only [At, New, Grow, From, No] at hk ⊢); omega) | (intro k hl hk; first | exact (show False from hk).elim | exact hk | (simp only [At] at *; exfalso; omega)))
  replace hI := hI.upd hu2 (fun k hk hl hS => by first | exact (show False from hS).elim | (simp only [At] at hS; subst hS; rcases hk with hk | hk; simp only [Mut] at hk; omega; have := hFb _ hk; omega))
  replace hC := hC.upd hu2 (fun k hk hl hS => by first | exact (show False from hS).elim | (simp only [At] at hS; have := hF2 k hk; omega))
  replace hB1 := hB1.upd hu2 (fun hS => by first | exact (show False from hS) | (simp only [At] at hS; omega))
  refine WL.nil ?_
  refine WX.keep [(0, _), (3, _), (4, _)] ⟨rfl, rfl, rfl, trivial⟩ ?_
  refine WX.next ?_
  refine WC.seq ?_
  refine WC.region ?_
  first | refine WL.val rfl rfl rfl rfl (r_field0 rfl (ev_t rfl) fld_49_0) ?_ | refine WL.val rfl rfl rfl rfl (r_fieldAt rfl (ev_t rfl) fld_49_0) ?_
  refine WL.val rfl rfl rfl rfl (r_load rfl (ev_t rfl) flat_3 (Blk.cell hB1 rfl)) ?_
  refine WL.cons (SO.alloc rfl rfl rfl rfl (r_makeSlice (n := N) rfl (ev_t rfl) (ev_t rfl) row_26 (by omega) (by omega)) ?_)
  intro w3 hu3 hBm hzm
  obtain ⟨gA, hgA⟩ : ∃ g, g = w2.heap.size := ⟨_, rfl⟩
  rw [← hgA] at hBm ⊢
  have hq := Own.of_row hBm (by omega) (zeroTyp N) (opR_len _ _ _)
  rw [opR_nn nn] at hq
  have hs3 := hu3.size
  replace hU := hU.trans hu3 (by first | exact (fun _ _ h => h) | exact (fun _ _ h => h.elim) | (intro k hl hk; (try simp only [At, New, Grow, From, No] at hk ⊢); omega) | (intro k hl hk; first | exact (show False from hk).elim | exact hk | (simp only [At] at *; exfalso; omega)))
  replace hI := hI.upd hu3 (fun k hk hl hS => by first | exact (show False from hS).elim | (simp only [At] at hS; subst hS; rcases hk with hk | hk; simp only [Mut] at hk; omega; have := hFb _ hk; omega))
  replace hC := hC.upd hu3 (fun k hk hl hS => by first | exact (show False from hS).elim | (simp only [At] at hS; have := hF2 k hk; omega))
  replace hB1 := hB1.upd hu3 (fun hS => by first | exact (show False from hS) | (simp only [At] at hS; omega))
  replace hB2 := hB2.upd hu3 (fun hS => by first | exact (show False from hS) | (simp only [At] at hS; omega))
  refine WL.cons (SO.alloc rfl rfl rfl rfl (r_alloc rfl zero_26) ?_)
  intro w4 hu4 hB4 hz4
  have hs4 := hu4.size
  replace hU := hU.trans hu4 (by first | exact (fun _ _ h => h) | exact (fun _ _ h => h.elim) | (intro k hl hk; (try simp only [At, New, Grow, From, No] at hk ⊢); omega) | (intro k hl hk; first | exact (show False from hk).elim | exact hk | (simp only [At] at *; exfalso; omega)))
  replace hI := hI.upd hu4 (fun k hk hl hS => by first | exact (show False from hS).elim | (simp only [At] at hS; subst hS; rcases hk with hk | hk; simp only [Mut] at hk; omega; have := hFb _ hk; omega))
  replace hC := hC.upd hu4 (fun k hk hl hS => by first | exact (show False from hS).elim | (simp only [At] at hS; have := hF2 k hk; omega))
  replace hB1 := hB1.upd hu4 (fun hS => by first | exact (show False from hS) | (simp only [At] at hS; omega))
  replace hB2 := hB2.upd hu4 (fun hS => by first | exact (show False from hS) | (simp only [At] at hS; omega))
  replace hq := hq.upd hu4 (fun k hk hl hS => by first | exact (show False from hS).elim | (simp only [At] at *; omega))
  refine WL.cons (SO.store rfl (ev_t rfl) (ev_t rfl) size_26 hB4 rfl rfl rfl rfl rfl ?_)
  intro w5 hu5 hB4 hz5
  have hs5 := hu5.size
  replace hU := hU.trans hu5 (by first | exact (fun _ _ h => h) | exact (fun _ _ h => h.elim) | (intro k hl hk; (try simp only [At, New, Grow, From, No] at hk ⊢); omega) | (intro k hl hk; first | exact (show False from hk).elim | exact hk | (simp only [At] at *; exfalso; omega)))
  replace hI := hI.upd hu5 (fun k hk hl hS => by first | exact (show False from hS).elim | (simp only [At] at hS; subst hS; rcases hk with hk | hk; simp only [Mut] at hk; omega; have := hFb _ hk; omega))
  replace hC := hC.upd hu5 (fun k hk hl hS => by first | exact (show False from hS).elim | (simp only [At] at hS; have := hF2 k hk; omega))
  replace hB1 := hB1.upd hu5 (fun hS => by first | exact (show False from hS) | (simp only [At] at hS; omega))
  replace hB2 := hB2.upd hu5 (fun hS => by first | exact (show False from hS) | (simp only [At] at hS; omega))
  replace hq := hq.upd hu5 (fun k hk hl hS => by first | exact (show False from hS).elim | (simp only [At] at *; omega))
  refine WL.nil ?_
  refine WX.keep [(0, _), (3, _), (4, _), (5, _)] ⟨rfl, rfl, rfl, rfl, trivial⟩ ?_
  have hb5 := hB4
  obtain ⟨g5, hg5⟩ : ∃ g, g = w3.heap.size := ⟨_, rfl⟩
  rw [← hg5] at hb5 ⊢
  have hlq := hb5.lt
  refine WX.next ?_
  refine WC.seq ?_
  refine WC.seq ?_
  refine WC.region ?_
  refine WL.val rfl rfl rfl rfl (r_load rfl (ev_t rfl) flat_26 (Blk.cell hb5 rfl)) ?_
  refine WL.val rfl rfl rfl rfl (r_lenSlice (ts := #[]) rfl (ev_t rfl) elem_26) ?_
  refine WL.val rfl rfl rfl rfl (r_move rfl ev_c) ?_
  refine WL.nil ?_
  refine WX.keep [(0, _), (3, _), (4, _), (5, _), (11, _), (12, _)] ⟨rfl, rfl, rfl, rfl, rfl, rfl, trivial⟩ ?_
  refine WX.next ?_
  refine WC.block ?_
  -- loop 1: live [0, 3, 4, 5, 11, 12]
  refine WC.keep [(0, _), (3, _), (4, _), (5, _), (11, _), (12, _)] ⟨rfl, rfl, rfl, rfl, rfl, rfl, trivial⟩ ?_
  refine WC.loop (fun q E wA => ∃ (i : Nat), i ≤ N ∧ q = N - i ∧ Upd (At p) w wA ∧ g5 < wA.heap.size ∧ IsS wA F p m1 m2 σ D (nn + i) xs ∧ TV wA F2 (.string ⟨C.nm.toArray⟩, .int .i64 m0, .slice A9 C.kids.length k9) C ∧ Blk wA w.heap.size #[.int .i64 (N : Int), .string ⟨C.nm.toArray⟩, .int .i64 m0, .slice A9 C.kids.length k9] 49 ∧ Blk wA w1.heap.size #[.string ⟨#[]⟩, .int .i64 0, .slice none 0 0] typ ∧   Own wA (At gA) typ 3 (.slice (some ⟨gA, 0, none⟩) N N) N ((opR nn i N).flatMap c3) ∧ Blk wA g5 #[.slice (some ⟨gA, 0, none⟩) N N] 26 ∧   E = [(0, .pointer (some ⟨p, 0, none⟩)), (3, .pointer (some ⟨w.heap.size, 0, none⟩)), (4, .pointer (some ⟨w1.heap.size, 0, none⟩)), (5, .pointer (some ⟨g5, 0, none⟩)), (11, .int .i64 (N : Int)), (12, .int .i64 (i : Int))]) (N) ?_ ?_
  · exact ⟨0, by omega, by omega, hU, by omega, by simpa using hI, hC, hB1, hB2, hq, hb5, rfl⟩
  · clear hU hI hC hB1 hB2 hq hb5
    rintro q E wA ⟨i, hi, rfl, hU, hsz, hI, hC, hB1, hB2, hq, hb5, rfl⟩
    refine WC.seq ?_
    refine WC.region ?_
    refine WL.val rfl rfl rfl rfl (r_lss rfl (ev_t rfl) (ev_t rfl)) ?_
    refine WL.nil ?_
    refine WX.keep [(0, _), (3, _), (4, _), (5, _), (11, _), (12, _), (13, _)] ⟨rfl, rfl, rfl, rfl, rfl, rfl, rfl, trivial⟩ ?_
    refine WX.next ?_
    refine WC.seq ?_
    refine WC.cond rfl (ev_t rfl) (fun hc3 => ?_) (fun hc3 => ?_)
    · try (exfalso; first | (simp at hc3; done) | (simp only [decide_eq_true_eq, decide_eq_false_iff_not, Bool.not_eq_true', Bool.not_eq_false', Bool.not_eq_true, Bool.not_eq_false] at hc3; omega) | omega)
      all_goals
       try simp only [decide_eq_true_eq, decide_eq_false_iff_not, Bool.not_eq_true', Bool.not_eq_false', Bool.not_eq_true, Bool.not_eq_false, Option.isNone_none, Option.isNone_some, Option.isSome_none, Option.isSome_some, ne_eq, Decidable.not_not] at hc3
       refine WC.skip ?_
       refine WX.next ?_
       refine WC.seq ?_
       refine WC.block ?_
       refine WC.seq ?_
       refine WC.region ?_
       refine WL.val rfl rfl rfl rfl (r_move rfl (ev_t rfl)) ?_
       refine WL.val rfl rfl rfl rfl (r_assign rfl (ev_t rfl)) ?_
       refine WL.nil ?_
       refine WX.keep [(0, _), (3, _), (4, _), (5, _), (6, _), (11, _), (12, _)] ⟨rfl, rfl, rfl, rfl, rfl, rfl, rfl, trivial⟩ ?_
       refine WX.next ?_
       refine WC.draws' (fun u0_ u1_ => Upd (fun k => k = p ∨ k = gA) u0_ u1_) (fun j => [0, 0, 0, 1, 0, 2].getD j 0) (.calm 1 (.calm 2 (.held 0 (.one 3 (.calm 4 (.one 5 (.done))))))) mixed (by kernel_rfl) (by repeat (first | with_reducible exact Deaf.body | with_reducible apply Deaf.then | with_reducible apply Deaf.block)) ?_
       intro w6 hu6
       have hz6 := congrArg Array.size hu6.2.2.2
       replace hu6 := Upd.of_draw hu6
       have hs6 := hu6.size
       replace hU := hU.trans hu6 (by first | exact (fun _ _ h => h) | exact (fun _ _ h => h.elim) | (intro k hl hk; (try simp only [At, New, Grow, From, No] at hk ⊢); omega) | (intro k hl hk; first | exact (show False from hk).elim | exact hk | (simp only [At] at *; exfalso; omega)))
       replace hI := hI.upd hu6 (fun k hk hl hS => by first | exact (show False from hS).elim | (simp only [At] at hS; subst hS; rcases hk with hk | hk; simp only [Mut] at hk; omega; have := hFb _ hk; omega))
       replace hC := hC.upd hu6 (fun k hk hl hS => by first | exact (show False from hS).elim | (simp only [At] at hS; have := hF2 k hk; omega))
       replace hB1 := hB1.upd hu6 (fun hS => by first | exact (show False from hS) | (simp only [At] at hS; omega))
       replace hB2 := hB2.upd hu6 (fun hS => by first | exact (show False from hS) | (simp only [At] at hS; omega))
       replace hq := hq.upd hu6 (fun k hk hl hS => by first | exact (show False from hS).elim | (simp only [At] at *; omega))
       replace hb5 := hb5.upd hu6 (fun hS => by first | exact (show False from hS) | (simp only [At] at hS; omega))
       have hS5 := Upd.refl (fun k => k = p ∨ k = gA) w6
       refine WN.calm _ rfl rfl rfl rfl rfl (fun _ => r_move rfl (ev_t rfl)) ?_
       refine WN.calm _ rfl rfl rfl rfl rfl (fun _ => r_move rfl (ev_t rfl)) ?_
       first | refine WN.held _ rfl rfl rfl rfl rfl hS5 (fun w' hS => r_load rfl (ev_t rfl) flat_26 (Blk.cell (hb5.upd hS (fun h => by omega)) rfl)) ?_ | refine WN.held _ rfl rfl rfl rfl rfl hS5 (fun w' hS => r_load rfl (ev_t rfl) flat_26 (Blk.cell hb5 rfl)) ?_
       refine WN.step _ rfl (SO.call (fresh_ok hI hF (by simp only [inK]; omega)) rfl body_28 ⟨(ev_t rfl), trivial⟩ rfl rfl rfl rfl ?_)
       rintro v w7 ⟨rfl, hI2, hu7⟩
       have hs7 := hu7.size
       replace hS5 := Upd.trans hS5 hu7 (by intro k hl hk; first | exact (show False from hk).elim | exact .inl hk | exact .inr hk)
       replace hU := hU.trans hu7 (by first | exact (fun _ _ h => h) | exact (fun _ _ h => h.elim) | (intro k hl hk; (try simp only [At, New, Grow, From, No] at hk ⊢); omega) | (intro k hl hk; first | exact (show False from hk).elim | exact hk | (simp only [At] at *; exfalso; omega)))
       replace hC := hC.upd hu7 (fun k hk hl hS => by first | exact (show False from hS).elim | (simp only [At] at hS; have := hF2 k hk; omega))
       replace hB1 := hB1.upd hu7 (fun hS => by first | exact (show False from hS) | (simp only [At] at hS; omega))
       replace hB2 := hB2.upd hu7 (fun hS => by first | exact (show False from hS) | (simp only [At] at hS; omega))
       replace hq := hq.upd hu7 (fun k hk hl hS => by first | exact (show False from hS).elim | (simp only [At] at *; omega))
       replace hb5 := hb5.upd hu7 (fun hS => by first | exact (show False from hS) | (simp only [At] at hS; omega))
       have hI := hI2
       refine ⟨hS5, ?_⟩
       refine WN.calm _ rfl rfl rfl rfl rfl (fun _ => r_indexAddr rfl (ev_t rfl) (ev_t rfl) elem_26 size_28 (by omega) (by omega)) ?_
       refine WN.step _ rfl (SO.ownSet (i := i) (us := [_, _, _]) hq rfl (by omega) (Nat.zero_add _) rfl rfl (ev_t rfl) (ev_t rfl) size_28 rfl rfl rfl rfl ?_)
       intro w8 hu8 hq2 hz9
       have hs8 := hu8.size
       try replace hS5 := Upd.trans hS5 hu8 (by intro k hl hk; first | exact (show False from hk).elim | exact .inl hk | exact .inr hk)
       replace hU := hU.trans hu8 (by first | exact (fun _ _ h => h) | exact (fun _ _ h => h.elim) | (intro k hl hk; (try simp only [At, New, Grow, From, No] at hk ⊢); omega) | (intro k hl hk; first | exact (show False from hk).elim | exact hk | (simp only [At] at *; exfalso; omega)))
       replace hC := hC.upd hu8 (fun k hk hl hS => by first | exact (show False from hS).elim | (simp only [At] at hS; have := hF2 k hk; omega))
       replace hB1 := hB1.upd hu8 (fun hS => by first | exact (show False from hS) | (simp only [At] at hS; omega))
       replace hB2 := hB2.upd hu8 (fun hS => by first | exact (show False from hS) | (simp only [At] at hS; omega))
       replace hb5 := hb5.upd hu8 (fun hS => by first | exact (show False from hS) | (simp only [At] at hS; omega))
       replace hI := hI.upd hu8 (fun k hk hl hS => by first | exact (show False from hS).elim | (simp only [At] at hS; subst hS; rcases hk with hk | hk; simp only [Mut] at hk; omega; have := hFb _ hk; omega))
       rw [Nat.zero_add] at hq2
       have hq3 : Own w8 (At gA) typ 3 (.slice (some ⟨gA, 0, none⟩) N N) N ((opR nn (i + 1) N).flatMap c3) := by
         rw [← opR_set (by omega), set_flat (by rw [opR_len]; omega)]
         exact hq2
       refine ⟨trivial, ?_⟩
       refine WN.done ?_
       refine WX.keep [(0, _), (3, _), (4, _), (5, _), (11, _), (12, _)] ⟨rfl, rfl, rfl, rfl, rfl, rfl, trivial⟩ ?_
       refine WX.blockNormal ?_
       refine WX.next ?_
       refine WC.region ?_
       first | refine WL.val rfl rfl rfl rfl (r_addN rfl (ev_t rfl) ev_c (by simp only [inK]; omega)) ?_ | refine WL.val rfl rfl rfl rfl (r_add rfl (ev_t rfl) ev_c) ?_
       refine WL.val rfl rfl rfl rfl (r_move rfl (ev_t rfl)) ?_
       refine WL.nil ?_
       refine WX.keep [(0, _), (3, _), (4, _), (5, _), (11, _), (12, _)] ⟨rfl, rfl, rfl, rfl, rfl, rfl, trivial⟩ ?_
       refine WX.meet [(0, _), (3, _), (4, _), (5, _), (11, _), (12, _)] ⟨rfl, rfl, rfl, rfl, rfl, rfl, trivial⟩ ?_
       exact ⟨N - (i + 1), by omega, i + 1, by omega, rfl, hU, by omega, by rw [show nn + ((i + 1 : Nat) : Int) = nn + (i : Int) + 1 by omega]; exact hI, hC, hB1, hB2, hq3, hb5, by simp⟩
    · try (exfalso; first | (simp at hc3; done) | (simp only [decide_eq_true_eq, decide_eq_false_iff_not, Bool.not_eq_true', Bool.not_eq_false', Bool.not_eq_true, Bool.not_eq_false] at hc3; omega) | omega)
      all_goals
       try simp only [decide_eq_true_eq, decide_eq_false_iff_not, Bool.not_eq_true', Bool.not_eq_false', Bool.not_eq_true, Bool.not_eq_false, Option.isNone_none, Option.isNone_some, Option.isSome_none, Option.isSome_some, ne_eq, Decidable.not_not] at hc3
       obtain rfl : N = i := by omega
       have hrq := hq.rd (by omega)
       refine WC.exit ?_
       refine WX.thenExit ?_
       refine WX.thenExit ?_
       refine WX.blockHere ?_
       refine WX.next ?_
       refine WC.seq ?_
       refine WC.region ?_
       first | refine WL.val rfl rfl rfl rfl (r_field0 rfl (ev_t rfl) fld_49_1) ?_ | refine WL.val rfl rfl rfl rfl (r_fieldAt rfl (ev_t rfl) fld_49_1) ?_
       refine WL.val rfl rfl rfl rfl (r_loadAgg (vs := [_, _, _]) rfl (ev_t rfl) agg_28 size_28 (cells_tl hB1)) ?_
       refine WL.val rfl rfl rfl rfl (r_makeFunc (vs := []) (us := [_, _]) rfl trivial ⟨(ev_t rfl), (ev_t rfl), trivial⟩) ?_
       refine WL.cons (SO.call (rename3_ok (by omega) (by omega) _ _ _ _ _ _ C (Nat.le_refl _) hC hv hB1 hb5 hrq) rfl body_41 ⟨(ev_t rfl), (ev_t rfl), trivial⟩ rfl rfl rfl rfl ?_)
       rintro v w9 ⟨a', b', c', rfl, hz, hu9⟩
       obtain ⟨mq, Aq, kq, xkq, rfl, rfl, rfl, _⟩ := hz.open
       have hsu := hU.size
       replace hz := hz.mono (F' := fun k => w.heap.size + 2 ≤ k ∧ k < w9.heap.size) (fun k hk => by simp only [New] at hk; omega)
       have hs9 := hu9.size
       replace hU := hU.trans hu9 (by first | exact (fun _ _ h => h) | exact (fun _ _ h => h.elim) | (intro k hl hk; (try simp only [At, New, Grow, From, No] at hk ⊢); omega) | (intro k hl hk; first | exact (show False from hk).elim | exact hk | (simp only [At] at *; exfalso; omega)))
       replace hI := hI.upd hu9 (fun k hk hl hS => by first | exact (show False from hS).elim | (simp only [At] at hS; subst hS; rcases hk with hk | hk; simp only [Mut] at hk; omega; have := hFb _ hk; omega))
       replace hC := hC.upd hu9 (fun k hk hl hS => by first | exact (show False from hS).elim | (simp only [At] at hS; have := hF2 k hk; omega))
       replace hB1 := hB1.upd hu9 (fun hS => by first | exact (show False from hS) | (simp only [At] at hS; omega))
       replace hB2 := hB2.upd hu9 (fun hS => by first | exact (show False from hS) | (simp only [At] at hS; omega))
       replace hb5 := hb5.upd hu9 (fun hS => by first | exact (show False from hS) | (simp only [At] at hS; omega))
       replace hrq := hrq.upd hu9 (fun k hk hl hS => by first | exact (show False from hS).elim | (simp only [At] at *; omega))
       refine WL.cons (SO.storeAll (us := [_, _, _]) rfl (ev_t rfl) (ev_t rfl) size_28 hB2 rfl rfl rfl rfl rfl ?_)
       intro w10 hu10 hB2 hz10
       have hs10 := hu10.size
       replace hU := hU.trans hu10 (by first | exact (fun _ _ h => h) | exact (fun _ _ h => h.elim) | (intro k hl hk; (try simp only [At, New, Grow, From, No] at hk ⊢); omega) | (intro k hl hk; first | exact (show False from hk).elim | exact hk | (simp only [At] at *; exfalso; omega)))
       replace hI := hI.upd hu10 (fun k hk hl hS => by first | exact (show False from hS).elim | (simp only [At] at hS; subst hS; rcases hk with hk | hk; simp only [Mut] at hk; omega; have := hFb _ hk; omega))
       replace hC := hC.upd hu10 (fun k hk hl hS => by first | exact (show False from hS).elim | (simp only [At] at hS; have := hF2 k hk; omega))
       replace hB1 := hB1.upd hu10 (fun hS => by first | exact (show False from hS) | (simp only [At] at hS; omega))
       replace hb5 := hb5.upd hu10 (fun hS => by first | exact (show False from hS) | (simp only [At] at hS; omega))
       replace hrq := hrq.upd hu10 (fun k hk hl hS => by first | exact (show False from hS).elim | (simp only [At] at *; omega))
       replace hz := hz.upd hu10 (fun k hk hl hS => by first | exact (show False from hS).elim | (simp only [At] at *; omega))
       refine WL.nil ?_
       refine WX.keep [(4, _)] ⟨rfl, trivial⟩ ?_
       refine WX.next ?_
       refine WC.ret ?_
       refine WX.retC (vs := [_, _, _]) rfl rfl agg_28 size_28 (Blk.cellsL hB2) ?_
       exact ⟨_, _, _, rfl, hz.mono fun k hk => by simp only [New]; omega, hI, hU⟩
end Go.Proofs.Ytncakfcafkfmfaa
