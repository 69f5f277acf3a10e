/-
  The reference's check: may a function run?
-/
import Derived.Test.YtipabhbnljadfaaDoorCof
import Derived.Test.YtipabhbnljadfaaDoorFs
namespace Go.Proofs.YtipabhbnljadfaaDoor
open Go
set_option linter.unusedSimpArgs false
set_option linter.unusedVariables false

def triC (x : Int × Int × Int) : List Value := [I64 x.1, I64 x.2.1, I64 x.2.2]
theorem triC_len (x : Int × Int × Int) : (triC x).length = 3 := rfl
theorem leavesR_bd (i : In) : 0 ≤ leavesR i ∧ leavesR i ≤ 1 := by
  unfold leavesR
  split <;> omega
theorem InvR.start {f : Fn} {all : List Fn} {globs : Int} (hne : f.code ≠ []) : InvR f all globs 0 [(0, 1, 0)] := by
  have h0 : 0 < f.code.length := List.length_pos_iff.2 hne
  refine ⟨rfl, by simp, fun x hx => ?_, fun _ j x _ hj => by omega, fun _ L hL x hx => ?_⟩
  · rw [List.mem_singleton] at hx
    subst hx
    simp only
    omega
  · rw [List.mem_singleton] at hx
    subst hx
    exact hL.1
theorem InvR.step {f : Fn} {all : List Fn} {globs : Int} {k : Nat} {l : List (Int × Int × Int)} {x : Int × Int × Int} (h : InvR f all globs k l) (hx : l[k]? = some x) (hp : PosAll all → ProcL f all globs l x) : InvR f all globs (k + 1) l := by
  refine ⟨h.h0, h.nd, h.bd, fun hpo j y hj hjk => ?_, h.lb⟩
  rcases Nat.lt_or_ge j k with h1 | h1
  · exact h.pr hpo j y hj h1
  · obtain rfl : j = k := by omega
    rw [hx] at hj
    have := Option.some.inj hj
    subst this
    exact hp hpo
theorem succ_eq {i : In} {a : Nat} {d0 t0 d1 t1 : Int} (hd : i.op ≠ 26 → d1 = d0 - nnI i + lvT i.op) (ht : t1 = t0 + dtI i) :
    succsI i a d0 t0 = (if nextB i = true then [((a : Int) + 1, d1, t1)] else []) ++ (if i.op = 12 ∨ i.op = 13 then [(i.n, d1, t1)] else if i.op = 24 then [(i.n, d0 + 1, t0)] else []) := by
  unfold succsI
  by_cases h26 : i.op = 26
  · have hn : nextB i = false := by unfold nextB; rw [h26]; rfl
    simp [hn, h26]
  · rw [hd h26, ht]
theorem nextB_pos {i : In} (h8 : (i.op : Int) ≠ 8) (h12 : (i.op : Int) ≠ 12) (h26 : (i.op : Int) ≠ 26) : nextB i = true := by
  unfold nextB
  simp only [Bool.and_eq_true, decide_eq_true_eq, ne_eq]
  omega
theorem nextB_neg {i : In} (h : (i.op : Int) = 8 ∨ (i.op : Int) = 12 ∨ (i.op : Int) = 26) : ¬ nextB i = true := by
  unfold nextB
  simp only [Bool.and_eq_true, decide_eq_true_eq, ne_eq]
  omega
theorem seenK : StructK Tryd.prog 75 [some .i64, some .i64, some .i64] := ⟨by kernel_rfl, by kernel_rfl, by kernel_rfl, by kernel_rfl⟩
theorem same3 {a b c d e f : Int} : sameL [I64 a, I64 b, I64 c] [I64 d, I64 e, I64 f] = (decide (a = d) && (decide (b = e) && decide (c = f))) := by
  simp only [sameL, sameV, Bool.and_true]
theorem conf3 {a b c : Int} : confK [some .i64, some .i64, some .i64] [I64 a, I64 b, I64 c] := ⟨⟨a, rfl⟩, ⟨b, rfl⟩, ⟨c, rfl⟩, trivial⟩

set_option maxHeartbeats 8000000 in
theorem right_ok {w : World} {H H' : Nat → Prop} {F : Fn} {A : Option Addr} {c : Nat} {allv : Value} {all : List Fn} {globs : Int} (hF : inK .i64 F.caps) (hok : ∀ i ∈ F.code, i.ok) (hcode : Rd w H (.slice A F.code.length c) F.code.length 4 (F.code.flatMap insC))
    (hall : IsFs w H' allv all) (hlen : F.code.length ≤ 1000) :
    Ret Tryd.prog 21 #[.agg #[.int .i64 F.caps, .slice A F.code.length c], allv, .int .i64 globs] w fun u w' => (∃ b, u = .bool b ∧ (F.caps < 0 → b = false) ∧ (PosAll all → 0 ≤ F.caps → (b = true ↔ GoodF F all globs))) ∧ Upd No w w' := by
  obtain ⟨n, hn⟩ : ∃ n, F.code.length = n := ⟨_, rfl⟩
  rw [hn] at hcode hlen ⊢
  obtain ⟨bF, hbF⟩ : ∃ bF, bF = w.heap.size := ⟨_, rfl⟩
  refine enterRet (vs := [_, _, _]) (N := 190) Tryd.func21 rfl rfl rfl ?_
  have hU := Upd.refl No w
  refine WC.keep [(0, _), (1, _), (2, _)] ⟨rfl, rfl, rfl, trivial⟩ ?_
  refine WC.seq ?_
  refine WC.region ?_
  refine WL.cons (SO.alloc rfl rfl rfl rfl (r_boxAgg rfl (ev_t rfl)) ?_)
  intro w1 hu1 hB1 hz1
  have hs1 := hu1.size
  replace hU := hU.trans hu1 (by first | exact (fun _ _ h => h) | exact (fun _ _ h => h.elim) | (intro k hl hk; (try simp only [At, New, Grow, From, No] at hk ⊢); omega) | (intro k hl hk; first | (simp only [At, No] at hk; omega) | (have := hG2 k hk; omega) | (have := hG k hk; omega)))
  refine WL.val rfl rfl rfl rfl (r_assign rfl ev_c) ?_
  refine WL.nil ?_
  refine WX.keep [(1, _), (2, _), (3, _)] ⟨rfl, rfl, rfl, trivial⟩ ?_
  have hF3 : Blk w1 bF #[.int .i64 F.caps, .slice A n c] 54 := by rw [hbF]; exact hB1
  rw [← hbF]
  refine WX.next ?_
  refine WC.seq ?_
  refine WC.seq ?_
  refine WC.region ?_
  first | refine WL.val rfl rfl rfl rfl (r_field0 rfl (ev_t rfl) fld_54_0) ?_ | refine WL.val rfl rfl rfl rfl (r_fieldAt rfl (ev_t rfl) fld_54_0) ?_
  refine WL.val rfl rfl rfl rfl (r_load rfl (ev_t rfl) flat_3 (Blk.cell hF3 rfl)) ?_
  refine WL.val rfl rfl rfl rfl (r_lss rfl (ev_t rfl) ev_c) ?_
  refine WL.val rfl rfl rfl rfl (r_move rfl (ev_t rfl)) ?_
  refine WL.cases 20 rfl (fun hb1_3 => ?_) (fun hb1_3 => ?_)
  · try (exfalso; first | (simp at hb1_3; done) | (simp only [decide_eq_true_eq, decide_eq_false_iff_not, Bool.not_eq_true', Bool.not_eq_false', Bool.not_eq_true, Bool.not_eq_false] at hb1_3; omega) | omega)
    all_goals
     try simp only [decide_eq_true_eq, decide_eq_false_iff_not, Bool.not_eq_true', Bool.not_eq_false', Bool.not_eq_true, Bool.not_eq_false, Option.isNone_none, Option.isNone_some, Option.isSome_none, Option.isSome_some, ne_eq, Decidable.not_not] at hb1_3
     refine WL.skip rfl rfl rfl ?_
     refine WL.skip rfl rfl rfl ?_
     refine WL.skip rfl rfl rfl ?_
     refine WL.skip rfl rfl rfl ?_
     refine WL.val rfl rfl rfl rfl (r_pickT rfl (ev_t rfl) ev_c) ?_
     refine WL.nil ?_
     refine WX.keep [(1, _), (2, _), (3, _), (25, _)] ⟨rfl, rfl, rfl, rfl, trivial⟩ ?_
     refine WX.next ?_
     refine WC.cond_true rfl (ev_t rfl) ?_
     refine WC.seq ?_
     refine WC.region ?_
     refine WL.val rfl rfl rfl rfl (r_assign rfl ev_c) ?_
     refine WL.nil ?_
     refine WX.keep [(6, _)] ⟨rfl, trivial⟩ ?_
     refine WX.next ?_
     refine WC.ret ?_
     refine WX.thenRet ?_
     refine WX.retE1 rfl rfl ?_
     refine ⟨⟨false, rfl, fun _ => rfl, fun _ hc0 => ⟨(fun h => by cases h), fun hg => ?_⟩⟩, hU⟩
     have h0 : n = 0 := by omega
     exact absurd (List.eq_nil_of_length_eq_zero (l := F.code) (by omega)) (good_ne hg)
  · try (exfalso; first | (simp at hb1_3; done) | (simp only [decide_eq_true_eq, decide_eq_false_iff_not, Bool.not_eq_true', Bool.not_eq_false', Bool.not_eq_true, Bool.not_eq_false] at hb1_3; omega) | omega)
    all_goals
     try simp only [decide_eq_true_eq, decide_eq_false_iff_not, Bool.not_eq_true', Bool.not_eq_false', Bool.not_eq_true, Bool.not_eq_false, Option.isNone_none, Option.isNone_some, Option.isSome_none, Option.isSome_some, ne_eq, Decidable.not_not] at hb1_3
     first | refine WL.val rfl rfl rfl rfl (r_field0 rfl (ev_t rfl) fld_54_1) ?_ | refine WL.val rfl rfl rfl rfl (r_fieldAt rfl (ev_t rfl) fld_54_1) ?_
     refine WL.val rfl rfl rfl rfl (r_load rfl (ev_t rfl) flat_52 (Blk.cell hF3 rfl)) ?_
     refine WL.val rfl rfl rfl rfl (r_lenSlice (ts := #[]) rfl (ev_t rfl) elem_52) ?_
     refine WL.val rfl rfl rfl rfl (r_eql rfl (ev_t rfl) ev_c) ?_
     refine WL.val rfl rfl rfl rfl (r_pickF rfl (ev_t rfl) (ev_t rfl)) ?_
     refine WL.nil ?_
     refine WX.keep [(1, _), (2, _), (3, _), (25, _)] ⟨rfl, rfl, rfl, rfl, trivial⟩ ?_
     refine WX.next ?_
     refine WC.cond rfl (ev_t rfl) (fun hc1 => ?_) (fun hc1 => ?_)
     · try (exfalso; first | (simp at hc1; done) | (simp only [decide_eq_true_eq, decide_eq_false_iff_not, Bool.not_eq_true', Bool.not_eq_false', Bool.not_eq_true, Bool.not_eq_false] at hc1; omega) | omega)
       all_goals
        try simp only [decide_eq_true_eq, decide_eq_false_iff_not, Bool.not_eq_true', Bool.not_eq_false', Bool.not_eq_true, Bool.not_eq_false, Option.isNone_none, Option.isNone_some, Option.isSome_none, Option.isSome_some, ne_eq, Decidable.not_not] at hc1
        refine WC.seq ?_
        refine WC.region ?_
        refine WL.val rfl rfl rfl rfl (r_assign rfl ev_c) ?_
        refine WL.nil ?_
        refine WX.keep [(6, _)] ⟨rfl, trivial⟩ ?_
        refine WX.next ?_
        refine WC.ret ?_
        refine WX.thenRet ?_
        refine WX.retE1 rfl rfl ?_
        refine ⟨⟨false, rfl, fun _ => rfl, fun _ hc0 => ⟨(fun h => by cases h), fun hg => ?_⟩⟩, hU⟩
        have h0 : n = 0 := by omega
        exact absurd (List.eq_nil_of_length_eq_zero (l := F.code) (by omega)) (good_ne hg)
     · try (exfalso; first | (simp at hc1; done) | (simp only [decide_eq_true_eq, decide_eq_false_iff_not, Bool.not_eq_true', Bool.not_eq_false', Bool.not_eq_true, Bool.not_eq_false] at hc1; omega) | omega)
       all_goals
        try simp only [decide_eq_true_eq, decide_eq_false_iff_not, Bool.not_eq_true', Bool.not_eq_false', Bool.not_eq_true, Bool.not_eq_false, Option.isNone_none, Option.isNone_some, Option.isSome_none, Option.isSome_some, ne_eq, Decidable.not_not] at hc1
        refine WC.skip ?_
        refine WX.next ?_
        refine WC.seq ?_
        refine WC.region ?_
        refine WL.val rfl rfl rfl rfl (r_build (cs := #[_, _, _]) (vs := [(0, _), (1, _), (2, _)]) rfl ⟨⟨rfl, ev_c⟩, ⟨rfl, ev_c⟩, ⟨rfl, ev_c⟩, trivial⟩ plc_75 zero_75 rfl) ?_
        refine WL.cons (SO.alloc rfl rfl rfl rfl (r_buildSlice (cs := #[_, _, _]) (vs := [(0, _)]) rfl ⟨⟨rfl, (ev_t rfl)⟩, trivial⟩ row_76 rfl rfl) ?_)
        intro w2 hu2 hB2 hz2
        have hs2 := hu2.size
        replace hU := hU.trans hu2 (by first | exact (fun _ _ h => h) | exact (fun _ _ h => h.elim) | (intro k hl hk; (try simp only [At, New, Grow, From, No] at hk ⊢); omega) | (intro k hl hk; first | (simp only [At, No] at hk; omega) | (have := hG2 k hk; omega) | (have := hG k hk; omega)))
        replace hF3 := hF3.upd hu2 (by first | exact (fun h => h) | (simp only [At, No]; omega) | (exact fun h => by have := hG _ h; omega) | (exact fun h => by have := hG2 _ h; omega))
        have hg0 := hB2
        have hO := Own.of_blk (F := At _) (n := 1) (sz := 3) hg0 rfl rfl (le_maxLen (by omega))
        have hbl0 := hF3.lt
        refine WL.val rfl rfl rfl rfl (r_assign rfl (ev_t rfl)) ?_
        refine WL.nil ?_
        refine WX.keep [(1, _), (2, _), (3, _), (7, _)] ⟨rfl, rfl, rfl, rfl, trivial⟩ ?_
        refine WX.next ?_
        refine WC.seq ?_
        refine WC.seq ?_
        refine WC.region ?_
        refine WL.val rfl rfl rfl rfl (r_assign rfl ev_c) ?_
        refine WL.nil ?_
        refine WX.keep [(1, _), (2, _), (3, _), (7, _), (8, _)] ⟨rfl, rfl, rfl, rfl, rfl, trivial⟩ ?_
        refine WX.next ?_
        refine WC.block ?_
        -- loop 1: live [1, 2, 3, 7, 8]
        refine WC.keep [(1, _), (2, _), (3, _), (7, _), (8, _)] ⟨rfl, rfl, rfl, rfl, rfl, trivial⟩ ?_
        refine WC.loop (fun q E w' => ∃ (k : Nat) (l : List (Int × Int × Int)) (A1 : Option Addr) (c1 : Nat) (G : Nat → Prop), k ≤ l.length ∧ q = n - k ∧ Upd No w w' ∧ bF < w'.heap.size ∧ Blk w' bF #[.int .i64 F.caps, .slice A n c] 54 ∧ Own w' G 75 3 (.slice A1 l.length c1) l.length (l.flatMap triC) ∧ (∀ k, G k → bF < k ∧ k < w'.heap.size) ∧ InvR F all globs k l ∧   E = [(1, allv), (2, .int .i64 globs), (3, .pointer (some ⟨bF, 0, none⟩)), (7, .slice A1 l.length c1), (8, .int .i64 (k : Int))]) (n) ?_ ?_
        · exact ⟨0, [(0, 1, 0)], _, _, _, by simp, by omega, hU, hF3.lt, hF3, hO, (fun k hk => by simp only [At] at hk; have := hg0.lt; omega), InvR.start (fun e => by rw [e] at hn; simp at hn; omega), rfl⟩
        · clear hU hF3 hO
          rintro q E wA ⟨k, l, A1, c1, G, hk, rfl, hU, hbl, hF3, hO, hG, hI, rfl⟩
          have hln := hI.len
          rw [hn] at hln
          have hw0 := hU.size
          refine WC.seq ?_
          refine WC.seq ?_
          refine WC.region ?_
          refine WL.val rfl rfl rfl rfl (r_move rfl (ev_t rfl)) ?_
          refine WL.val rfl rfl rfl rfl (r_move rfl (ev_t rfl)) ?_
          refine WL.val rfl rfl rfl rfl (r_lenSlice (ts := #[]) rfl (ev_t rfl) elem_76) ?_
          refine WL.val rfl rfl rfl rfl (r_lss rfl (ev_t rfl) (ev_t rfl)) ?_
          refine WL.nil ?_
          refine WX.keep [(1, _), (2, _), (3, _), (7, _), (8, _), (31, _)] ⟨rfl, rfl, rfl, rfl, rfl, rfl, trivial⟩ ?_
          refine WX.next ?_
          refine WC.cond rfl (ev_t rfl) (fun hc5 => ?_) (fun hc5 => ?_)
          · try (exfalso; first | (simp at hc5; done) | (simp only [decide_eq_true_eq, decide_eq_false_iff_not, Bool.not_eq_true', Bool.not_eq_false', Bool.not_eq_true, Bool.not_eq_false] at hc5; omega) | omega)
            all_goals
             try simp only [decide_eq_true_eq, decide_eq_false_iff_not, Bool.not_eq_true', Bool.not_eq_false', Bool.not_eq_true, Bool.not_eq_false, Option.isNone_none, Option.isNone_some, Option.isSome_none, Option.isSome_some, ne_eq, Decidable.not_not] at hc5
             obtain ⟨⟨xa, d0, t0⟩, hx⟩ : ∃ x, l[k]? = some x := ⟨_, List.getElem?_eq_getElem (by omega)⟩
             have hcx := flatMap_get triC_len hx
             obtain ⟨b1, b2, b3, b4, b5, b6⟩ := hI.bd _ (List.mem_of_getElem? hx)
             simp only at b1 b2 b3 b4 b5 b6
             rw [hn] at b2
             obtain ⟨a, rfl⟩ : ∃ a : Nat, xa = a := ⟨xa.toNat, by omega⟩
             obtain ⟨i, hi⟩ : ∃ i, F.code[a]? = some i := ⟨_, List.getElem?_eq_getElem (by omega)⟩
             have hio := hok i (List.mem_of_getElem? hi)
             have hcell := flatMap_get insC_len hi
             have hr := hO.rd (by omega)
             obtain ⟨bl, ol, rfl, _⟩ := hr.open (by omega)
             obtain ⟨bo, oo, rfl, _⟩ := hcode.open (by omega)
             have hKd : inK .i64 d0 := by simp only [inK]; omega
             have hKt : inK .i64 t0 := by simp only [inK]; omega
             refine WC.skip ?_
             refine WX.next ?_
             refine WC.seq ?_
             refine WC.block ?_
             refine WC.seq ?_
             refine WC.region ?_
             refine WL.val rfl rfl rfl rfl (r_move rfl (ev_t rfl)) ?_
             refine WL.val rfl rfl rfl rfl (r_move rfl (ev_t rfl)) ?_
             refine WL.val rfl rfl rfl rfl (r_indexAddr rfl (ev_t rfl) (ev_t rfl) elem_76 size_75 (by omega) (by omega)) ?_
             refine WL.val rfl rfl rfl rfl (r_loadAgg (vs := [_, _, _]) rfl (ev_t rfl) agg_75 size_75 (Rd.cellsL (us := [I64 (a : Int), I64 d0, I64 t0]) hr (i := k * 3) (by omega) hcx)) ?_
             refine WL.cons (SO.alloc rfl rfl rfl rfl (r_alloc rfl zero_75) ?_)
             intro w3 hu3 hB3 hz3
             have hs3 := hu3.size
             replace hU := hU.trans hu3 (by first | exact (fun _ _ h => h) | exact (fun _ _ h => h.elim) | (intro k hl hk; (try simp only [At, New, Grow, From, No] at hk ⊢); omega) | (intro k hl hk; first | (simp only [At, No] at hk; omega) | (have := hG2 k hk; omega) | (have := hG k hk; omega)))
             replace hF3 := hF3.upd hu3 (by first | exact (fun h => h) | (simp only [At, No]; omega) | (exact fun h => by have := hG _ h; omega) | (exact fun h => by have := hG2 _ h; omega))
             replace hO := hO.upd hu3 (by first | exact (fun _ _ _ h => h) | (intro k hk hl hS; have := hG k hk; first | (simp only [At, No] at hS; omega) | (have := hG2 k hS; omega)))
             refine WL.cons (SO.storeAll (us := [_, _, _]) rfl (ev_t rfl) (ev_t rfl) size_75 hB3 rfl rfl rfl rfl rfl ?_)
             intro w4 hu4 hB3 hz4
             have hs4 := hu4.size
             replace hU := hU.trans hu4 (by first | exact (fun _ _ h => h) | exact (fun _ _ h => h.elim) | (intro k hl hk; (try simp only [At, New, Grow, From, No] at hk ⊢); omega) | (intro k hl hk; first | (simp only [At, No] at hk; omega) | (have := hG2 k hk; omega) | (have := hG k hk; omega)))
             replace hF3 := hF3.upd hu4 (by first | exact (fun h => h) | (simp only [At, No]; omega) | (exact fun h => by have := hG _ h; omega) | (exact fun h => by have := hG2 _ h; omega))
             replace hO := hO.upd hu4 (by first | exact (fun _ _ _ h => h) | (intro k hk hl hS; have := hG k hk; first | (simp only [At, No] at hS; omega) | (have := hG2 k hS; omega)))
             refine WL.nil ?_
             refine WX.keep [(1, _), (2, _), (3, _), (7, _), (8, _), (9, _)] ⟨rfl, rfl, rfl, rfl, rfl, rfl, trivial⟩ ?_
             have hbc : Blk w4 wA.heap.size #[I64 (a : Int), I64 d0, I64 t0] 75 := hB3
             have hbcl := hbc.lt
             obtain ⟨bc, hbce⟩ : ∃ bc, bc = wA.heap.size := ⟨_, rfl⟩
             rw [← hbce] at hbc hbcl ⊢
             refine WX.next ?_
             refine WC.seq ?_
             refine WC.region ?_
             first | refine WL.val rfl rfl rfl rfl (r_field0 rfl (ev_t rfl) fld_54_1) ?_ | refine WL.val rfl rfl rfl rfl (r_fieldAt rfl (ev_t rfl) fld_54_1) ?_
             refine WL.val rfl rfl rfl rfl (r_load rfl (ev_t rfl) flat_52 (Blk.cell hF3 rfl)) ?_
             first | refine WL.val rfl rfl rfl rfl (r_field0 rfl (ev_t rfl) fld_75_0) ?_ | refine WL.val rfl rfl rfl rfl (r_fieldAt rfl (ev_t rfl) fld_75_0) ?_
             refine WL.val rfl rfl rfl rfl (r_load rfl (ev_t rfl) flat_3 (Blk.cell hbc rfl)) ?_
             refine WL.val rfl rfl rfl rfl (r_indexAddr rfl (ev_t rfl) (ev_t rfl) elem_52 size_55 (by omega) (by omega)) ?_
             refine WL.val rfl rfl rfl rfl (r_loadAgg (vs := [_, _, _, _]) rfl (ev_t rfl) agg_55 size_55 (Rd.cellsL (us := insC i) (hcode.upd hU (fun _ _ _ h => h)) (i := a * 4) (by omega) hcell)) ?_
             refine WL.cons (SO.alloc rfl rfl rfl rfl (r_alloc rfl zero_55) ?_)
             intro w5 hu5 hB5 hz5
             have hs5 := hu5.size
             replace hU := hU.trans hu5 (by first | exact (fun _ _ h => h) | exact (fun _ _ h => h.elim) | (intro k hl hk; (try simp only [At, New, Grow, From, No] at hk ⊢); omega) | (intro k hl hk; first | (simp only [At, No] at hk; omega) | (have := hG2 k hk; omega) | (have := hG k hk; omega)))
             replace hF3 := hF3.upd hu5 (by first | exact (fun h => h) | (simp only [At, No]; omega) | (exact fun h => by have := hG _ h; omega) | (exact fun h => by have := hG2 _ h; omega))
             replace hO := hO.upd hu5 (by first | exact (fun _ _ _ h => h) | (intro k hk hl hS; have := hG k hk; first | (simp only [At, No] at hS; omega) | (have := hG2 k hS; omega)))
             replace hbc := hbc.upd hu5 (by first | exact (fun h => h) | (simp only [At, No]; omega) | (exact fun h => by have := hG _ h; omega) | (exact fun h => by have := hG2 _ h; omega))
             refine WL.cons (SO.storeAll (us := [_, _, _, _]) rfl (ev_t rfl) (ev_t rfl) size_55 hB5 rfl rfl rfl rfl rfl ?_)
             intro w6 hu6 hB5 hz6
             have hs6 := hu6.size
             replace hU := hU.trans hu6 (by first | exact (fun _ _ h => h) | exact (fun _ _ h => h.elim) | (intro k hl hk; (try simp only [At, New, Grow, From, No] at hk ⊢); omega) | (intro k hl hk; first | (simp only [At, No] at hk; omega) | (have := hG2 k hk; omega) | (have := hG k hk; omega)))
             replace hF3 := hF3.upd hu6 (by first | exact (fun h => h) | (simp only [At, No]; omega) | (exact fun h => by have := hG _ h; omega) | (exact fun h => by have := hG2 _ h; omega))
             replace hO := hO.upd hu6 (by first | exact (fun _ _ _ h => h) | (intro k hk hl hS; have := hG k hk; first | (simp only [At, No] at hS; omega) | (have := hG2 k hS; omega)))
             replace hbc := hbc.upd hu6 (by first | exact (fun h => h) | (simp only [At, No]; omega) | (exact fun h => by have := hG _ h; omega) | (exact fun h => by have := hG2 _ h; omega))
             refine WL.nil ?_
             refine WX.keep [(1, _), (2, _), (3, _), (7, _), (8, _), (9, _), (10, _)] ⟨rfl, rfl, rfl, rfl, rfl, rfl, rfl, trivial⟩ ?_
             have hbi : Blk w6 w4.heap.size (insC i).toArray 55 := hB5
             have hbil := hbi.lt
             obtain ⟨bi, hbie⟩ : ∃ bi, bi = w4.heap.size := ⟨_, rfl⟩
             rw [← hbie] at hbi hbil ⊢
             have hbci : bc < bi := by omega
             obtain ⟨fb, hfb⟩ : ∃ fb, fineR F i d0 t0 all globs = fb := ⟨_, rfl⟩
             obtain ⟨tk, htk⟩ : ∃ tk, takesR i = tk := ⟨_, rfl⟩
             obtain ⟨lv, hlv⟩ : ∃ lv, leavesR i = lv := ⟨_, rfl⟩
             obtain ⟨hlv0, hlv1⟩ := leavesR_bd i
             rw [hlv] at hlv0 hlv1
             refine WX.next ?_
             refine WC.seq ?_
             refine WC.seq ?_
             refine WC.region ?_
             refine WL.val rfl rfl rfl rfl (r_loadAgg (vs := [_, _]) rfl (ev_t rfl) agg_54 size_54 (Blk.cellsL hF3)) ?_
             refine WL.val rfl rfl rfl rfl (r_loadAgg (vs := [_, _, _, _]) rfl (ev_t rfl) agg_55 size_55 (Blk.cellsL hbi)) ?_
             refine WL.val rfl rfl rfl rfl (r_loadAgg (vs := [_, _, _]) rfl (ev_t rfl) agg_75 size_75 (Blk.cellsL hbc)) ?_
             refine WL.val rfl rfl rfl rfl (r_move rfl (ev_t rfl)) ?_
             refine WL.val rfl rfl rfl rfl (r_move rfl (ev_t rfl)) ?_
             refine WL.cons (SO.call (fineR_ok (F := F) (i := i) (at_ := a) (hall.upd hU (fun _ _ _ h => h)) hio hKd hKt hF) rfl body_38 ⟨(ev_t rfl), (ev_t rfl), (ev_t rfl), (ev_t rfl), (ev_t rfl), trivial⟩ rfl rfl rfl rfl ?_)
             rw [hfb]
             rintro v w7 ⟨rfl, hu7⟩
             have hs7 := hu7.size
             replace hU := hU.trans hu7 (by first | exact (fun _ _ h => h) | exact (fun _ _ h => h.elim) | (intro k hl hk; (try simp only [At, New, Grow, From, No] at hk ⊢); omega) | (intro k hl hk; first | (simp only [At, No] at hk; omega) | (have := hG2 k hk; omega) | (have := hG k hk; omega)))
             replace hF3 := hF3.upd hu7 (by first | exact (fun h => h) | (simp only [At, No]; omega) | (exact fun h => by have := hG _ h; omega) | (exact fun h => by have := hG2 _ h; omega))
             replace hO := hO.upd hu7 (by first | exact (fun _ _ _ h => h) | (intro k hk hl hS; have := hG k hk; first | (simp only [At, No] at hS; omega) | (have := hG2 k hS; omega)))
             replace hbc := hbc.upd hu7 (by first | exact (fun h => h) | (simp only [At, No]; omega) | (exact fun h => by have := hG _ h; omega) | (exact fun h => by have := hG2 _ h; omega))
             replace hbi := hbi.upd hu7 (by first | exact (fun h => h) | (simp only [At, No]; omega) | (exact fun h => by have := hG _ h; omega) | (exact fun h => by have := hG2 _ h; omega))
             refine WL.val rfl rfl rfl rfl (r_not rfl (ev_t rfl)) ?_
             refine WL.nil ?_
             refine WX.keep [(1, _), (2, _), (3, _), (7, _), (8, _), (9, _), (10, _), (50, _)] ⟨rfl, rfl, rfl, rfl, rfl, rfl, rfl, rfl, trivial⟩ ?_
             refine WX.next ?_
             refine WC.cond rfl (ev_t rfl) (fun hc9 => ?_) (fun hc9 => ?_)
             · try (exfalso; first | (simp at hc9; done) | (simp only [decide_eq_true_eq, decide_eq_false_iff_not, Bool.not_eq_true', Bool.not_eq_false', Bool.not_eq_true, Bool.not_eq_false] at hc9; omega) | omega)
               all_goals
                try simp only [decide_eq_true_eq, decide_eq_false_iff_not, Bool.not_eq_true', Bool.not_eq_false', Bool.not_eq_true, Bool.not_eq_false, Option.isNone_none, Option.isNone_some, Option.isSome_none, Option.isSome_some, ne_eq, Decidable.not_not] at hc9
                refine WC.seq ?_
                refine WC.region ?_
                refine WL.val rfl rfl rfl rfl (r_assign rfl ev_c) ?_
                refine WL.nil ?_
                refine WX.keep [(6, _)] ⟨rfl, trivial⟩ ?_
                refine WX.next ?_
                refine WC.ret ?_
                refine WX.thenRet ?_
                refine WX.blockRet ?_
                refine WX.thenRet ?_
                refine WX.thenRet ?_
                refine WX.blockRet ?_
                refine WX.thenRet ?_
                refine WX.retE1 rfl rfl ?_
                refine ⟨⟨false, rfl, fun _ => rfl, fun hp _ => ⟨(fun h => by cases h), fun hg => ?_⟩⟩, hU⟩
                obtain ⟨L, hL⟩ := hg
                have h9 := hI.lb hp L hL _ (List.mem_of_getElem? hx)
                obtain ⟨i', hi', h10, _⟩ := hL.2 _ _ _ h9
                simp only [Int.toNat_natCast] at hi'
                rw [hi] at hi'
                obtain rfl := Option.some.inj hi'
                rw [← fineR_eq hp b3 (by omega), hfb] at h10
                simp_all
             · try (exfalso; first | (simp at hc9; done) | (simp only [decide_eq_true_eq, decide_eq_false_iff_not, Bool.not_eq_true', Bool.not_eq_false', Bool.not_eq_true, Bool.not_eq_false] at hc9; omega) | omega)
               all_goals
                try simp only [decide_eq_true_eq, decide_eq_false_iff_not, Bool.not_eq_true', Bool.not_eq_false', Bool.not_eq_true, Bool.not_eq_false, Option.isNone_none, Option.isNone_some, Option.isSome_none, Option.isSome_some, ne_eq, Decidable.not_not] at hc9
                obtain rfl : fb = true := by simp_all
                obtain ⟨hk1, hk2⟩ := fineR_bd hfb
                have htq := takes_eq hk1
                have hop := takesR_op hk1
                obtain ⟨ht8, ht9⟩ := fineR_try hfb b5
                rw [htk] at hk1 hk2 htq
                refine WC.skip ?_
                refine WX.next ?_
                -- cut r11: live [1, 2, 3, 7, 8, 9, 10, 11]
                refine WC.cut (fun E w9 => ∃ bn, bi < bn ∧ bn < w9.heap.size ∧ Upd No w w9 ∧ Blk w9 bF #[.int .i64 F.caps, .slice (some ⟨bo, oo, none⟩) n c] 54 ∧ Own w9 G 75 3 (.slice (some ⟨bl, ol, none⟩) l.length c1) l.length (l.flatMap triC) ∧ Blk w9 bc #[I64 (a : Int), I64 d0, I64 t0] 75 ∧ Blk w9 bi (insC i).toArray 55 ∧ Blk w9 bn #[I64 ((a : Int) + 1), I64 (d0 - tk + lv), I64 t0] 75 ∧   E = [(1, allv), (2, .int .i64 globs), (3, .pointer (some ⟨bF, 0, none⟩)), (7, .slice (some ⟨bl, ol, none⟩) l.length c1), (8, .int .i64 (k : Int)), (9, .pointer (some ⟨bc, 0, none⟩)), (10, .pointer (some ⟨bi, 0, none⟩)), (11, .pointer (some ⟨bn, 0, none⟩))]) ?_ ?_
                · refine WC.draws' (fun u0_ u1_ => Upd No u0_ u1_) (fun j => [0, 0, 0, 0, 0, 0, 1, 0, 0, 1, 0, 0, 0, 0, 1, 2].getD j 0) (.calm 0 (.calm 3 (.calm 11 (.held 1 (.calm 2 (.held 4 (.held 5 (.held 8 (.held 12 (.two 6 14 (.calm 7 (.two 9 14 (.calm 10 (.calm 13 (.one 14 (.one 15 (.done))))) (.one 9 (.calm 10 (.calm 13 (.one 15 (.done))))))) (.one 6 (.calm 7 (.one 9 (.calm 10 (.calm 13 (.one 15 (.done))))))))))))))))) mixed (by kernel_rfl) (by repeat (first | with_reducible exact Deaf.body | with_reducible apply Deaf.then | with_reducible apply Deaf.block)) ?_
                  intro w8 hu8
                  have hz8 := congrArg Array.size hu8.2.2.2
                  replace hu8 := Upd.of_draw hu8
                  have hs8 := hu8.size
                  replace hU := hU.trans hu8 (by first | exact (fun _ _ h => h) | exact (fun _ _ h => h.elim) | (intro k hl hk; (try simp only [At, New, Grow, From, No] at hk ⊢); omega) | (intro k hl hk; first | (simp only [At, No] at hk; omega) | (have := hG2 k hk; omega) | (have := hG k hk; omega)))
                  replace hF3 := hF3.upd hu8 (by first | exact (fun h => h) | (simp only [At, No]; omega) | (exact fun h => by have := hG _ h; omega) | (exact fun h => by have := hG2 _ h; omega))
                  replace hO := hO.upd hu8 (by first | exact (fun _ _ _ h => h) | (intro k hk hl hS; have := hG k hk; first | (simp only [At, No] at hS; omega) | (have := hG2 k hS; omega)))
                  replace hbc := hbc.upd hu8 (by first | exact (fun h => h) | (simp only [At, No]; omega) | (exact fun h => by have := hG _ h; omega) | (exact fun h => by have := hG2 _ h; omega))
                  replace hbi := hbi.upd hu8 (by first | exact (fun h => h) | (simp only [At, No]; omega) | (exact fun h => by have := hG _ h; omega) | (exact fun h => by have := hG2 _ h; omega))
                  have hS11 := Upd.refl No w8
                  first | refine WN.calm _ rfl rfl rfl rfl rfl (fun _ => r_field0 rfl (ev_t rfl) fld_75_0) ?_ | refine WN.calm _ rfl rfl rfl rfl rfl (fun _ => r_fieldAt rfl (ev_t rfl) fld_75_0) ?_
                  first | refine WN.calm _ rfl rfl rfl rfl rfl (fun _ => r_field0 rfl (ev_t rfl) fld_75_1) ?_ | refine WN.calm _ rfl rfl rfl rfl rfl (fun _ => r_fieldAt rfl (ev_t rfl) fld_75_1) ?_
                  first | refine WN.calm _ rfl rfl rfl rfl rfl (fun _ => r_field0 rfl (ev_t rfl) fld_75_2) ?_ | refine WN.calm _ rfl rfl rfl rfl rfl (fun _ => r_fieldAt rfl (ev_t rfl) fld_75_2) ?_
                  refine WN.held _ rfl rfl rfl rfl rfl hS11 (fun w' hS => r_load rfl (ev_t rfl) flat_3 (Blk.cell (hbc.upd hS (fun h => h)) rfl)) ?_
                  first | refine WN.calm _ rfl rfl rfl rfl rfl (fun _ => r_addN rfl (ev_t rfl) ev_c (by simp only [inK]; omega)) ?_ | refine WN.calm _ rfl rfl rfl rfl rfl (fun _ => r_add rfl (ev_t rfl) ev_c) ?_
                  refine WN.held _ rfl rfl rfl rfl rfl hS11 (fun w' hS => r_load rfl (ev_t rfl) flat_3 (Blk.cell (hbc.upd hS (fun h => h)) rfl)) ?_
                  refine WN.held _ rfl rfl rfl rfl rfl hS11 (fun w' hS => r_loadAgg (vs := [_, _, _, _]) rfl (ev_t rfl) agg_55 size_55 (Blk.cellsL (hbi.upd hS (fun h => h)))) ?_
                  refine WN.held _ rfl rfl rfl rfl rfl hS11 (fun w' hS => r_loadAgg (vs := [_, _, _, _]) rfl (ev_t rfl) agg_55 size_55 (Blk.cellsL (hbi.upd hS (fun h => h)))) ?_
                  refine WN.held _ rfl rfl rfl rfl rfl hS11 (fun w' hS => r_load rfl (ev_t rfl) flat_3 (Blk.cell (hbc.upd hS (fun h => h)) rfl)) ?_
                  refine WN.fork _ _ rfl rfl ?_ ?_
                  · refine SO.call (takes_ok (i := i) hio) rfl body_39 ⟨(ev_t rfl), trivial⟩ rfl rfl rfl rfl ?_
                    rw [htk]
                    rintro v w9 ⟨rfl, hu9⟩
                    have hs9 := hu9.size
                    replace hS11 := Upd.transA hS11 hu9
                    replace hU := hU.trans hu9 (by first | exact (fun _ _ h => h) | exact (fun _ _ h => h.elim) | (intro k hl hk; (try simp only [At, New, Grow, From, No] at hk ⊢); omega) | (intro k hl hk; first | (simp only [At, No] at hk; omega) | (have := hG2 k hk; omega) | (have := hG k hk; omega)))
                    replace hF3 := hF3.upd hu9 (by first | exact (fun h => h) | (simp only [At, No]; omega) | (exact fun h => by have := hG _ h; omega) | (exact fun h => by have := hG2 _ h; omega))
                    replace hO := hO.upd hu9 (by first | exact (fun _ _ _ h => h) | (intro k hk hl hS; have := hG k hk; first | (simp only [At, No] at hS; omega) | (have := hG2 k hS; omega)))
                    replace hbc := hbc.upd hu9 (by first | exact (fun h => h) | (simp only [At, No]; omega) | (exact fun h => by have := hG _ h; omega) | (exact fun h => by have := hG2 _ h; omega))
                    replace hbi := hbi.upd hu9 (by first | exact (fun h => h) | (simp only [At, No]; omega) | (exact fun h => by have := hG _ h; omega) | (exact fun h => by have := hG2 _ h; omega))
                    refine ⟨hS11, ?_⟩
                    first | refine WN.calm _ rfl rfl rfl rfl rfl (fun _ => r_subN rfl (ev_t rfl) (ev_t rfl) (by simp only [inK]; omega)) ?_ | refine WN.calm _ rfl rfl rfl rfl rfl (fun _ => r_sub rfl (ev_t rfl) (ev_t rfl)) ?_
                    refine WN.fork _ _ rfl rfl ?_ ?_
                    · refine SO.call (leaves_ok (i := i) hio) rfl body_40 ⟨(ev_t rfl), trivial⟩ rfl rfl rfl rfl ?_
                      rw [hlv]
                      rintro v w10 ⟨rfl, hu10⟩
                      have hs10 := hu10.size
                      replace hS11 := Upd.transA hS11 hu10
                      replace hU := hU.trans hu10 (by first | exact (fun _ _ h => h) | exact (fun _ _ h => h.elim) | (intro k hl hk; (try simp only [At, New, Grow, From, No] at hk ⊢); omega) | (intro k hl hk; first | (simp only [At, No] at hk; omega) | (have := hG2 k hk; omega) | (have := hG k hk; omega)))
                      replace hF3 := hF3.upd hu10 (by first | exact (fun h => h) | (simp only [At, No]; omega) | (exact fun h => by have := hG _ h; omega) | (exact fun h => by have := hG2 _ h; omega))
                      replace hO := hO.upd hu10 (by first | exact (fun _ _ _ h => h) | (intro k hk hl hS; have := hG k hk; first | (simp only [At, No] at hS; omega) | (have := hG2 k hS; omega)))
                      replace hbc := hbc.upd hu10 (by first | exact (fun h => h) | (simp only [At, No]; omega) | (exact fun h => by have := hG _ h; omega) | (exact fun h => by have := hG2 _ h; omega))
                      replace hbi := hbi.upd hu10 (by first | exact (fun h => h) | (simp only [At, No]; omega) | (exact fun h => by have := hG _ h; omega) | (exact fun h => by have := hG2 _ h; omega))
                      refine ⟨hS11, ?_⟩
                      first | refine WN.calm _ rfl rfl rfl rfl rfl (fun _ => r_addN rfl (ev_t rfl) (ev_t rfl) (by simp only [inK]; omega)) ?_ | refine WN.calm _ rfl rfl rfl rfl rfl (fun _ => r_add rfl (ev_t rfl) (ev_t rfl)) ?_
                      refine WN.calm _ rfl rfl rfl rfl rfl (fun _ => r_build (cs := #[_, _, _]) (vs := [(0, _), (1, _), (2, _)]) rfl ⟨⟨rfl, (ev_t rfl)⟩, ⟨rfl, (ev_t rfl)⟩, ⟨rfl, (ev_t rfl)⟩, trivial⟩ plc_75 zero_75 rfl) ?_
                      refine WN.step _ rfl (SO.alloc rfl rfl rfl rfl (r_alloc rfl zero_75) ?_)
                      intro w11 hu11 hB11 hz11
                      have hs11 := hu11.size
                      replace hS11 := Upd.transA hS11 hu11
                      replace hU := hU.trans hu11 (by first | exact (fun _ _ h => h) | exact (fun _ _ h => h.elim) | (intro k hl hk; (try simp only [At, New, Grow, From, No] at hk ⊢); omega) | (intro k hl hk; first | (simp only [At, No] at hk; omega) | (have := hG2 k hk; omega) | (have := hG k hk; omega)))
                      replace hF3 := hF3.upd hu11 (by first | exact (fun h => h) | (simp only [At, No]; omega) | (exact fun h => by have := hG _ h; omega) | (exact fun h => by have := hG2 _ h; omega))
                      replace hO := hO.upd hu11 (by first | exact (fun _ _ _ h => h) | (intro k hk hl hS; have := hG k hk; first | (simp only [At, No] at hS; omega) | (have := hG2 k hS; omega)))
                      replace hbc := hbc.upd hu11 (by first | exact (fun h => h) | (simp only [At, No]; omega) | (exact fun h => by have := hG _ h; omega) | (exact fun h => by have := hG2 _ h; omega))
                      replace hbi := hbi.upd hu11 (by first | exact (fun h => h) | (simp only [At, No]; omega) | (exact fun h => by have := hG _ h; omega) | (exact fun h => by have := hG2 _ h; omega))
                      refine ⟨hS11, ?_⟩
                      refine WN.step _ rfl (SO.storeAll (us := [_, _, _]) rfl (ev_t rfl) (ev_t rfl) size_75 hB11 rfl rfl rfl rfl rfl ?_)
                      intro w12 hu12 hB11 hz12
                      have hs12 := hu12.size
                      try replace hS11 := Upd.transA hS11 hu12
                      replace hU := hU.trans hu12 (by first | exact (fun _ _ h => h) | exact (fun _ _ h => h.elim) | (intro k hl hk; (try simp only [At, New, Grow, From, No] at hk ⊢); omega) | (intro k hl hk; first | (simp only [At, No] at hk; omega) | (have := hG2 k hk; omega) | (have := hG k hk; omega)))
                      replace hF3 := hF3.upd hu12 (by first | exact (fun h => h) | (simp only [At, No]; omega) | (exact fun h => by have := hG _ h; omega) | (exact fun h => by have := hG2 _ h; omega))
                      replace hO := hO.upd hu12 (by first | exact (fun _ _ _ h => h) | (intro k hk hl hS; have := hG k hk; first | (simp only [At, No] at hS; omega) | (have := hG2 k hS; omega)))
                      replace hbc := hbc.upd hu12 (by first | exact (fun h => h) | (simp only [At, No]; omega) | (exact fun h => by have := hG _ h; omega) | (exact fun h => by have := hG2 _ h; omega))
                      replace hbi := hbi.upd hu12 (by first | exact (fun h => h) | (simp only [At, No]; omega) | (exact fun h => by have := hG _ h; omega) | (exact fun h => by have := hG2 _ h; omega))
                      refine ⟨trivial, ?_⟩
                      refine WN.done ?_
                      refine WX.keep [(1, _), (2, _), (3, _), (7, _), (8, _), (9, _), (10, _), (11, _)] ⟨rfl, rfl, rfl, rfl, rfl, rfl, rfl, rfl, trivial⟩ ?_
                      refine WX.meet [(1, _), (2, _), (3, _), (7, _), (8, _), (9, _), (10, _), (11, _)] ⟨rfl, rfl, rfl, rfl, rfl, rfl, rfl, rfl, trivial⟩ ?_
                      have hbn : Blk w12 _ #[I64 ((a : Int) + 1), I64 (d0 - tk + lv), I64 t0] 75 := hB11
                      exact ⟨_, by omega, hbn.lt, hU, hF3, hO, hbc, hbi, hbn, rfl⟩
                    · refine SO.alloc rfl rfl rfl rfl (r_alloc rfl zero_75) ?_
                      intro w13 hu13 hB13 hz13
                      have hs13 := hu13.size
                      replace hS11 := Upd.transA hS11 hu13
                      replace hU := hU.trans hu13 (by first | exact (fun _ _ h => h) | exact (fun _ _ h => h.elim) | (intro k hl hk; (try simp only [At, New, Grow, From, No] at hk ⊢); omega) | (intro k hl hk; first | (simp only [At, No] at hk; omega) | (have := hG2 k hk; omega) | (have := hG k hk; omega)))
                      replace hF3 := hF3.upd hu13 (by first | exact (fun h => h) | (simp only [At, No]; omega) | (exact fun h => by have := hG _ h; omega) | (exact fun h => by have := hG2 _ h; omega))
                      replace hO := hO.upd hu13 (by first | exact (fun _ _ _ h => h) | (intro k hk hl hS; have := hG k hk; first | (simp only [At, No] at hS; omega) | (have := hG2 k hS; omega)))
                      replace hbc := hbc.upd hu13 (by first | exact (fun h => h) | (simp only [At, No]; omega) | (exact fun h => by have := hG _ h; omega) | (exact fun h => by have := hG2 _ h; omega))
                      replace hbi := hbi.upd hu13 (by first | exact (fun h => h) | (simp only [At, No]; omega) | (exact fun h => by have := hG _ h; omega) | (exact fun h => by have := hG2 _ h; omega))
                      refine ⟨hS11, ?_⟩
                      refine WN.step _ rfl (SO.call (leaves_ok (i := i) hio) rfl body_40 ⟨(ev_t rfl), trivial⟩ rfl rfl rfl rfl ?_)
                      rw [hlv]
                      rintro v w14 ⟨rfl, hu14⟩
                      have hs14 := hu14.size
                      replace hS11 := Upd.transA hS11 hu14
                      replace hU := hU.trans hu14 (by first | exact (fun _ _ h => h) | exact (fun _ _ h => h.elim) | (intro k hl hk; (try simp only [At, New, Grow, From, No] at hk ⊢); omega) | (intro k hl hk; first | (simp only [At, No] at hk; omega) | (have := hG2 k hk; omega) | (have := hG k hk; omega)))
                      replace hF3 := hF3.upd hu14 (by first | exact (fun h => h) | (simp only [At, No]; omega) | (exact fun h => by have := hG _ h; omega) | (exact fun h => by have := hG2 _ h; omega))
                      replace hO := hO.upd hu14 (by first | exact (fun _ _ _ h => h) | (intro k hk hl hS; have := hG k hk; first | (simp only [At, No] at hS; omega) | (have := hG2 k hS; omega)))
                      replace hbc := hbc.upd hu14 (by first | exact (fun h => h) | (simp only [At, No]; omega) | (exact fun h => by have := hG _ h; omega) | (exact fun h => by have := hG2 _ h; omega))
                      replace hbi := hbi.upd hu14 (by first | exact (fun h => h) | (simp only [At, No]; omega) | (exact fun h => by have := hG _ h; omega) | (exact fun h => by have := hG2 _ h; omega))
                      replace hB13 := hB13.updA hu14
                      refine ⟨hS11, ?_⟩
                      first | refine WN.calm _ rfl rfl rfl rfl rfl (fun _ => r_addN rfl (ev_t rfl) (ev_t rfl) (by simp only [inK]; omega)) ?_ | refine WN.calm _ rfl rfl rfl rfl rfl (fun _ => r_add rfl (ev_t rfl) (ev_t rfl)) ?_
                      refine WN.calm _ rfl rfl rfl rfl rfl (fun _ => r_build (cs := #[_, _, _]) (vs := [(0, _), (1, _), (2, _)]) rfl ⟨⟨rfl, (ev_t rfl)⟩, ⟨rfl, (ev_t rfl)⟩, ⟨rfl, (ev_t rfl)⟩, trivial⟩ plc_75 zero_75 rfl) ?_
                      refine WN.step _ rfl (SO.storeAll (us := [_, _, _]) rfl (ev_t rfl) (ev_t rfl) size_75 hB13 rfl rfl rfl rfl rfl ?_)
                      intro w15 hu15 hB13 hz15
                      have hs15 := hu15.size
                      try replace hS11 := Upd.transA hS11 hu15
                      replace hU := hU.trans hu15 (by first | exact (fun _ _ h => h) | exact (fun _ _ h => h.elim) | (intro k hl hk; (try simp only [At, New, Grow, From, No] at hk ⊢); omega) | (intro k hl hk; first | (simp only [At, No] at hk; omega) | (have := hG2 k hk; omega) | (have := hG k hk; omega)))
                      replace hF3 := hF3.upd hu15 (by first | exact (fun h => h) | (simp only [At, No]; omega) | (exact fun h => by have := hG _ h; omega) | (exact fun h => by have := hG2 _ h; omega))
                      replace hO := hO.upd hu15 (by first | exact (fun _ _ _ h => h) | (intro k hk hl hS; have := hG k hk; first | (simp only [At, No] at hS; omega) | (have := hG2 k hS; omega)))
                      replace hbc := hbc.upd hu15 (by first | exact (fun h => h) | (simp only [At, No]; omega) | (exact fun h => by have := hG _ h; omega) | (exact fun h => by have := hG2 _ h; omega))
                      replace hbi := hbi.upd hu15 (by first | exact (fun h => h) | (simp only [At, No]; omega) | (exact fun h => by have := hG _ h; omega) | (exact fun h => by have := hG2 _ h; omega))
                      refine ⟨trivial, ?_⟩
                      refine WN.done ?_
                      refine WX.keep [(1, _), (2, _), (3, _), (7, _), (8, _), (9, _), (10, _), (11, _)] ⟨rfl, rfl, rfl, rfl, rfl, rfl, rfl, rfl, trivial⟩ ?_
                      refine WX.meet [(1, _), (2, _), (3, _), (7, _), (8, _), (9, _), (10, _), (11, _)] ⟨rfl, rfl, rfl, rfl, rfl, rfl, rfl, rfl, trivial⟩ ?_
                      have hbn : Blk w15 _ #[I64 ((a : Int) + 1), I64 (d0 - tk + lv), I64 t0] 75 := hB13
                      exact ⟨_, by omega, hbn.lt, hU, hF3, hO, hbc, hbi, hbn, rfl⟩
                  · refine SO.alloc rfl rfl rfl rfl (r_alloc rfl zero_75) ?_
                    intro w16 hu16 hB16 hz16
                    have hs16 := hu16.size
                    replace hS11 := Upd.transA hS11 hu16
                    replace hU := hU.trans hu16 (by first | exact (fun _ _ h => h) | exact (fun _ _ h => h.elim) | (intro k hl hk; (try simp only [At, New, Grow, From, No] at hk ⊢); omega) | (intro k hl hk; first | (simp only [At, No] at hk; omega) | (have := hG2 k hk; omega) | (have := hG k hk; omega)))
                    replace hF3 := hF3.upd hu16 (by first | exact (fun h => h) | (simp only [At, No]; omega) | (exact fun h => by have := hG _ h; omega) | (exact fun h => by have := hG2 _ h; omega))
                    replace hO := hO.upd hu16 (by first | exact (fun _ _ _ h => h) | (intro k hk hl hS; have := hG k hk; first | (simp only [At, No] at hS; omega) | (have := hG2 k hS; omega)))
                    replace hbc := hbc.upd hu16 (by first | exact (fun h => h) | (simp only [At, No]; omega) | (exact fun h => by have := hG _ h; omega) | (exact fun h => by have := hG2 _ h; omega))
                    replace hbi := hbi.upd hu16 (by first | exact (fun h => h) | (simp only [At, No]; omega) | (exact fun h => by have := hG _ h; omega) | (exact fun h => by have := hG2 _ h; omega))
                    refine ⟨hS11, ?_⟩
                    refine WN.step _ rfl (SO.call (takes_ok (i := i) hio) rfl body_39 ⟨(ev_t rfl), trivial⟩ rfl rfl rfl rfl ?_)
                    rw [htk]
                    rintro v w17 ⟨rfl, hu17⟩
                    have hs17 := hu17.size
                    replace hS11 := Upd.transA hS11 hu17
                    replace hU := hU.trans hu17 (by first | exact (fun _ _ h => h) | exact (fun _ _ h => h.elim) | (intro k hl hk; (try simp only [At, New, Grow, From, No] at hk ⊢); omega) | (intro k hl hk; first | (simp only [At, No] at hk; omega) | (have := hG2 k hk; omega) | (have := hG k hk; omega)))
                    replace hF3 := hF3.upd hu17 (by first | exact (fun h => h) | (simp only [At, No]; omega) | (exact fun h => by have := hG _ h; omega) | (exact fun h => by have := hG2 _ h; omega))
                    replace hO := hO.upd hu17 (by first | exact (fun _ _ _ h => h) | (intro k hk hl hS; have := hG k hk; first | (simp only [At, No] at hS; omega) | (have := hG2 k hS; omega)))
                    replace hbc := hbc.upd hu17 (by first | exact (fun h => h) | (simp only [At, No]; omega) | (exact fun h => by have := hG _ h; omega) | (exact fun h => by have := hG2 _ h; omega))
                    replace hbi := hbi.upd hu17 (by first | exact (fun h => h) | (simp only [At, No]; omega) | (exact fun h => by have := hG _ h; omega) | (exact fun h => by have := hG2 _ h; omega))
                    replace hB16 := hB16.updA hu17
                    refine ⟨hS11, ?_⟩
                    first | refine WN.calm _ rfl rfl rfl rfl rfl (fun _ => r_subN rfl (ev_t rfl) (ev_t rfl) (by simp only [inK]; omega)) ?_ | refine WN.calm _ rfl rfl rfl rfl rfl (fun _ => r_sub rfl (ev_t rfl) (ev_t rfl)) ?_
                    refine WN.step _ rfl (SO.call (leaves_ok (i := i) hio) rfl body_40 ⟨(ev_t rfl), trivial⟩ rfl rfl rfl rfl ?_)
                    rw [hlv]
                    rintro v w18 ⟨rfl, hu18⟩
                    have hs18 := hu18.size
                    replace hS11 := Upd.transA hS11 hu18
                    replace hU := hU.trans hu18 (by first | exact (fun _ _ h => h) | exact (fun _ _ h => h.elim) | (intro k hl hk; (try simp only [At, New, Grow, From, No] at hk ⊢); omega) | (intro k hl hk; first | (simp only [At, No] at hk; omega) | (have := hG2 k hk; omega) | (have := hG k hk; omega)))
                    replace hF3 := hF3.upd hu18 (by first | exact (fun h => h) | (simp only [At, No]; omega) | (exact fun h => by have := hG _ h; omega) | (exact fun h => by have := hG2 _ h; omega))
                    replace hO := hO.upd hu18 (by first | exact (fun _ _ _ h => h) | (intro k hk hl hS; have := hG k hk; first | (simp only [At, No] at hS; omega) | (have := hG2 k hS; omega)))
                    replace hbc := hbc.upd hu18 (by first | exact (fun h => h) | (simp only [At, No]; omega) | (exact fun h => by have := hG _ h; omega) | (exact fun h => by have := hG2 _ h; omega))
                    replace hbi := hbi.upd hu18 (by first | exact (fun h => h) | (simp only [At, No]; omega) | (exact fun h => by have := hG _ h; omega) | (exact fun h => by have := hG2 _ h; omega))
                    replace hB16 := hB16.updA hu18
                    refine ⟨hS11, ?_⟩
                    first | refine WN.calm _ rfl rfl rfl rfl rfl (fun _ => r_addN rfl (ev_t rfl) (ev_t rfl) (by simp only [inK]; omega)) ?_ | refine WN.calm _ rfl rfl rfl rfl rfl (fun _ => r_add rfl (ev_t rfl) (ev_t rfl)) ?_
                    refine WN.calm _ rfl rfl rfl rfl rfl (fun _ => r_build (cs := #[_, _, _]) (vs := [(0, _), (1, _), (2, _)]) rfl ⟨⟨rfl, (ev_t rfl)⟩, ⟨rfl, (ev_t rfl)⟩, ⟨rfl, (ev_t rfl)⟩, trivial⟩ plc_75 zero_75 rfl) ?_
                    refine WN.step _ rfl (SO.storeAll (us := [_, _, _]) rfl (ev_t rfl) (ev_t rfl) size_75 hB16 rfl rfl rfl rfl rfl ?_)
                    intro w19 hu19 hB16 hz19
                    have hs19 := hu19.size
                    try replace hS11 := Upd.transA hS11 hu19
                    replace hU := hU.trans hu19 (by first | exact (fun _ _ h => h) | exact (fun _ _ h => h.elim) | (intro k hl hk; (try simp only [At, New, Grow, From, No] at hk ⊢); omega) | (intro k hl hk; first | (simp only [At, No] at hk; omega) | (have := hG2 k hk; omega) | (have := hG k hk; omega)))
                    replace hF3 := hF3.upd hu19 (by first | exact (fun h => h) | (simp only [At, No]; omega) | (exact fun h => by have := hG _ h; omega) | (exact fun h => by have := hG2 _ h; omega))
                    replace hO := hO.upd hu19 (by first | exact (fun _ _ _ h => h) | (intro k hk hl hS; have := hG k hk; first | (simp only [At, No] at hS; omega) | (have := hG2 k hS; omega)))
                    replace hbc := hbc.upd hu19 (by first | exact (fun h => h) | (simp only [At, No]; omega) | (exact fun h => by have := hG _ h; omega) | (exact fun h => by have := hG2 _ h; omega))
                    replace hbi := hbi.upd hu19 (by first | exact (fun h => h) | (simp only [At, No]; omega) | (exact fun h => by have := hG _ h; omega) | (exact fun h => by have := hG2 _ h; omega))
                    refine ⟨trivial, ?_⟩
                    refine WN.done ?_
                    refine WX.keep [(1, _), (2, _), (3, _), (7, _), (8, _), (9, _), (10, _), (11, _)] ⟨rfl, rfl, rfl, rfl, rfl, rfl, rfl, rfl, trivial⟩ ?_
                    refine WX.meet [(1, _), (2, _), (3, _), (7, _), (8, _), (9, _), (10, _), (11, _)] ⟨rfl, rfl, rfl, rfl, rfl, rfl, rfl, rfl, trivial⟩ ?_
                    have hbn : Blk w19 _ #[I64 ((a : Int) + 1), I64 (d0 - tk + lv), I64 t0] 75 := hB16
                    exact ⟨_, by omega, hbn.lt, hU, hF3, hO, hbc, hbi, hbn, rfl⟩
                · clear hU hF3 hO hbc hbi hbcl hbil
                  rintro E wF ⟨bn, hbin, hbnl, hU, hF3, hO, hbc, hbi, hbn, rfl⟩
                  obtain ⟨d1, hd1⟩ : ∃ d1, d0 - tk + lv = d1 := ⟨_, rfl⟩
                  rw [hd1] at hbn
                  have hd1q : i.op ≠ 26 → d1 = d0 - nnI i + lvT i.op := fun h26 => by rw [← hd1, htq, ← hlv, lv_eq hop h26]
                  have hd2 : 1 ≤ d1 ∧ d1 ≤ (a : Int) + 2 := by omega
                  -- cut 12: live [1, 2, 3, 7, 8, 9, 10, 11]
                  refine WC.cut (fun E w9 => ∃ t9 : Int, (i.op = 24 → t9 = t0 + 1) ∧ (i.op ≠ 24 → t9 = t0) ∧ Upd No w w9 ∧ bn < w9.heap.size ∧ Blk w9 bF #[.int .i64 F.caps, .slice (some ⟨bo, oo, none⟩) n c] 54 ∧ Own w9 G 75 3 (.slice (some ⟨bl, ol, none⟩) l.length c1) l.length (l.flatMap triC) ∧ Blk w9 bc #[I64 (a : Int), I64 d0, I64 t0] 75 ∧ Blk w9 bi (insC i).toArray 55 ∧ Blk w9 bn #[I64 ((a : Int) + 1), I64 d1, I64 t9] 75 ∧   E = [(1, allv), (2, .int .i64 globs), (3, .pointer (some ⟨bF, 0, none⟩)), (7, .slice (some ⟨bl, ol, none⟩) l.length c1), (8, .int .i64 (k : Int)), (9, .pointer (some ⟨bc, 0, none⟩)), (10, .pointer (some ⟨bi, 0, none⟩)), (11, .pointer (some ⟨bn, 0, none⟩))]) ?_ ?_
                  · refine WC.seq ?_
                    refine WC.region ?_
                    first | refine WL.val rfl rfl rfl rfl (r_field0 rfl (ev_t rfl) fld_55_0) ?_ | refine WL.val rfl rfl rfl rfl (r_fieldAt rfl (ev_t rfl) fld_55_0) ?_
                    refine WL.val rfl rfl rfl rfl (r_load rfl (ev_t rfl) flat_5 (Blk.cell hbi rfl)) ?_
                    refine WL.val rfl rfl rfl rfl (r_eql rfl (ev_t rfl) ev_c) ?_
                    refine WL.nil ?_
                    refine WX.keep [(1, _), (2, _), (3, _), (7, _), (8, _), (9, _), (10, _), (11, _), (67, _)] ⟨rfl, rfl, rfl, rfl, rfl, rfl, rfl, rfl, rfl, trivial⟩ ?_
                    refine WX.next ?_
                    refine WC.cond rfl (ev_t rfl) (fun hc12 => ?_) (fun hc12 => ?_)
                    · try (exfalso; first | (simp at hc12; done) | (simp only [decide_eq_true_eq, decide_eq_false_iff_not, Bool.not_eq_true', Bool.not_eq_false', Bool.not_eq_true, Bool.not_eq_false] at hc12; omega) | omega)
                      all_goals
                       try simp only [decide_eq_true_eq, decide_eq_false_iff_not, Bool.not_eq_true', Bool.not_eq_false', Bool.not_eq_true, Bool.not_eq_false, Option.isNone_none, Option.isNone_some, Option.isSome_none, Option.isSome_some, ne_eq, Decidable.not_not] at hc12
                       refine WC.region ?_
                       first | refine WL.val rfl rfl rfl rfl (r_field0 rfl (ev_t rfl) fld_75_2) ?_ | refine WL.val rfl rfl rfl rfl (r_fieldAt rfl (ev_t rfl) fld_75_2) ?_
                       refine WL.val rfl rfl rfl rfl (r_load rfl (ev_t rfl) flat_3 (Blk.cell hbn rfl)) ?_
                       first | refine WL.val rfl rfl rfl rfl (r_addN rfl (ev_t rfl) ev_c (by simp only [inK]; omega)) ?_ | refine WL.val rfl rfl rfl rfl (r_add rfl (ev_t rfl) ev_c) ?_
                       first | refine WL.val rfl rfl rfl rfl (r_field0 rfl (ev_t rfl) fld_75_2) ?_ | refine WL.val rfl rfl rfl rfl (r_fieldAt rfl (ev_t rfl) fld_75_2) ?_
                       refine WL.cons (SO.store rfl (ev_t rfl) (ev_t rfl) size_3 hbn rfl rfl rfl rfl rfl ?_)
                       intro w20 hu20 hbn hz20
                       have hs20 := hu20.size
                       replace hU := hU.trans hu20 (by first | exact (fun _ _ h => h) | exact (fun _ _ h => h.elim) | (intro k hl hk; (try simp only [At, New, Grow, From, No] at hk ⊢); omega) | (intro k hl hk; first | (simp only [At, No] at hk; omega) | (have := hG2 k hk; omega) | (have := hG k hk; omega)))
                       replace hF3 := hF3.upd hu20 (by first | exact (fun h => h) | (simp only [At, No]; omega) | (exact fun h => by have := hG _ h; omega) | (exact fun h => by have := hG2 _ h; omega))
                       replace hO := hO.upd hu20 (by first | exact (fun _ _ _ h => h) | (intro k hk hl hS; have := hG k hk; first | (simp only [At, No] at hS; omega) | (have := hG2 k hS; omega)))
                       replace hbc := hbc.upd hu20 (by first | exact (fun h => h) | (simp only [At, No]; omega) | (exact fun h => by have := hG _ h; omega) | (exact fun h => by have := hG2 _ h; omega))
                       replace hbi := hbi.upd hu20 (by first | exact (fun h => h) | (simp only [At, No]; omega) | (exact fun h => by have := hG _ h; omega) | (exact fun h => by have := hG2 _ h; omega))
                       refine WL.nil ?_
                       refine WX.keep [(1, _), (2, _), (3, _), (7, _), (8, _), (9, _), (10, _), (11, _)] ⟨rfl, rfl, rfl, rfl, rfl, rfl, rfl, rfl, trivial⟩ ?_
                       refine WX.meet [(1, _), (2, _), (3, _), (7, _), (8, _), (9, _), (10, _), (11, _)] ⟨rfl, rfl, rfl, rfl, rfl, rfl, rfl, rfl, trivial⟩ ?_
                       first
                         | exact ⟨t0, by omega, by omega, hU, by omega, hF3, hO, hbc, hbi, hbn, rfl⟩
                         | exact ⟨t0 + 1, by omega, by omega, hU, by omega, hF3, hO, hbc, hbi, hbn, rfl⟩
                    · try (exfalso; first | (simp at hc12; done) | (simp only [decide_eq_true_eq, decide_eq_false_iff_not, Bool.not_eq_true', Bool.not_eq_false', Bool.not_eq_true, Bool.not_eq_false] at hc12; omega) | omega)
                      all_goals
                       try simp only [decide_eq_true_eq, decide_eq_false_iff_not, Bool.not_eq_true', Bool.not_eq_false', Bool.not_eq_true, Bool.not_eq_false, Option.isNone_none, Option.isNone_some, Option.isSome_none, Option.isSome_some, ne_eq, Decidable.not_not] at hc12
                       refine WC.skip ?_
                       refine WX.meet [(1, _), (2, _), (3, _), (7, _), (8, _), (9, _), (10, _), (11, _)] ⟨rfl, rfl, rfl, rfl, rfl, rfl, rfl, rfl, trivial⟩ ?_
                       first
                         | exact ⟨t0, by omega, by omega, hU, by omega, hF3, hO, hbc, hbi, hbn, rfl⟩
                         | exact ⟨t0 + 1, by omega, by omega, hU, by omega, hF3, hO, hbc, hbi, hbn, rfl⟩
                  · clear hU hF3 hO hbc hbi hbn hbnl
                    rintro E wE ⟨t9, ht24, htn24, hU, hbnl, hF3, hO, hbc, hbi, hbn, rfl⟩
                    -- cut 14: live [1, 2, 3, 7, 8, 9, 10, 11]
                    refine WC.cut (fun E w9 => ∃ t1 : Int, t1 = t0 + dtI i ∧ Upd No w w9 ∧ bn < w9.heap.size ∧ Blk w9 bF #[.int .i64 F.caps, .slice (some ⟨bo, oo, none⟩) n c] 54 ∧ Own w9 G 75 3 (.slice (some ⟨bl, ol, none⟩) l.length c1) l.length (l.flatMap triC) ∧ Blk w9 bc #[I64 (a : Int), I64 d0, I64 t0] 75 ∧ Blk w9 bi (insC i).toArray 55 ∧ Blk w9 bn #[I64 ((a : Int) + 1), I64 d1, I64 t1] 75 ∧   E = [(1, allv), (2, .int .i64 globs), (3, .pointer (some ⟨bF, 0, none⟩)), (7, .slice (some ⟨bl, ol, none⟩) l.length c1), (8, .int .i64 (k : Int)), (9, .pointer (some ⟨bc, 0, none⟩)), (10, .pointer (some ⟨bi, 0, none⟩)), (11, .pointer (some ⟨bn, 0, none⟩))]) ?_ ?_
                    · refine WC.seq ?_
                      refine WC.region ?_
                      first | refine WL.val rfl rfl rfl rfl (r_field0 rfl (ev_t rfl) fld_55_0) ?_ | refine WL.val rfl rfl rfl rfl (r_fieldAt rfl (ev_t rfl) fld_55_0) ?_
                      refine WL.val rfl rfl rfl rfl (r_load rfl (ev_t rfl) flat_5 (Blk.cell hbi rfl)) ?_
                      refine WL.val rfl rfl rfl rfl (r_eql rfl (ev_t rfl) ev_c) ?_
                      refine WL.nil ?_
                      refine WX.keep [(1, _), (2, _), (3, _), (7, _), (8, _), (9, _), (10, _), (11, _), (74, _)] ⟨rfl, rfl, rfl, rfl, rfl, rfl, rfl, rfl, rfl, trivial⟩ ?_
                      refine WX.next ?_
                      refine WC.cond rfl (ev_t rfl) (fun hc14 => ?_) (fun hc14 => ?_)
                      · try (exfalso; first | (simp at hc14; done) | (simp only [decide_eq_true_eq, decide_eq_false_iff_not, Bool.not_eq_true', Bool.not_eq_false', Bool.not_eq_true, Bool.not_eq_false] at hc14; omega) | omega)
                        all_goals
                         try simp only [decide_eq_true_eq, decide_eq_false_iff_not, Bool.not_eq_true', Bool.not_eq_false', Bool.not_eq_true, Bool.not_eq_false, Option.isNone_none, Option.isNone_some, Option.isSome_none, Option.isSome_some, ne_eq, Decidable.not_not] at hc14
                         refine WC.region ?_
                         first | refine WL.val rfl rfl rfl rfl (r_field0 rfl (ev_t rfl) fld_75_2) ?_ | refine WL.val rfl rfl rfl rfl (r_fieldAt rfl (ev_t rfl) fld_75_2) ?_
                         refine WL.val rfl rfl rfl rfl (r_load rfl (ev_t rfl) flat_3 (Blk.cell hbn rfl)) ?_
                         first | refine WL.val rfl rfl rfl rfl (r_subN rfl (ev_t rfl) ev_c (by simp only [inK]; omega)) ?_ | refine WL.val rfl rfl rfl rfl (r_sub rfl (ev_t rfl) ev_c) ?_
                         first | refine WL.val rfl rfl rfl rfl (r_field0 rfl (ev_t rfl) fld_75_2) ?_ | refine WL.val rfl rfl rfl rfl (r_fieldAt rfl (ev_t rfl) fld_75_2) ?_
                         refine WL.cons (SO.store rfl (ev_t rfl) (ev_t rfl) size_3 hbn rfl rfl rfl rfl rfl ?_)
                         intro w21 hu21 hbn hz21
                         have hs21 := hu21.size
                         replace hU := hU.trans hu21 (by first | exact (fun _ _ h => h) | exact (fun _ _ h => h.elim) | (intro k hl hk; (try simp only [At, New, Grow, From, No] at hk ⊢); omega) | (intro k hl hk; first | (simp only [At, No] at hk; omega) | (have := hG2 k hk; omega) | (have := hG k hk; omega)))
                         replace hF3 := hF3.upd hu21 (by first | exact (fun h => h) | (simp only [At, No]; omega) | (exact fun h => by have := hG _ h; omega) | (exact fun h => by have := hG2 _ h; omega))
                         replace hO := hO.upd hu21 (by first | exact (fun _ _ _ h => h) | (intro k hk hl hS; have := hG k hk; first | (simp only [At, No] at hS; omega) | (have := hG2 k hS; omega)))
                         replace hbc := hbc.upd hu21 (by first | exact (fun h => h) | (simp only [At, No]; omega) | (exact fun h => by have := hG _ h; omega) | (exact fun h => by have := hG2 _ h; omega))
                         replace hbi := hbi.upd hu21 (by first | exact (fun h => h) | (simp only [At, No]; omega) | (exact fun h => by have := hG _ h; omega) | (exact fun h => by have := hG2 _ h; omega))
                         refine WL.nil ?_
                         refine WX.keep [(1, _), (2, _), (3, _), (7, _), (8, _), (9, _), (10, _), (11, _)] ⟨rfl, rfl, rfl, rfl, rfl, rfl, rfl, rfl, trivial⟩ ?_
                         refine WX.meet [(1, _), (2, _), (3, _), (7, _), (8, _), (9, _), (10, _), (11, _)] ⟨rfl, rfl, rfl, rfl, rfl, rfl, rfl, rfl, trivial⟩ ?_
                         first
                           | exact ⟨t9, by unfold dtI; (repeat' split) <;> omega, hU, by omega, hF3, hO, hbc, hbi, hbn, rfl⟩
                           | exact ⟨t9 - 1, by unfold dtI; (repeat' split) <;> omega, hU, by omega, hF3, hO, hbc, hbi, hbn, rfl⟩
                      · try (exfalso; first | (simp at hc14; done) | (simp only [decide_eq_true_eq, decide_eq_false_iff_not, Bool.not_eq_true', Bool.not_eq_false', Bool.not_eq_true, Bool.not_eq_false] at hc14; omega) | omega)
                        all_goals
                         try simp only [decide_eq_true_eq, decide_eq_false_iff_not, Bool.not_eq_true', Bool.not_eq_false', Bool.not_eq_true, Bool.not_eq_false, Option.isNone_none, Option.isNone_some, Option.isSome_none, Option.isSome_some, ne_eq, Decidable.not_not] at hc14
                         refine WC.skip ?_
                         refine WX.meet [(1, _), (2, _), (3, _), (7, _), (8, _), (9, _), (10, _), (11, _)] ⟨rfl, rfl, rfl, rfl, rfl, rfl, rfl, rfl, trivial⟩ ?_
                         first
                           | exact ⟨t9, by unfold dtI; (repeat' split) <;> omega, hU, by omega, hF3, hO, hbc, hbi, hbn, rfl⟩
                           | exact ⟨t9 - 1, by unfold dtI; (repeat' split) <;> omega, hU, by omega, hF3, hO, hbc, hbi, hbn, rfl⟩
                    · clear hU hF3 hO hbc hbi hbn hbnl
                      rintro E wG ⟨t1, ht1, hU, hbnl, hF3, hO, hbc, hbi, hbn, rfl⟩
                      have hsucc := succ_eq (a := a) hd1q ht1
                      rw [← ht1] at ht8 ht9
                      refine WC.seq ?_
                      refine WC.region ?_
                      refine WL.val rfl rfl rfl rfl (r_assign rfl ev_c) ?_
                      refine WL.nil ?_
                      refine WX.keep [(1, _), (2, _), (3, _), (7, _), (8, _), (9, _), (10, _), (11, _), (12, _)] ⟨rfl, rfl, rfl, rfl, rfl, rfl, rfl, rfl, rfl, trivial⟩ ?_
                      refine WX.next ?_
                      -- cut 17: live [1, 2, 3, 7, 8, 9, 10, 11, 12]
                      refine WC.cut (fun E w9 => ∃ (T1 : List (Int × Int × Int)) (A2 : Option Addr) (c2 : Nat) (G2 : Nat → Prop), T1 = (if nextB i = true then [((a : Int) + 1, d1, t1)] else []) ∧ Upd No w w9 ∧ bn < w9.heap.size ∧ Blk w9 bF #[.int .i64 F.caps, .slice (some ⟨bo, oo, none⟩) n c] 54 ∧ Own w9 G 75 3 (.slice (some ⟨bl, ol, none⟩) l.length c1) l.length (l.flatMap triC) ∧ Blk w9 bc #[I64 (a : Int), I64 d0, I64 t0] 75 ∧ Blk w9 bi (insC i).toArray 55 ∧ Blk w9 bn #[I64 ((a : Int) + 1), I64 d1, I64 t1] 75 ∧ Own w9 G2 75 3 (.slice A2 T1.length c2) T1.length (T1.flatMap triC) ∧ (∀ k, G2 k → bn < k ∧ k < w9.heap.size) ∧   E = [(1, allv), (2, .int .i64 globs), (3, .pointer (some ⟨bF, 0, none⟩)), (7, .slice (some ⟨bl, ol, none⟩) l.length c1), (8, .int .i64 (k : Int)), (9, .pointer (some ⟨bc, 0, none⟩)), (10, .pointer (some ⟨bi, 0, none⟩)), (11, .pointer (some ⟨bn, 0, none⟩)), (12, .slice A2 T1.length c2)]) ?_ ?_
                      · -- cut r17: live [1, 2, 3, 7, 8, 9, 10, 11, 12, 91]
                        refine WC.cut (fun E w9 => ∃ b : Bool, wG = w9 ∧ (b = true ↔ (i.op ≠ 8 ∧ i.op ≠ 12 ∧ i.op ≠ 26)) ∧ E = [(1, allv), (2, .int .i64 globs), (3, .pointer (some ⟨bF, 0, none⟩)), (7, .slice (some ⟨bl, ol, none⟩) l.length c1), (8, .int .i64 (k : Int)), (9, .pointer (some ⟨bc, 0, none⟩)), (10, .pointer (some ⟨bi, 0, none⟩)), (11, .pointer (some ⟨bn, 0, none⟩)), (12, .slice none 0 0), (91, .bool b)]) ?_ ?_
                        · refine WC.region ?_
                          first | refine WL.val rfl rfl rfl rfl (r_field0 rfl (ev_t rfl) fld_55_0) ?_ | refine WL.val rfl rfl rfl rfl (r_fieldAt rfl (ev_t rfl) fld_55_0) ?_
                          refine WL.val rfl rfl rfl rfl (r_load rfl (ev_t rfl) flat_5 (Blk.cell hbi rfl)) ?_
                          refine WL.val rfl rfl rfl rfl (r_neq rfl (ev_t rfl) ev_c) ?_
                          refine WL.val rfl rfl rfl rfl (r_move rfl (ev_t rfl)) ?_
                          refine WL.cases 82 rfl (fun hb17_3 => ?_) (fun hb17_3 => ?_)
                          · try (exfalso; first | (simp at hb17_3; done) | (simp only [decide_eq_true_eq, decide_eq_false_iff_not, Bool.not_eq_true', Bool.not_eq_false', Bool.not_eq_true, Bool.not_eq_false] at hb17_3; omega) | omega)
                            all_goals
                             try simp only [decide_eq_true_eq, decide_eq_false_iff_not, Bool.not_eq_true', Bool.not_eq_false', Bool.not_eq_true, Bool.not_eq_false, Option.isNone_none, Option.isNone_some, Option.isSome_none, Option.isSome_some, ne_eq, Decidable.not_not] at hb17_3
                             first | refine WL.val rfl rfl rfl rfl (r_field0 rfl (ev_t rfl) fld_55_0) ?_ | refine WL.val rfl rfl rfl rfl (r_fieldAt rfl (ev_t rfl) fld_55_0) ?_
                             refine WL.val rfl rfl rfl rfl (r_load rfl (ev_t rfl) flat_5 (Blk.cell hbi rfl)) ?_
                             refine WL.val rfl rfl rfl rfl (r_neq rfl (ev_t rfl) ev_c) ?_
                             refine WL.val rfl rfl rfl rfl (r_pickT rfl (ev_t rfl) (ev_t rfl)) ?_
                             refine WL.val rfl rfl rfl rfl (r_move rfl (ev_t rfl)) ?_
                             refine WL.cases 87 rfl (fun hb17_8 => ?_) (fun hb17_8 => ?_)
                             · try (exfalso; first | (simp at hb17_8; done) | (simp only [decide_eq_true_eq, decide_eq_false_iff_not, Bool.not_eq_true', Bool.not_eq_false', Bool.not_eq_true, Bool.not_eq_false] at hb17_8; omega) | omega)
                               all_goals
                                try simp only [decide_eq_true_eq, decide_eq_false_iff_not, Bool.not_eq_true', Bool.not_eq_false', Bool.not_eq_true, Bool.not_eq_false, Option.isNone_none, Option.isNone_some, Option.isSome_none, Option.isSome_some, ne_eq, Decidable.not_not] at hb17_8
                                first | refine WL.val rfl rfl rfl rfl (r_field0 rfl (ev_t rfl) fld_55_0) ?_ | refine WL.val rfl rfl rfl rfl (r_fieldAt rfl (ev_t rfl) fld_55_0) ?_
                                refine WL.val rfl rfl rfl rfl (r_load rfl (ev_t rfl) flat_5 (Blk.cell hbi rfl)) ?_
                                refine WL.val rfl rfl rfl rfl (r_neq rfl (ev_t rfl) ev_c) ?_
                                refine WL.val rfl rfl rfl rfl (r_pickT rfl (ev_t rfl) (ev_t rfl)) ?_
                                refine WL.nil ?_
                                refine WX.keep [(1, _), (2, _), (3, _), (7, _), (8, _), (9, _), (10, _), (11, _), (12, _), (91, _)] ⟨rfl, rfl, rfl, rfl, rfl, rfl, rfl, rfl, rfl, rfl, trivial⟩ ?_
                                refine WX.meet [(1, _), (2, _), (3, _), (7, _), (8, _), (9, _), (10, _), (11, _), (12, _), (91, _)] ⟨rfl, rfl, rfl, rfl, rfl, rfl, rfl, rfl, rfl, rfl, trivial⟩ ?_
                                refine ⟨_, rfl, ?_, rfl⟩
                                first
                                  | (rw [decide_eq_true_eq]; omega)
                                  | (constructor <;> intro h <;> first | rfl | omega | (cases h; done) | (exfalso; omega))
                             · try (exfalso; first | (simp at hb17_8; done) | (simp only [decide_eq_true_eq, decide_eq_false_iff_not, Bool.not_eq_true', Bool.not_eq_false', Bool.not_eq_true, Bool.not_eq_false] at hb17_8; omega) | omega)
                               all_goals
                                try simp only [decide_eq_true_eq, decide_eq_false_iff_not, Bool.not_eq_true', Bool.not_eq_false', Bool.not_eq_true, Bool.not_eq_false, Option.isNone_none, Option.isNone_some, Option.isSome_none, Option.isSome_some, ne_eq, Decidable.not_not] at hb17_8
                                refine WL.skip rfl rfl rfl ?_
                                refine WL.skip rfl rfl rfl ?_
                                refine WL.skip rfl rfl rfl ?_
                                refine WL.val rfl rfl rfl rfl (r_pickF rfl (ev_t rfl) ev_c) ?_
                                refine WL.nil ?_
                                refine WX.keep [(1, _), (2, _), (3, _), (7, _), (8, _), (9, _), (10, _), (11, _), (12, _), (91, _)] ⟨rfl, rfl, rfl, rfl, rfl, rfl, rfl, rfl, rfl, rfl, trivial⟩ ?_
                                refine WX.meet [(1, _), (2, _), (3, _), (7, _), (8, _), (9, _), (10, _), (11, _), (12, _), (91, _)] ⟨rfl, rfl, rfl, rfl, rfl, rfl, rfl, rfl, rfl, rfl, trivial⟩ ?_
                                refine ⟨_, rfl, ?_, rfl⟩
                                first
                                  | (rw [decide_eq_true_eq]; omega)
                                  | (constructor <;> intro h <;> first | rfl | omega | (cases h; done) | (exfalso; omega))
                          · try (exfalso; first | (simp at hb17_3; done) | (simp only [decide_eq_true_eq, decide_eq_false_iff_not, Bool.not_eq_true', Bool.not_eq_false', Bool.not_eq_true, Bool.not_eq_false] at hb17_3; omega) | omega)
                            all_goals
                             try simp only [decide_eq_true_eq, decide_eq_false_iff_not, Bool.not_eq_true', Bool.not_eq_false', Bool.not_eq_true, Bool.not_eq_false, Option.isNone_none, Option.isNone_some, Option.isSome_none, Option.isSome_some, ne_eq, Decidable.not_not] at hb17_3
                             refine WL.skip rfl rfl rfl ?_
                             refine WL.skip rfl rfl rfl ?_
                             refine WL.skip rfl rfl rfl ?_
                             refine WL.val rfl rfl rfl rfl (r_pickF rfl (ev_t rfl) ev_c) ?_
                             refine WL.val rfl rfl rfl rfl (r_move rfl (ev_t rfl)) ?_
                             refine WL.skip rfl rfl rfl ?_
                             refine WL.skip rfl rfl rfl ?_
                             refine WL.skip rfl rfl rfl ?_
                             refine WL.val rfl rfl rfl rfl (r_pickF rfl (ev_t rfl) ev_c) ?_
                             refine WL.nil ?_
                             refine WX.keep [(1, _), (2, _), (3, _), (7, _), (8, _), (9, _), (10, _), (11, _), (12, _), (91, _)] ⟨rfl, rfl, rfl, rfl, rfl, rfl, rfl, rfl, rfl, rfl, trivial⟩ ?_
                             refine WX.meet [(1, _), (2, _), (3, _), (7, _), (8, _), (9, _), (10, _), (11, _), (12, _), (91, _)] ⟨rfl, rfl, rfl, rfl, rfl, rfl, rfl, rfl, rfl, rfl, trivial⟩ ?_
                             refine ⟨_, rfl, ?_, rfl⟩
                             first
                               | (rw [decide_eq_true_eq]; omega)
                               | (constructor <;> intro h <;> first | rfl | omega | (cases h; done) | (exfalso; omega))
                        · rintro E w9 ⟨b, rfl, hb17, rfl⟩
                          refine WC.cond rfl (ev_t rfl) (fun hc17 => ?_) (fun hc17 => ?_)
                          · try (exfalso; first | (simp at hc17; done) | (simp only [decide_eq_true_eq, decide_eq_false_iff_not, Bool.not_eq_true', Bool.not_eq_false', Bool.not_eq_true, Bool.not_eq_false] at hc17; omega) | omega)
                            all_goals
                             try simp only [decide_eq_true_eq, decide_eq_false_iff_not, Bool.not_eq_true', Bool.not_eq_false', Bool.not_eq_true, Bool.not_eq_false, Option.isNone_none, Option.isNone_some, Option.isSome_none, Option.isSome_some, ne_eq, Decidable.not_not] at hc17
                             have hnb : nextB i = true := nextB_pos (by have := hb17.1 hc17; omega) (by have := hb17.1 hc17; omega) (by have := hb17.1 hc17; omega)
                             have hT0 := Own.nil wG (fun _ => False) 75 3
                             refine WC.region ?_
                             refine WL.val rfl rfl rfl rfl (r_move rfl (ev_t rfl)) ?_
                             refine WL.val rfl rfl rfl rfl (r_loadAgg (vs := [_, _, _]) rfl (ev_t rfl) agg_75 size_75 (Blk.cellsL hbn)) ?_
                             refine WL.cons (SO.alloc rfl rfl rfl rfl (r_buildSlice (cs := #[_, _, _]) (vs := [(0, _)]) rfl ⟨⟨rfl, (ev_t rfl)⟩, trivial⟩ row_76 rfl rfl) ?_)
                             intro w22 hu22 hB22 hz22
                             have hs22 := hu22.size
                             replace hU := hU.trans hu22 (by first | exact (fun _ _ h => h) | exact (fun _ _ h => h.elim) | (intro k hl hk; (try simp only [At, New, Grow, From, No] at hk ⊢); omega) | (intro k hl hk; first | (simp only [At, No] at hk; omega) | (have := hG2 k hk; omega) | (have := hG k hk; omega)))
                             replace hF3 := hF3.upd hu22 (by first | exact (fun h => h) | (simp only [At, No]; omega) | (exact fun h => by have := hG _ h; omega) | (exact fun h => by have := hG2 _ h; omega))
                             replace hO := hO.upd hu22 (by first | exact (fun _ _ _ h => h) | (intro k hk hl hS; have := hG k hk; first | (simp only [At, No] at hS; omega) | (have := hG2 k hS; omega)))
                             replace hbc := hbc.upd hu22 (by first | exact (fun h => h) | (simp only [At, No]; omega) | (exact fun h => by have := hG _ h; omega) | (exact fun h => by have := hG2 _ h; omega))
                             replace hbi := hbi.upd hu22 (by first | exact (fun h => h) | (simp only [At, No]; omega) | (exact fun h => by have := hG _ h; omega) | (exact fun h => by have := hG2 _ h; omega))
                             replace hbn := hbn.upd hu22 (by first | exact (fun h => h) | (simp only [At, No]; omega) | (exact fun h => by have := hG _ h; omega) | (exact fun h => by have := hG2 _ h; omega))
                             replace hT0 := hT0.upd hu22 (fun _ _ _ h => h)
                             refine WL.cons (SO.append hT0 (Rd.of_blk (F := At _) (n := 1) (sz := 3) hB22 rfl rfl (by omega)) row_76 (by intro u hu; simp only [List.mem_cons, List.not_mem_nil, or_false, Array.toList] at hu; rcases hu with rfl | rfl | rfl <;> rfl) (le_maxLen (by omega)) (by omega) rfl (ev_t rfl) (ev_t rfl) rfl rfl rfl rfl ?_)
                             intro v23 w23 hT1 hu23
                             have hs23 := hu23.size
                             replace hU := hU.trans hu23 (by first | exact (fun _ _ h => h) | exact (fun _ _ h => h.elim) | (intro k hl hk; (try simp only [At, New, Grow, From, No] at hk ⊢); omega) | (intro k hl hk; first | (simp only [At, No] at hk; omega) | (have := hG2 k hk; omega) | (have := hG k hk; omega)))
                             replace hF3 := hF3.upd hu23 (by first | exact (fun h => h) | (simp only [At, No]; omega) | (exact fun h => by have := hG _ h; omega) | (exact fun h => by have := hG2 _ h; omega))
                             replace hO := hO.upd hu23 (by first | exact (fun _ _ _ h => h) | (intro k hk hl hS; have := hG k hk; first | (simp only [At, No] at hS; omega) | (have := hG2 k hS; omega)))
                             replace hbc := hbc.upd hu23 (by first | exact (fun h => h) | (simp only [At, No]; omega) | (exact fun h => by have := hG _ h; omega) | (exact fun h => by have := hG2 _ h; omega))
                             replace hbi := hbi.upd hu23 (by first | exact (fun h => h) | (simp only [At, No]; omega) | (exact fun h => by have := hG _ h; omega) | (exact fun h => by have := hG2 _ h; omega))
                             replace hbn := hbn.upd hu23 (by first | exact (fun h => h) | (simp only [At, No]; omega) | (exact fun h => by have := hG _ h; omega) | (exact fun h => by have := hG2 _ h; omega))
                             obtain ⟨A23, c23, rfl, hc23⟩ := Own.form hT1
                             refine WL.val rfl rfl rfl rfl (r_assign rfl (ev_t rfl)) ?_
                             refine WL.nil ?_
                             refine WX.keep [(1, _), (2, _), (3, _), (7, _), (8, _), (9, _), (10, _), (11, _), (12, _)] ⟨rfl, rfl, rfl, rfl, rfl, rfl, rfl, rfl, rfl, trivial⟩ ?_
                             refine WX.meet [(1, _), (2, _), (3, _), (7, _), (8, _), (9, _), (10, _), (11, _), (12, _)] ⟨rfl, rfl, rfl, rfl, rfl, rfl, rfl, rfl, rfl, trivial⟩ ?_
                             first
                               | exact ⟨[], none, 0, fun _ => False, by rw [if_neg hnb], hU, by omega, hF3, hO, hbc, hbi, hbn, Own.nil _ _ _ _, (fun k h => h.elim), rfl⟩
                               | exact ⟨[((a : Int) + 1, d1, t1)], _, _, _, by rw [if_pos hnb], hU, by omega, hF3, hO, hbc, hbi, hbn, hT1, (fun k hk => hk.elim (fun h => h.elim) (fun h => by omega)), rfl⟩
                          · try (exfalso; first | (simp at hc17; done) | (simp only [decide_eq_true_eq, decide_eq_false_iff_not, Bool.not_eq_true', Bool.not_eq_false', Bool.not_eq_true, Bool.not_eq_false] at hc17; omega) | omega)
                            all_goals
                             try simp only [decide_eq_true_eq, decide_eq_false_iff_not, Bool.not_eq_true', Bool.not_eq_false', Bool.not_eq_true, Bool.not_eq_false, Option.isNone_none, Option.isNone_some, Option.isSome_none, Option.isSome_some, ne_eq, Decidable.not_not] at hc17
                             have hnb : ¬ nextB i = true := nextB_neg (by have : ¬ (i.op ≠ 8 ∧ i.op ≠ 12 ∧ i.op ≠ 26) := (fun h => by have := hb17.2 h; simp_all); omega)
                             refine WC.skip ?_
                             refine WX.meet [(1, _), (2, _), (3, _), (7, _), (8, _), (9, _), (10, _), (11, _), (12, _)] ⟨rfl, rfl, rfl, rfl, rfl, rfl, rfl, rfl, rfl, trivial⟩ ?_
                             first
                               | exact ⟨[], none, 0, fun _ => False, by rw [if_neg hnb], hU, by omega, hF3, hO, hbc, hbi, hbn, Own.nil _ _ _ _, (fun k h => h.elim), rfl⟩
                               | exact ⟨[((a : Int) + 1, d1, t1)], _, _, _, by rw [if_pos hnb], hU, by omega, hF3, hO, hbc, hbi, hbn, hT1, (fun k hk => hk.elim (fun h => h.elim) (fun h => by omega)), rfl⟩
                      · clear hU hF3 hO hbc hbi hbn hbnl
                        rintro E wH ⟨T1, A2, c2, G2, hT1e, hU, hbnl, hF3, hO, hbc, hbi, hbn, hT, hG2, rfl⟩
                        -- cut 19: live [1, 2, 3, 7, 8, 12]
                        refine WC.cut (fun E w9 => ∃ (T : List (Int × Int × Int)) (A2 : Option Addr) (c2 : Nat) (G2 : Nat → Prop), T = succsI i a d0 t0 ∧ (∀ y ∈ T, (a : Int) < y.1 ∧ 1 ≤ y.2.1 ∧ y.2.1 ≤ y.1 + 1 ∧ 0 ≤ y.2.2 ∧ y.2.2 ≤ y.1) ∧ T.length ≤ 2 ∧ Upd No w w9 ∧ bn < w9.heap.size ∧ Blk w9 bF #[.int .i64 F.caps, .slice (some ⟨bo, oo, none⟩) n c] 54 ∧ Own w9 G 75 3 (.slice (some ⟨bl, ol, none⟩) l.length c1) l.length (l.flatMap triC) ∧ Own w9 G2 75 3 (.slice A2 T.length c2) T.length (T.flatMap triC) ∧ (∀ k, G2 k → bn < k ∧ k < w9.heap.size) ∧   E = [(1, allv), (2, .int .i64 globs), (3, .pointer (some ⟨bF, 0, none⟩)), (7, .slice (some ⟨bl, ol, none⟩) l.length c1), (8, .int .i64 (k : Int)), (12, .slice A2 T.length c2)]) ?_ ?_
                        · -- cut r19: live [1, 2, 3, 7, 8, 9, 10, 11, 12, 108]
                          refine WC.cut (fun E w9 => ∃ b : Bool, wH = w9 ∧ (b = true ↔ (i.op = 12 ∨ i.op = 13 ∨ i.op = 24)) ∧ E = [(1, allv), (2, .int .i64 globs), (3, .pointer (some ⟨bF, 0, none⟩)), (7, .slice (some ⟨bl, ol, none⟩) l.length c1), (8, .int .i64 (k : Int)), (9, .pointer (some ⟨bc, 0, none⟩)), (10, .pointer (some ⟨bi, 0, none⟩)), (11, .pointer (some ⟨bn, 0, none⟩)), (12, .slice A2 T1.length c2), (108, .bool b)]) ?_ ?_
                          · refine WC.region ?_
                            first | refine WL.val rfl rfl rfl rfl (r_field0 rfl (ev_t rfl) fld_55_0) ?_ | refine WL.val rfl rfl rfl rfl (r_fieldAt rfl (ev_t rfl) fld_55_0) ?_
                            refine WL.val rfl rfl rfl rfl (r_load rfl (ev_t rfl) flat_5 (Blk.cell hbi rfl)) ?_
                            refine WL.val rfl rfl rfl rfl (r_eql rfl (ev_t rfl) ev_c) ?_
                            refine WL.val rfl rfl rfl rfl (r_move rfl (ev_t rfl)) ?_
                            refine WL.cases 99 rfl (fun hb19_3 => ?_) (fun hb19_3 => ?_)
                            · try (exfalso; first | (simp at hb19_3; done) | (simp only [decide_eq_true_eq, decide_eq_false_iff_not, Bool.not_eq_true', Bool.not_eq_false', Bool.not_eq_true, Bool.not_eq_false] at hb19_3; omega) | omega)
                              all_goals
                               try simp only [decide_eq_true_eq, decide_eq_false_iff_not, Bool.not_eq_true', Bool.not_eq_false', Bool.not_eq_true, Bool.not_eq_false, Option.isNone_none, Option.isNone_some, Option.isSome_none, Option.isSome_some, ne_eq, Decidable.not_not] at hb19_3
                               refine WL.skip rfl rfl rfl ?_
                               refine WL.skip rfl rfl rfl ?_
                               refine WL.skip rfl rfl rfl ?_
                               refine WL.val rfl rfl rfl rfl (r_pickT rfl (ev_t rfl) ev_c) ?_
                               refine WL.val rfl rfl rfl rfl (r_move rfl (ev_t rfl)) ?_
                               refine WL.skip rfl rfl rfl ?_
                               refine WL.skip rfl rfl rfl ?_
                               refine WL.skip rfl rfl rfl ?_
                               refine WL.val rfl rfl rfl rfl (r_pickT rfl (ev_t rfl) ev_c) ?_
                               refine WL.nil ?_
                               refine WX.keep [(1, _), (2, _), (3, _), (7, _), (8, _), (9, _), (10, _), (11, _), (12, _), (108, _)] ⟨rfl, rfl, rfl, rfl, rfl, rfl, rfl, rfl, rfl, rfl, trivial⟩ ?_
                               refine WX.meet [(1, _), (2, _), (3, _), (7, _), (8, _), (9, _), (10, _), (11, _), (12, _), (108, _)] ⟨rfl, rfl, rfl, rfl, rfl, rfl, rfl, rfl, rfl, rfl, trivial⟩ ?_
                               refine ⟨_, rfl, ?_, rfl⟩
                               first
                                 | (rw [decide_eq_true_eq]; omega)
                                 | (constructor <;> intro h <;> first | rfl | omega | (cases h; done) | (exfalso; omega))
                            · try (exfalso; first | (simp at hb19_3; done) | (simp only [decide_eq_true_eq, decide_eq_false_iff_not, Bool.not_eq_true', Bool.not_eq_false', Bool.not_eq_true, Bool.not_eq_false] at hb19_3; omega) | omega)
                              all_goals
                               try simp only [decide_eq_true_eq, decide_eq_false_iff_not, Bool.not_eq_true', Bool.not_eq_false', Bool.not_eq_true, Bool.not_eq_false, Option.isNone_none, Option.isNone_some, Option.isSome_none, Option.isSome_some, ne_eq, Decidable.not_not] at hb19_3
                               first | refine WL.val rfl rfl rfl rfl (r_field0 rfl (ev_t rfl) fld_55_0) ?_ | refine WL.val rfl rfl rfl rfl (r_fieldAt rfl (ev_t rfl) fld_55_0) ?_
                               refine WL.val rfl rfl rfl rfl (r_load rfl (ev_t rfl) flat_5 (Blk.cell hbi rfl)) ?_
                               refine WL.val rfl rfl rfl rfl (r_eql rfl (ev_t rfl) ev_c) ?_
                               refine WL.val rfl rfl rfl rfl (r_pickF rfl (ev_t rfl) (ev_t rfl)) ?_
                               refine WL.val rfl rfl rfl rfl (r_move rfl (ev_t rfl)) ?_
                               refine WL.cases 104 rfl (fun hb19_8 => ?_) (fun hb19_8 => ?_)
                               · try (exfalso; first | (simp at hb19_8; done) | (simp only [decide_eq_true_eq, decide_eq_false_iff_not, Bool.not_eq_true', Bool.not_eq_false', Bool.not_eq_true, Bool.not_eq_false] at hb19_8; omega) | omega)
                                 all_goals
                                  try simp only [decide_eq_true_eq, decide_eq_false_iff_not, Bool.not_eq_true', Bool.not_eq_false', Bool.not_eq_true, Bool.not_eq_false, Option.isNone_none, Option.isNone_some, Option.isSome_none, Option.isSome_some, ne_eq, Decidable.not_not] at hb19_8
                                  refine WL.skip rfl rfl rfl ?_
                                  refine WL.skip rfl rfl rfl ?_
                                  refine WL.skip rfl rfl rfl ?_
                                  refine WL.val rfl rfl rfl rfl (r_pickT rfl (ev_t rfl) ev_c) ?_
                                  refine WL.nil ?_
                                  refine WX.keep [(1, _), (2, _), (3, _), (7, _), (8, _), (9, _), (10, _), (11, _), (12, _), (108, _)] ⟨rfl, rfl, rfl, rfl, rfl, rfl, rfl, rfl, rfl, rfl, trivial⟩ ?_
                                  refine WX.meet [(1, _), (2, _), (3, _), (7, _), (8, _), (9, _), (10, _), (11, _), (12, _), (108, _)] ⟨rfl, rfl, rfl, rfl, rfl, rfl, rfl, rfl, rfl, rfl, trivial⟩ ?_
                                  refine ⟨_, rfl, ?_, rfl⟩
                                  first
                                    | (rw [decide_eq_true_eq]; omega)
                                    | (constructor <;> intro h <;> first | rfl | omega | (cases h; done) | (exfalso; omega))
                               · try (exfalso; first | (simp at hb19_8; done) | (simp only [decide_eq_true_eq, decide_eq_false_iff_not, Bool.not_eq_true', Bool.not_eq_false', Bool.not_eq_true, Bool.not_eq_false] at hb19_8; omega) | omega)
                                 all_goals
                                  try simp only [decide_eq_true_eq, decide_eq_false_iff_not, Bool.not_eq_true', Bool.not_eq_false', Bool.not_eq_true, Bool.not_eq_false, Option.isNone_none, Option.isNone_some, Option.isSome_none, Option.isSome_some, ne_eq, Decidable.not_not] at hb19_8
                                  first | refine WL.val rfl rfl rfl rfl (r_field0 rfl (ev_t rfl) fld_55_0) ?_ | refine WL.val rfl rfl rfl rfl (r_fieldAt rfl (ev_t rfl) fld_55_0) ?_
                                  refine WL.val rfl rfl rfl rfl (r_load rfl (ev_t rfl) flat_5 (Blk.cell hbi rfl)) ?_
                                  refine WL.val rfl rfl rfl rfl (r_eql rfl (ev_t rfl) ev_c) ?_
                                  refine WL.val rfl rfl rfl rfl (r_pickF rfl (ev_t rfl) (ev_t rfl)) ?_
                                  refine WL.nil ?_
                                  refine WX.keep [(1, _), (2, _), (3, _), (7, _), (8, _), (9, _), (10, _), (11, _), (12, _), (108, _)] ⟨rfl, rfl, rfl, rfl, rfl, rfl, rfl, rfl, rfl, rfl, trivial⟩ ?_
                                  refine WX.meet [(1, _), (2, _), (3, _), (7, _), (8, _), (9, _), (10, _), (11, _), (12, _), (108, _)] ⟨rfl, rfl, rfl, rfl, rfl, rfl, rfl, rfl, rfl, rfl, trivial⟩ ?_
                                  refine ⟨_, rfl, ?_, rfl⟩
                                  first
                                    | (rw [decide_eq_true_eq]; omega)
                                    | (constructor <;> intro h <;> first | rfl | omega | (cases h; done) | (exfalso; omega))
                          · rintro E w9 ⟨b, rfl, hb19, rfl⟩
                            refine WC.cond rfl (ev_t rfl) (fun hc19 => ?_) (fun hc19 => ?_)
                            · try (exfalso; first | (simp at hc19; done) | (simp only [decide_eq_true_eq, decide_eq_false_iff_not, Bool.not_eq_true', Bool.not_eq_false', Bool.not_eq_true, Bool.not_eq_false] at hc19; omega) | omega)
                              all_goals
                               try simp only [decide_eq_true_eq, decide_eq_false_iff_not, Bool.not_eq_true', Bool.not_eq_false', Bool.not_eq_true, Bool.not_eq_false, Option.isNone_none, Option.isNone_some, Option.isSome_none, Option.isSome_some, ne_eq, Decidable.not_not] at hc19
                               have ho19 := hb19.1 hc19
                               refine WC.seq ?_
                               -- cut r20: live [1, 2, 3, 7, 8, 9, 10, 11, 12, 121]
                               refine WC.cut (fun E w9 => ∃ b : Bool, wH = w9 ∧ (b = true ↔ (i.n ≤ (a : Int) ∨ (n : Int) ≤ i.n)) ∧ E = [(1, allv), (2, .int .i64 globs), (3, .pointer (some ⟨bF, 0, none⟩)), (7, .slice (some ⟨bl, ol, none⟩) l.length c1), (8, .int .i64 (k : Int)), (9, .pointer (some ⟨bc, 0, none⟩)), (10, .pointer (some ⟨bi, 0, none⟩)), (11, .pointer (some ⟨bn, 0, none⟩)), (12, .slice A2 T1.length c2), (121, .bool b)]) ?_ ?_
                               · refine WC.region ?_
                                 first | refine WL.val rfl rfl rfl rfl (r_field0 rfl (ev_t rfl) fld_55_1) ?_ | refine WL.val rfl rfl rfl rfl (r_fieldAt rfl (ev_t rfl) fld_55_1) ?_
                                 refine WL.val rfl rfl rfl rfl (r_load rfl (ev_t rfl) flat_2 (Blk.cell hbi rfl)) ?_
                                 first | refine WL.val rfl rfl rfl rfl (r_field0 rfl (ev_t rfl) fld_75_0) ?_ | refine WL.val rfl rfl rfl rfl (r_fieldAt rfl (ev_t rfl) fld_75_0) ?_
                                 refine WL.val rfl rfl rfl rfl (r_load rfl (ev_t rfl) flat_3 (Blk.cell hbc rfl)) ?_
                                 refine WL.val rfl rfl rfl rfl (r_leq rfl (ev_t rfl) (ev_t rfl)) ?_
                                 refine WL.val rfl rfl rfl rfl (r_move rfl (ev_t rfl)) ?_
                                 refine WL.cases 114 rfl (fun hb20_5 => ?_) (fun hb20_5 => ?_)
                                 · try (exfalso; first | (simp at hb20_5; done) | (simp only [decide_eq_true_eq, decide_eq_false_iff_not, Bool.not_eq_true', Bool.not_eq_false', Bool.not_eq_true, Bool.not_eq_false] at hb20_5; omega) | omega)
                                   all_goals
                                    try simp only [decide_eq_true_eq, decide_eq_false_iff_not, Bool.not_eq_true', Bool.not_eq_false', Bool.not_eq_true, Bool.not_eq_false, Option.isNone_none, Option.isNone_some, Option.isSome_none, Option.isSome_some, ne_eq, Decidable.not_not] at hb20_5
                                    refine WL.skip rfl rfl rfl ?_
                                    refine WL.skip rfl rfl rfl ?_
                                    refine WL.skip rfl rfl rfl ?_
                                    refine WL.skip rfl rfl rfl ?_
                                    refine WL.skip rfl rfl rfl ?_
                                    refine WL.skip rfl rfl rfl ?_
                                    refine WL.val rfl rfl rfl rfl (r_pickT rfl (ev_t rfl) ev_c) ?_
                                    refine WL.nil ?_
                                    refine WX.keep [(1, _), (2, _), (3, _), (7, _), (8, _), (9, _), (10, _), (11, _), (12, _), (121, _)] ⟨rfl, rfl, rfl, rfl, rfl, rfl, rfl, rfl, rfl, rfl, trivial⟩ ?_
                                    refine WX.meet [(1, _), (2, _), (3, _), (7, _), (8, _), (9, _), (10, _), (11, _), (12, _), (121, _)] ⟨rfl, rfl, rfl, rfl, rfl, rfl, rfl, rfl, rfl, rfl, trivial⟩ ?_
                                    refine ⟨_, rfl, ?_, rfl⟩
                                    first
                                      | (rw [decide_eq_true_eq]; omega)
                                      | (constructor <;> intro h <;> first | rfl | omega | (cases h; done) | (exfalso; omega))
                                 · try (exfalso; first | (simp at hb20_5; done) | (simp only [decide_eq_true_eq, decide_eq_false_iff_not, Bool.not_eq_true', Bool.not_eq_false', Bool.not_eq_true, Bool.not_eq_false] at hb20_5; omega) | omega)
                                   all_goals
                                    try simp only [decide_eq_true_eq, decide_eq_false_iff_not, Bool.not_eq_true', Bool.not_eq_false', Bool.not_eq_true, Bool.not_eq_false, Option.isNone_none, Option.isNone_some, Option.isSome_none, Option.isSome_some, ne_eq, Decidable.not_not] at hb20_5
                                    first | refine WL.val rfl rfl rfl rfl (r_field0 rfl (ev_t rfl) fld_55_1) ?_ | refine WL.val rfl rfl rfl rfl (r_fieldAt rfl (ev_t rfl) fld_55_1) ?_
                                    refine WL.val rfl rfl rfl rfl (r_load rfl (ev_t rfl) flat_2 (Blk.cell hbi rfl)) ?_
                                    first | refine WL.val rfl rfl rfl rfl (r_field0 rfl (ev_t rfl) fld_54_1) ?_ | refine WL.val rfl rfl rfl rfl (r_fieldAt rfl (ev_t rfl) fld_54_1) ?_
                                    refine WL.val rfl rfl rfl rfl (r_load rfl (ev_t rfl) flat_52 (Blk.cell hF3 rfl)) ?_
                                    refine WL.val rfl rfl rfl rfl (r_lenSlice (ts := #[]) rfl (ev_t rfl) elem_52) ?_
                                    refine WL.val rfl rfl rfl rfl (r_geq rfl (ev_t rfl) (ev_t rfl)) ?_
                                    refine WL.val rfl rfl rfl rfl (r_pickF rfl (ev_t rfl) (ev_t rfl)) ?_
                                    refine WL.nil ?_
                                    refine WX.keep [(1, _), (2, _), (3, _), (7, _), (8, _), (9, _), (10, _), (11, _), (12, _), (121, _)] ⟨rfl, rfl, rfl, rfl, rfl, rfl, rfl, rfl, rfl, rfl, trivial⟩ ?_
                                    refine WX.meet [(1, _), (2, _), (3, _), (7, _), (8, _), (9, _), (10, _), (11, _), (12, _), (121, _)] ⟨rfl, rfl, rfl, rfl, rfl, rfl, rfl, rfl, rfl, rfl, trivial⟩ ?_
                                    refine ⟨_, rfl, ?_, rfl⟩
                                    first
                                      | (rw [decide_eq_true_eq]; omega)
                                      | (constructor <;> intro h <;> first | rfl | omega | (cases h; done) | (exfalso; omega))
                               · rintro E w9 ⟨b, rfl, hb20, rfl⟩
                                 refine WC.cond rfl (ev_t rfl) (fun hc20 => ?_) (fun hc20 => ?_)
                                 · try (exfalso; first | (simp at hc20; done) | (simp only [decide_eq_true_eq, decide_eq_false_iff_not, Bool.not_eq_true', Bool.not_eq_false', Bool.not_eq_true, Bool.not_eq_false] at hc20; omega) | omega)
                                   all_goals
                                    try simp only [decide_eq_true_eq, decide_eq_false_iff_not, Bool.not_eq_true', Bool.not_eq_false', Bool.not_eq_true, Bool.not_eq_false, Option.isNone_none, Option.isNone_some, Option.isSome_none, Option.isSome_some, ne_eq, Decidable.not_not] at hc20
                                    have hn20 := hb20.1 hc20
                                    refine WC.seq ?_
                                    refine WC.region ?_
                                    refine WL.val rfl rfl rfl rfl (r_assign rfl ev_c) ?_
                                    refine WL.nil ?_
                                    refine WX.keep [(6, _)] ⟨rfl, trivial⟩ ?_
                                    refine WX.next ?_
                                    refine WC.ret ?_
                                    refine WX.thenRet ?_
                                    refine WX.thenRet ?_
                                    refine WX.blockRet ?_
                                    refine WX.thenRet ?_
                                    refine WX.thenRet ?_
                                    refine WX.blockRet ?_
                                    refine WX.thenRet ?_
                                    refine WX.retE1 rfl rfl ?_
                                    refine ⟨⟨false, rfl, fun _ => rfl, fun hp _ => ⟨(fun h => by cases h), fun hg => ?_⟩⟩, hU⟩
                                    obtain ⟨L, hL⟩ := hg
                                    have h9 := hI.lb hp L hL _ (List.mem_of_getElem? hx)
                                    obtain ⟨y2, hy2⟩ : ∃ y2, (i.n, y2) ∈ succsI i a d0 t0 := by
                                      rw [hsucc]
                                      by_cases h24 : i.op = 24
                                      · exact ⟨(d0 + 1, t0), List.mem_append.2 (.inr (by rw [if_neg (by omega), if_pos (by omega)]; simp))⟩
                                      · exact ⟨(d1, t1), List.mem_append.2 (.inr (by rw [if_pos (by omega)]; simp))⟩
                                    obtain ⟨g1, g2, _⟩ := good_succ hL h9 (by omega) (by simpa using hi) (y := (i.n, y2)) (by simpa using hy2)
                                    simp only at g1 g2
                                    omega
                                 · try (exfalso; first | (simp at hc20; done) | (simp only [decide_eq_true_eq, decide_eq_false_iff_not, Bool.not_eq_true', Bool.not_eq_false', Bool.not_eq_true, Bool.not_eq_false] at hc20; omega) | omega)
                                   all_goals
                                    try simp only [decide_eq_true_eq, decide_eq_false_iff_not, Bool.not_eq_true', Bool.not_eq_false', Bool.not_eq_true, Bool.not_eq_false, Option.isNone_none, Option.isNone_some, Option.isSome_none, Option.isSome_some, ne_eq, Decidable.not_not] at hc20
                                    have hn20 : ¬ (i.n ≤ (a : Int) ∨ (n : Int) ≤ i.n) := fun h => by have := hb20.2 h; simp_all
                                    refine WC.skip ?_
                                    refine WX.next ?_
                                    refine WC.seq ?_
                                    have hT1l : T1.length ≤ 1 := by rw [hT1e]; split <;> simp
                                    have hT1m : ∀ y ∈ T1, y = ((a : Int) + 1, d1, t1) := fun y hy => by rw [hT1e] at hy; split at hy <;> simp_all
                                    have hin := hio.n
                                    simp only [inK] at hin
                                    refine WC.region ?_
                                    first | refine WL.val rfl rfl rfl rfl (r_field0 rfl (ev_t rfl) fld_55_1) ?_ | refine WL.val rfl rfl rfl rfl (r_fieldAt rfl (ev_t rfl) fld_55_1) ?_
                                    refine WL.val rfl rfl rfl rfl (r_load rfl (ev_t rfl) flat_2 (Blk.cell hbi rfl)) ?_
                                    first | refine WL.val rfl rfl rfl rfl (r_field0 rfl (ev_t rfl) fld_75_1) ?_ | refine WL.val rfl rfl rfl rfl (r_fieldAt rfl (ev_t rfl) fld_75_1) ?_
                                    refine WL.val rfl rfl rfl rfl (r_load rfl (ev_t rfl) flat_3 (Blk.cell hbn rfl)) ?_
                                    first | refine WL.val rfl rfl rfl rfl (r_field0 rfl (ev_t rfl) fld_75_2) ?_ | refine WL.val rfl rfl rfl rfl (r_fieldAt rfl (ev_t rfl) fld_75_2) ?_
                                    refine WL.val rfl rfl rfl rfl (r_load rfl (ev_t rfl) flat_3 (Blk.cell hbc rfl)) ?_
                                    refine WL.val rfl rfl rfl rfl (r_build (cs := #[_, _, _]) (vs := [(0, _), (1, _), (2, _)]) rfl ⟨⟨rfl, (ev_t rfl)⟩, ⟨rfl, (ev_t rfl)⟩, ⟨rfl, (ev_t rfl)⟩, trivial⟩ plc_75 zero_75 rfl) ?_
                                    refine WL.cons (SO.alloc rfl rfl rfl rfl (r_alloc rfl zero_75) ?_)
                                    intro w24 hu24 hB24 hz24
                                    have hs24 := hu24.size
                                    replace hU := hU.trans hu24 (by first | exact (fun _ _ h => h) | exact (fun _ _ h => h.elim) | (intro k hl hk; (try simp only [At, New, Grow, From, No] at hk ⊢); omega) | (intro k hl hk; first | (simp only [At, No] at hk; omega) | (have := hG2 k hk; omega) | (have := hG k hk; omega)))
                                    replace hF3 := hF3.upd hu24 (by first | exact (fun h => h) | (simp only [At, No]; omega) | (exact fun h => by have := hG _ h; omega) | (exact fun h => by have := hG2 _ h; omega))
                                    replace hO := hO.upd hu24 (by first | exact (fun _ _ _ h => h) | (intro k hk hl hS; have := hG k hk; first | (simp only [At, No] at hS; omega) | (have := hG2 k hS; omega)))
                                    replace hbc := hbc.upd hu24 (by first | exact (fun h => h) | (simp only [At, No]; omega) | (exact fun h => by have := hG _ h; omega) | (exact fun h => by have := hG2 _ h; omega))
                                    replace hbi := hbi.upd hu24 (by first | exact (fun h => h) | (simp only [At, No]; omega) | (exact fun h => by have := hG _ h; omega) | (exact fun h => by have := hG2 _ h; omega))
                                    replace hbn := hbn.upd hu24 (by first | exact (fun h => h) | (simp only [At, No]; omega) | (exact fun h => by have := hG _ h; omega) | (exact fun h => by have := hG2 _ h; omega))
                                    replace hT := hT.upd hu24 (by first | exact (fun _ _ _ h => h) | (intro k hk hl hS; have := hG2 k hk; simp only [At, No] at hS; omega))
                                    refine WL.cons (SO.storeAll (us := [_, _, _]) rfl (ev_t rfl) (ev_t rfl) size_75 hB24 rfl rfl rfl rfl rfl ?_)
                                    intro w25 hu25 hB24 hz25
                                    have hs25 := hu25.size
                                    replace hU := hU.trans hu25 (by first | exact (fun _ _ h => h) | exact (fun _ _ h => h.elim) | (intro k hl hk; (try simp only [At, New, Grow, From, No] at hk ⊢); omega) | (intro k hl hk; first | (simp only [At, No] at hk; omega) | (have := hG2 k hk; omega) | (have := hG k hk; omega)))
                                    replace hF3 := hF3.upd hu25 (by first | exact (fun h => h) | (simp only [At, No]; omega) | (exact fun h => by have := hG _ h; omega) | (exact fun h => by have := hG2 _ h; omega))
                                    replace hO := hO.upd hu25 (by first | exact (fun _ _ _ h => h) | (intro k hk hl hS; have := hG k hk; first | (simp only [At, No] at hS; omega) | (have := hG2 k hS; omega)))
                                    replace hbc := hbc.upd hu25 (by first | exact (fun h => h) | (simp only [At, No]; omega) | (exact fun h => by have := hG _ h; omega) | (exact fun h => by have := hG2 _ h; omega))
                                    replace hbi := hbi.upd hu25 (by first | exact (fun h => h) | (simp only [At, No]; omega) | (exact fun h => by have := hG _ h; omega) | (exact fun h => by have := hG2 _ h; omega))
                                    replace hbn := hbn.upd hu25 (by first | exact (fun h => h) | (simp only [At, No]; omega) | (exact fun h => by have := hG _ h; omega) | (exact fun h => by have := hG2 _ h; omega))
                                    replace hT := hT.upd hu25 (by first | exact (fun _ _ _ h => h) | (intro k hk hl hS; have := hG2 k hk; simp only [At, No] at hS; omega))
                                    refine WL.nil ?_
                                    refine WX.keep [(1, _), (2, _), (3, _), (7, _), (8, _), (9, _), (10, _), (12, _), (13, _)] ⟨rfl, rfl, rfl, rfl, rfl, rfl, rfl, rfl, rfl, trivial⟩ ?_
                                    have hb3 : Blk w25 wH.heap.size #[I64 i.n, I64 d1, I64 t0] 75 := hB24
                                    refine WX.next ?_
                                    refine WC.seq ?_
                                    refine WC.seq ?_
                                    refine WC.region ?_
                                    first | refine WL.val rfl rfl rfl rfl (r_field0 rfl (ev_t rfl) fld_55_0) ?_ | refine WL.val rfl rfl rfl rfl (r_fieldAt rfl (ev_t rfl) fld_55_0) ?_
                                    refine WL.val rfl rfl rfl rfl (r_load rfl (ev_t rfl) flat_5 (Blk.cell hbi rfl)) ?_
                                    refine WL.val rfl rfl rfl rfl (r_eql rfl (ev_t rfl) ev_c) ?_
                                    refine WL.nil ?_
                                    refine WX.keep [(1, _), (2, _), (3, _), (7, _), (8, _), (9, _), (12, _), (13, _), (131, _)] ⟨rfl, rfl, rfl, rfl, rfl, rfl, rfl, rfl, rfl, trivial⟩ ?_
                                    refine WX.next ?_
                                    refine WC.cond rfl (ev_t rfl) (fun hc23 => ?_) (fun hc23 => ?_)
                                    · try (exfalso; first | (simp at hc23; done) | (simp only [decide_eq_true_eq, decide_eq_false_iff_not, Bool.not_eq_true', Bool.not_eq_false', Bool.not_eq_true, Bool.not_eq_false] at hc23; omega) | omega)
                                      all_goals
                                       try simp only [decide_eq_true_eq, decide_eq_false_iff_not, Bool.not_eq_true', Bool.not_eq_false', Bool.not_eq_true, Bool.not_eq_false, Option.isNone_none, Option.isNone_some, Option.isSome_none, Option.isSome_some, ne_eq, Decidable.not_not] at hc23
                                       have hse : T1 ++ [(i.n, d0 + 1, t0)] = succsI i a d0 t0 := by rw [hsucc, ← hT1e, if_neg (by omega), if_pos (by omega)]
                                       have hTbd : ∀ y ∈ T1 ++ [(i.n, d0 + 1, t0)], (a : Int) < y.1 ∧ 1 ≤ y.2.1 ∧ y.2.1 ≤ y.1 + 1 ∧ 0 ≤ y.2.2 ∧ y.2.2 ≤ y.1 := fun y hy => by
                                         rcases List.mem_append.1 hy with hy | hy
                                         · obtain rfl := hT1m y hy; simp only; omega
                                         · rw [List.mem_singleton] at hy; subst hy; simp only; omega
                                       refine WC.region ?_
                                       first | refine WL.val rfl rfl rfl rfl (r_field0 rfl (ev_t rfl) fld_75_1) ?_ | refine WL.val rfl rfl rfl rfl (r_fieldAt rfl (ev_t rfl) fld_75_1) ?_
                                       refine WL.val rfl rfl rfl rfl (r_load rfl (ev_t rfl) flat_3 (Blk.cell hbc rfl)) ?_
                                       first | refine WL.val rfl rfl rfl rfl (r_addN rfl (ev_t rfl) ev_c (by simp only [inK]; omega)) ?_ | refine WL.val rfl rfl rfl rfl (r_add rfl (ev_t rfl) ev_c) ?_
                                       first | refine WL.val rfl rfl rfl rfl (r_field0 rfl (ev_t rfl) fld_75_1) ?_ | refine WL.val rfl rfl rfl rfl (r_fieldAt rfl (ev_t rfl) fld_75_1) ?_
                                       refine WL.cons (SO.store rfl (ev_t rfl) (ev_t rfl) size_3 hb3 rfl rfl rfl rfl rfl ?_)
                                       intro w26 hu26 hb3 hz26
                                       have hs26 := hu26.size
                                       replace hU := hU.trans hu26 (by first | exact (fun _ _ h => h) | exact (fun _ _ h => h.elim) | (intro k hl hk; (try simp only [At, New, Grow, From, No] at hk ⊢); omega) | (intro k hl hk; first | (simp only [At, No] at hk; omega) | (have := hG2 k hk; omega) | (have := hG k hk; omega)))
                                       replace hF3 := hF3.upd hu26 (by first | exact (fun h => h) | (simp only [At, No]; omega) | (exact fun h => by have := hG _ h; omega) | (exact fun h => by have := hG2 _ h; omega))
                                       replace hO := hO.upd hu26 (by first | exact (fun _ _ _ h => h) | (intro k hk hl hS; have := hG k hk; first | (simp only [At, No] at hS; omega) | (have := hG2 k hS; omega)))
                                       replace hbc := hbc.upd hu26 (by first | exact (fun h => h) | (simp only [At, No]; omega) | (exact fun h => by have := hG _ h; omega) | (exact fun h => by have := hG2 _ h; omega))
                                       replace hbi := hbi.upd hu26 (by first | exact (fun h => h) | (simp only [At, No]; omega) | (exact fun h => by have := hG _ h; omega) | (exact fun h => by have := hG2 _ h; omega))
                                       replace hbn := hbn.upd hu26 (by first | exact (fun h => h) | (simp only [At, No]; omega) | (exact fun h => by have := hG _ h; omega) | (exact fun h => by have := hG2 _ h; omega))
                                       replace hT := hT.upd hu26 (by first | exact (fun _ _ _ h => h) | (intro k hk hl hS; have := hG2 k hk; simp only [At, No] at hS; omega))
                                       refine WL.nil ?_
                                       refine WX.keep [(1, _), (2, _), (3, _), (7, _), (8, _), (12, _), (13, _)] ⟨rfl, rfl, rfl, rfl, rfl, rfl, rfl, trivial⟩ ?_
                                       refine WX.next ?_
                                       refine WC.region ?_
                                       refine WL.val rfl rfl rfl rfl (r_move rfl (ev_t rfl)) ?_
                                       refine WL.val rfl rfl rfl rfl (r_loadAgg (vs := [_, _, _]) rfl (ev_t rfl) agg_75 size_75 (Blk.cellsL hb3)) ?_
                                       refine WL.cons (SO.alloc rfl rfl rfl rfl (r_buildSlice (cs := #[_, _, _]) (vs := [(0, _)]) rfl ⟨⟨rfl, (ev_t rfl)⟩, trivial⟩ row_76 rfl rfl) ?_)
                                       intro w27 hu27 hB27 hz27
                                       have hs27 := hu27.size
                                       replace hU := hU.trans hu27 (by first | exact (fun _ _ h => h) | exact (fun _ _ h => h.elim) | (intro k hl hk; (try simp only [At, New, Grow, From, No] at hk ⊢); omega) | (intro k hl hk; first | (simp only [At, No] at hk; omega) | (have := hG2 k hk; omega) | (have := hG k hk; omega)))
                                       replace hF3 := hF3.upd hu27 (by first | exact (fun h => h) | (simp only [At, No]; omega) | (exact fun h => by have := hG _ h; omega) | (exact fun h => by have := hG2 _ h; omega))
                                       replace hO := hO.upd hu27 (by first | exact (fun _ _ _ h => h) | (intro k hk hl hS; have := hG k hk; first | (simp only [At, No] at hS; omega) | (have := hG2 k hS; omega)))
                                       replace hbc := hbc.upd hu27 (by first | exact (fun h => h) | (simp only [At, No]; omega) | (exact fun h => by have := hG _ h; omega) | (exact fun h => by have := hG2 _ h; omega))
                                       replace hbi := hbi.upd hu27 (by first | exact (fun h => h) | (simp only [At, No]; omega) | (exact fun h => by have := hG _ h; omega) | (exact fun h => by have := hG2 _ h; omega))
                                       replace hbn := hbn.upd hu27 (by first | exact (fun h => h) | (simp only [At, No]; omega) | (exact fun h => by have := hG _ h; omega) | (exact fun h => by have := hG2 _ h; omega))
                                       replace hT := hT.upd hu27 (by first | exact (fun _ _ _ h => h) | (intro k hk hl hS; have := hG2 k hk; simp only [At, No] at hS; omega))
                                       replace hb3 := hb3.upd hu27 (by first | exact (fun h => h) | (simp only [At, No]; omega) | (exact fun h => by have := hG _ h; omega) | (exact fun h => by have := hG2 _ h; omega))
                                       refine WL.cons (SO.append hT (Rd.of_blk (F := At _) (n := 1) (sz := 3) hB27 rfl rfl (by omega)) row_76 (by intro u hu; simp only [List.mem_cons, List.not_mem_nil, or_false, Array.toList] at hu; rcases hu with rfl | rfl | rfl <;> rfl) (le_maxLen (by omega)) (by omega) rfl (ev_t rfl) (ev_t rfl) rfl rfl rfl rfl ?_)
                                       intro v28 w28 hT2 hu28
                                       have hs28 := hu28.size
                                       replace hU := hU.trans hu28 (by first | exact (fun _ _ h => h) | exact (fun _ _ h => h.elim) | (intro k hl hk; (try simp only [At, New, Grow, From, No] at hk ⊢); omega) | (intro k hl hk; first | (simp only [At, No] at hk; omega) | (have := hG2 k hk; omega) | (have := hG k hk; omega)))
                                       replace hF3 := hF3.upd hu28 (by first | exact (fun h => h) | (simp only [At, No]; omega) | (exact fun h => by have := hG _ h; omega) | (exact fun h => by have := hG2 _ h; omega))
                                       replace hO := hO.upd hu28 (by first | exact (fun _ _ _ h => h) | (intro k hk hl hS; have := hG k hk; first | (simp only [At, No] at hS; omega) | (have := hG2 k hS; omega)))
                                       replace hbc := hbc.upd hu28 (by first | exact (fun h => h) | (simp only [At, No]; omega) | (exact fun h => by have := hG _ h; omega) | (exact fun h => by have := hG2 _ h; omega))
                                       replace hbi := hbi.upd hu28 (by first | exact (fun h => h) | (simp only [At, No]; omega) | (exact fun h => by have := hG _ h; omega) | (exact fun h => by have := hG2 _ h; omega))
                                       replace hbn := hbn.upd hu28 (by first | exact (fun h => h) | (simp only [At, No]; omega) | (exact fun h => by have := hG _ h; omega) | (exact fun h => by have := hG2 _ h; omega))
                                       replace hb3 := hb3.upd hu28 (by first | exact (fun h => h) | (simp only [At, No]; omega) | (exact fun h => by have := hG _ h; omega) | (exact fun h => by have := hG2 _ h; omega))
                                       obtain ⟨A28, c28, rfl, hc28⟩ := Own.form hT2
                                       refine WL.val rfl rfl rfl rfl (r_assign rfl (ev_t rfl)) ?_
                                       refine WL.nil ?_
                                       refine WX.keep [(1, _), (2, _), (3, _), (7, _), (8, _), (12, _)] ⟨rfl, rfl, rfl, rfl, rfl, rfl, trivial⟩ ?_
                                       refine WX.meet [(1, _), (2, _), (3, _), (7, _), (8, _), (12, _)] ⟨rfl, rfl, rfl, rfl, rfl, rfl, trivial⟩ ?_
                                       first
                                         | exact ⟨T1, A2, c2, G2, hse, (fun y hy => by rw [hT1e] at hy; split at hy <;> simp_all <;> omega), (by rw [hT1e]; split <;> simp), hU, by omega, hF3, hO, hT, hG2, rfl⟩
                                         | (have hT3 := Own.cast hT2 (show T1.flatMap triC ++ [I64 i.n, I64 d1, I64 t0] = (T1 ++ [(i.n, d1, t0)]).flatMap triC from by rw [List.flatMap_append]; rfl)
                                            exact ⟨T1 ++ [(i.n, d1, t0)], _, _, _, hse, hTbd, by rw [List.length_append]; simp; omega, hU, by omega, hF3, hO, by rw [List.length_append]; exact hT3, (fun k hk => by rcases hk with hk | hk; (have := hG2 k hk; omega); omega), by rw [List.length_append]; rfl⟩)
                                         | (have hT3 := Own.cast hT2 (show T1.flatMap triC ++ [I64 i.n, I64 (d0 + 1), I64 t0] = (T1 ++ [(i.n, d0 + 1, t0)]).flatMap triC from by rw [List.flatMap_append]; rfl)
                                            exact ⟨T1 ++ [(i.n, d0 + 1, t0)], _, _, _, hse, hTbd, by rw [List.length_append]; simp; omega, hU, by omega, hF3, hO, by rw [List.length_append]; exact hT3, (fun k hk => by rcases hk with hk | hk; (have := hG2 k hk; omega); omega), by rw [List.length_append]; rfl⟩)
                                    · try (exfalso; first | (simp at hc23; done) | (simp only [decide_eq_true_eq, decide_eq_false_iff_not, Bool.not_eq_true', Bool.not_eq_false', Bool.not_eq_true, Bool.not_eq_false] at hc23; omega) | omega)
                                      all_goals
                                       try simp only [decide_eq_true_eq, decide_eq_false_iff_not, Bool.not_eq_true', Bool.not_eq_false', Bool.not_eq_true, Bool.not_eq_false, Option.isNone_none, Option.isNone_some, Option.isSome_none, Option.isSome_some, ne_eq, Decidable.not_not] at hc23
                                       have hse : T1 ++ [(i.n, d1, t0)] = succsI i a d0 t0 := by
                                         have ht2 : t1 = t0 := by rw [ht1]; unfold dtI; rw [if_neg (by omega), if_neg (by omega), Int.add_zero]
                                         rw [hsucc, ← hT1e, if_pos (by omega), ht2]
                                       have hTbd : ∀ y ∈ T1 ++ [(i.n, d1, t0)], (a : Int) < y.1 ∧ 1 ≤ y.2.1 ∧ y.2.1 ≤ y.1 + 1 ∧ 0 ≤ y.2.2 ∧ y.2.2 ≤ y.1 := fun y hy => by
                                         rcases List.mem_append.1 hy with hy | hy
                                         · obtain rfl := hT1m y hy; simp only; omega
                                         · rw [List.mem_singleton] at hy; subst hy; simp only; omega
                                       refine WC.skip ?_
                                       refine WX.next ?_
                                       refine WC.region ?_
                                       refine WL.val rfl rfl rfl rfl (r_move rfl (ev_t rfl)) ?_
                                       refine WL.val rfl rfl rfl rfl (r_loadAgg (vs := [_, _, _]) rfl (ev_t rfl) agg_75 size_75 (Blk.cellsL hb3)) ?_
                                       refine WL.cons (SO.alloc rfl rfl rfl rfl (r_buildSlice (cs := #[_, _, _]) (vs := [(0, _)]) rfl ⟨⟨rfl, (ev_t rfl)⟩, trivial⟩ row_76 rfl rfl) ?_)
                                       intro w29 hu29 hB29 hz29
                                       have hs29 := hu29.size
                                       replace hU := hU.trans hu29 (by first | exact (fun _ _ h => h) | exact (fun _ _ h => h.elim) | (intro k hl hk; (try simp only [At, New, Grow, From, No] at hk ⊢); omega) | (intro k hl hk; first | (simp only [At, No] at hk; omega) | (have := hG2 k hk; omega) | (have := hG k hk; omega)))
                                       replace hF3 := hF3.upd hu29 (by first | exact (fun h => h) | (simp only [At, No]; omega) | (exact fun h => by have := hG _ h; omega) | (exact fun h => by have := hG2 _ h; omega))
                                       replace hO := hO.upd hu29 (by first | exact (fun _ _ _ h => h) | (intro k hk hl hS; have := hG k hk; first | (simp only [At, No] at hS; omega) | (have := hG2 k hS; omega)))
                                       replace hbc := hbc.upd hu29 (by first | exact (fun h => h) | (simp only [At, No]; omega) | (exact fun h => by have := hG _ h; omega) | (exact fun h => by have := hG2 _ h; omega))
                                       replace hbi := hbi.upd hu29 (by first | exact (fun h => h) | (simp only [At, No]; omega) | (exact fun h => by have := hG _ h; omega) | (exact fun h => by have := hG2 _ h; omega))
                                       replace hbn := hbn.upd hu29 (by first | exact (fun h => h) | (simp only [At, No]; omega) | (exact fun h => by have := hG _ h; omega) | (exact fun h => by have := hG2 _ h; omega))
                                       replace hT := hT.upd hu29 (by first | exact (fun _ _ _ h => h) | (intro k hk hl hS; have := hG2 k hk; simp only [At, No] at hS; omega))
                                       replace hb3 := hb3.upd hu29 (by first | exact (fun h => h) | (simp only [At, No]; omega) | (exact fun h => by have := hG _ h; omega) | (exact fun h => by have := hG2 _ h; omega))
                                       refine WL.cons (SO.append hT (Rd.of_blk (F := At _) (n := 1) (sz := 3) hB29 rfl rfl (by omega)) row_76 (by intro u hu; simp only [List.mem_cons, List.not_mem_nil, or_false, Array.toList] at hu; rcases hu with rfl | rfl | rfl <;> rfl) (le_maxLen (by omega)) (by omega) rfl (ev_t rfl) (ev_t rfl) rfl rfl rfl rfl ?_)
                                       intro v30 w30 hT2 hu30
                                       have hs30 := hu30.size
                                       replace hU := hU.trans hu30 (by first | exact (fun _ _ h => h) | exact (fun _ _ h => h.elim) | (intro k hl hk; (try simp only [At, New, Grow, From, No] at hk ⊢); omega) | (intro k hl hk; first | (simp only [At, No] at hk; omega) | (have := hG2 k hk; omega) | (have := hG k hk; omega)))
                                       replace hF3 := hF3.upd hu30 (by first | exact (fun h => h) | (simp only [At, No]; omega) | (exact fun h => by have := hG _ h; omega) | (exact fun h => by have := hG2 _ h; omega))
                                       replace hO := hO.upd hu30 (by first | exact (fun _ _ _ h => h) | (intro k hk hl hS; have := hG k hk; first | (simp only [At, No] at hS; omega) | (have := hG2 k hS; omega)))
                                       replace hbc := hbc.upd hu30 (by first | exact (fun h => h) | (simp only [At, No]; omega) | (exact fun h => by have := hG _ h; omega) | (exact fun h => by have := hG2 _ h; omega))
                                       replace hbi := hbi.upd hu30 (by first | exact (fun h => h) | (simp only [At, No]; omega) | (exact fun h => by have := hG _ h; omega) | (exact fun h => by have := hG2 _ h; omega))
                                       replace hbn := hbn.upd hu30 (by first | exact (fun h => h) | (simp only [At, No]; omega) | (exact fun h => by have := hG _ h; omega) | (exact fun h => by have := hG2 _ h; omega))
                                       replace hb3 := hb3.upd hu30 (by first | exact (fun h => h) | (simp only [At, No]; omega) | (exact fun h => by have := hG _ h; omega) | (exact fun h => by have := hG2 _ h; omega))
                                       obtain ⟨A30, c30, rfl, hc30⟩ := Own.form hT2
                                       refine WL.val rfl rfl rfl rfl (r_assign rfl (ev_t rfl)) ?_
                                       refine WL.nil ?_
                                       refine WX.keep [(1, _), (2, _), (3, _), (7, _), (8, _), (12, _)] ⟨rfl, rfl, rfl, rfl, rfl, rfl, trivial⟩ ?_
                                       refine WX.meet [(1, _), (2, _), (3, _), (7, _), (8, _), (12, _)] ⟨rfl, rfl, rfl, rfl, rfl, rfl, trivial⟩ ?_
                                       first
                                         | exact ⟨T1, A2, c2, G2, hse, (fun y hy => by rw [hT1e] at hy; split at hy <;> simp_all <;> omega), (by rw [hT1e]; split <;> simp), hU, by omega, hF3, hO, hT, hG2, rfl⟩
                                         | (have hT3 := Own.cast hT2 (show T1.flatMap triC ++ [I64 i.n, I64 d1, I64 t0] = (T1 ++ [(i.n, d1, t0)]).flatMap triC from by rw [List.flatMap_append]; rfl)
                                            exact ⟨T1 ++ [(i.n, d1, t0)], _, _, _, hse, hTbd, by rw [List.length_append]; simp; omega, hU, by omega, hF3, hO, by rw [List.length_append]; exact hT3, (fun k hk => by rcases hk with hk | hk; (have := hG2 k hk; omega); omega), by rw [List.length_append]; rfl⟩)
                                         | (have hT3 := Own.cast hT2 (show T1.flatMap triC ++ [I64 i.n, I64 (d0 + 1), I64 t0] = (T1 ++ [(i.n, d0 + 1, t0)]).flatMap triC from by rw [List.flatMap_append]; rfl)
                                            exact ⟨T1 ++ [(i.n, d0 + 1, t0)], _, _, _, hse, hTbd, by rw [List.length_append]; simp; omega, hU, by omega, hF3, hO, by rw [List.length_append]; exact hT3, (fun k hk => by rcases hk with hk | hk; (have := hG2 k hk; omega); omega), by rw [List.length_append]; rfl⟩)
                            · try (exfalso; first | (simp at hc19; done) | (simp only [decide_eq_true_eq, decide_eq_false_iff_not, Bool.not_eq_true', Bool.not_eq_false', Bool.not_eq_true, Bool.not_eq_false] at hc19; omega) | omega)
                              all_goals
                               try simp only [decide_eq_true_eq, decide_eq_false_iff_not, Bool.not_eq_true', Bool.not_eq_false', Bool.not_eq_true, Bool.not_eq_false, Option.isNone_none, Option.isNone_some, Option.isSome_none, Option.isSome_some, ne_eq, Decidable.not_not] at hc19
                               have ho19 : ¬ (i.op = 12 ∨ i.op = 13 ∨ i.op = 24) := fun h => by have := hb19.2 h; simp_all
                               have hse : T1 = succsI i a d0 t0 := by rw [hsucc, ← hT1e, if_neg (by omega), if_neg (by omega), List.append_nil]
                               refine WC.skip ?_
                               refine WX.meet [(1, _), (2, _), (3, _), (7, _), (8, _), (12, _)] ⟨rfl, rfl, rfl, rfl, rfl, rfl, trivial⟩ ?_
                               first
                                 | exact ⟨T1, A2, c2, G2, hse, (fun y hy => by rw [hT1e] at hy; split at hy <;> simp_all <;> omega), (by rw [hT1e]; split <;> simp), hU, by omega, hF3, hO, hT, hG2, rfl⟩
                                 | (have hT3 := Own.cast hT2 (show T1.flatMap triC ++ [I64 i.n, I64 d1, I64 t0] = (T1 ++ [(i.n, d1, t0)]).flatMap triC from by rw [List.flatMap_append]; rfl)
                                    exact ⟨T1 ++ [(i.n, d1, t0)], _, _, _, hse, hTbd, by rw [List.length_append]; simp; omega, hU, by omega, hF3, hO, by rw [List.length_append]; exact hT3, (fun k hk => by rcases hk with hk | hk; (have := hG2 k hk; omega); omega), by rw [List.length_append]; rfl⟩)
                                 | (have hT3 := Own.cast hT2 (show T1.flatMap triC ++ [I64 i.n, I64 (d0 + 1), I64 t0] = (T1 ++ [(i.n, d0 + 1, t0)]).flatMap triC from by rw [List.flatMap_append]; rfl)
                                    exact ⟨T1 ++ [(i.n, d0 + 1, t0)], _, _, _, hse, hTbd, by rw [List.length_append]; simp; omega, hU, by omega, hF3, hO, by rw [List.length_append]; exact hT3, (fun k hk => by rcases hk with hk | hk; (have := hG2 k hk; omega); omega), by rw [List.length_append]; rfl⟩)
                        · clear hU hF3 hO hbc hbi hbn hbnl hT hG2
                          rintro E wI ⟨T, A2, c2, G2, hTs, hTb, hTl, hU, hbnl, hF3, hO, hT, hG2, rfl⟩
                          refine WC.seq ?_
                          refine WC.region ?_
                          refine WL.val rfl rfl rfl rfl (r_assign rfl ev_c) ?_
                          refine WL.nil ?_
                          refine WX.keep [(1, _), (2, _), (3, _), (7, _), (8, _), (12, _), (14, _)] ⟨rfl, rfl, rfl, rfl, rfl, rfl, rfl, trivial⟩ ?_
                          refine WX.next ?_
                          refine WC.block ?_
                          -- loop 2: live [1, 2, 3, 7, 8, 12, 14]
                          refine WC.keep [(1, _), (2, _), (3, _), (7, _), (8, _), (12, _), (14, _)] ⟨rfl, rfl, rfl, rfl, rfl, rfl, rfl, trivial⟩ ?_
                          refine WC.loop (fun q E w' => ∃ (j : Nat) (l : List (Int × Int × Int)) (A1 : Option Addr) (c1 : Nat) (G : Nat → Prop), j ≤ T.length ∧ q = T.length - j ∧ Upd No w w' ∧ wI.heap.size ≤ w'.heap.size ∧ bF < w'.heap.size ∧ Blk w' bF #[.int .i64 F.caps, .slice (some ⟨bo, oo, none⟩) n c] 54 ∧ Own w' G 75 3 (.slice A1 l.length c1) l.length (l.flatMap triC) ∧ (∀ k, G k → bF < k ∧ k < w'.heap.size ∧ ¬ G2 k) ∧ Rd w' G2 (.slice A2 T.length c2) T.length 3 (T.flatMap triC) ∧ InvR F all globs k l ∧ l[k]? = some ((a : Int), d0, t0) ∧ (∀ y ∈ T.take j, y.1 < (n : Int) ∧ y ∈ l) ∧   E = [(1, allv), (2, .int .i64 globs), (3, .pointer (some ⟨bF, 0, none⟩)), (7, .slice A1 l.length c1), (8, .int .i64 (k : Int)), (12, .slice A2 T.length c2), (14, .int .i64 (j : Int))]) (T.length) ?_ ?_
                          · exact ⟨0, l, _, c1, G, by omega, by omega, hU, Nat.le_refl _, by omega, hF3, hO, (fun k hk => ⟨(hG k hk).1, by have := hG k hk; omega, fun h => by have := hG k hk; have := hG2 k h; omega⟩), hT.rd (by omega), hI, hx, (fun y hy => by simp at hy), rfl⟩
                          · clear hU hF3 hO hT hI hx hG hr hln hcx
                            rintro q E wB ⟨j, l, A1, c1, G, hj, rfl, hU, hwI, hbl, hF3, hO, hG, hTr, hI, hx, hdone, rfl⟩
                            have hln := hI.len
                            rw [hn] at hln
                            have hkl := (List.getElem?_eq_some_iff.1 hx).1
                            have hw0 := hU.size
                            have hr := hO.rd (by omega)
                            obtain ⟨bl, ol, rfl, _⟩ := hr.open (by omega)
                            refine WC.seq ?_
                            refine WC.seq ?_
                            refine WC.region ?_
                            refine WL.val rfl rfl rfl rfl (r_move rfl (ev_t rfl)) ?_
                            refine WL.val rfl rfl rfl rfl (r_move rfl (ev_t rfl)) ?_
                            refine WL.val rfl rfl rfl rfl (r_lenSlice (ts := #[]) rfl (ev_t rfl) elem_76) ?_
                            refine WL.val rfl rfl rfl rfl (r_lss rfl (ev_t rfl) (ev_t rfl)) ?_
                            refine WL.nil ?_
                            refine WX.keep [(1, _), (2, _), (3, _), (7, _), (8, _), (12, _), (14, _), (143, _)] ⟨rfl, rfl, rfl, rfl, rfl, rfl, rfl, rfl, trivial⟩ ?_
                            refine WX.next ?_
                            refine WC.cond rfl (ev_t rfl) (fun hc27 => ?_) (fun hc27 => ?_)
                            · try (exfalso; first | (simp at hc27; done) | (simp only [decide_eq_true_eq, decide_eq_false_iff_not, Bool.not_eq_true', Bool.not_eq_false', Bool.not_eq_true, Bool.not_eq_false] at hc27; omega) | omega)
                              all_goals
                               try simp only [decide_eq_true_eq, decide_eq_false_iff_not, Bool.not_eq_true', Bool.not_eq_false', Bool.not_eq_true, Bool.not_eq_false, Option.isNone_none, Option.isNone_some, Option.isSome_none, Option.isSome_some, ne_eq, Decidable.not_not] at hc27
                               obtain ⟨⟨yn, yd, yt⟩, hy⟩ : ∃ y, T[j]? = some y := ⟨_, List.getElem?_eq_getElem (by omega)⟩
                               have hcy := flatMap_get triC_len hy
                               obtain ⟨y1, y2, y3, y4, y5⟩ := hTb _ (List.mem_of_getElem? hy)
                               simp only at y1 y2 y3 y4 y5
                               have hys : (yn, yd, yt) ∈ succsI i a d0 t0 := by rw [← hTs]; exact List.mem_of_getElem? hy
                               obtain ⟨bt, ot, rfl, _⟩ := hTr.open (by omega)
                               refine WC.skip ?_
                               refine WX.next ?_
                               refine WC.seq ?_
                               refine WC.block ?_
                               refine WC.seq ?_
                               refine WC.seq ?_
                               refine WC.draws' (fun u0_ u1_ => Upd No u0_ u1_) (fun j => [0, 0, 0, 0, 0, 0, 1, 0, 0].getD j 0) (.calm 0 (.calm 1 (.calm 2 (.calm 3 (.calm 5 (.held 4 (.one 6 (.calm 7 (.calm 8 (.done)))))))))) mixed (by kernel_rfl) (by repeat (first | with_reducible exact Deaf.body | with_reducible apply Deaf.then | with_reducible apply Deaf.block)) ?_
                               intro w31 hu31
                               have hz31 := congrArg Array.size hu31.2.2.2
                               replace hu31 := Upd.of_draw hu31
                               have hs31 := hu31.size
                               replace hU := hU.trans hu31 (by first | exact (fun _ _ h => h) | exact (fun _ _ h => h.elim) | (intro k hl hk; (try simp only [At, New, Grow, From, No] at hk ⊢); omega) | (intro k hl hk; first | (simp only [At, No] at hk; omega) | (have := hG2 k hk; omega) | (have := hG k hk; omega)))
                               replace hF3 := hF3.upd hu31 (by first | exact (fun h => h) | (simp only [At, No]; omega) | (exact fun h => by have := hG _ h; omega) | (exact fun h => by have := hG2 _ h; omega))
                               replace hO := hO.upd hu31 (by first | exact (fun _ _ _ h => h) | (intro k hk hl hS; have := hG k hk; first | (simp only [At, No] at hS; omega) | (have := hG2 k hS; omega)))
                               replace hTr := hTr.upd hu31 (by first | exact (fun _ _ _ h => h) | (intro k hk hl hS; have := hG k hS; exact this.2.2 hk))
                               replace hr := hr.upd hu31 (by first | exact (fun _ _ _ h => h) | (intro k hk hl hS; have := hG k hk; simp only [At, No] at hS; omega))
                               have hS29 := Upd.refl No w31
                               refine WN.calm _ rfl rfl rfl rfl rfl (fun _ => r_move rfl (ev_t rfl)) ?_
                               refine WN.calm _ rfl rfl rfl rfl rfl (fun _ => r_move rfl (ev_t rfl)) ?_
                               refine WN.calm _ rfl rfl rfl rfl rfl (fun _ => r_indexAddr rfl (ev_t rfl) (ev_t rfl) elem_76 size_75 (by omega) (by omega)) ?_
                               first | refine WN.calm _ rfl rfl rfl rfl rfl (fun _ => r_field0 rfl (ev_t rfl) fld_75_0) ?_ | refine WN.calm _ rfl rfl rfl rfl rfl (fun _ => r_fieldAt rfl (ev_t rfl) fld_75_0) ?_
                               first | refine WN.calm _ rfl rfl rfl rfl rfl (fun _ => r_field0 rfl (ev_t rfl) fld_54_1) ?_ | refine WN.calm _ rfl rfl rfl rfl rfl (fun _ => r_fieldAt rfl (ev_t rfl) fld_54_1) ?_
                               refine WN.held _ rfl rfl rfl rfl rfl hS29 (fun w' hS => r_load rfl (ev_t rfl) flat_3 (Rd.cell (hTr.upd hS (fun _ _ _ h => h)) (j := j * 3) (by omega) (hcy 0 _ rfl))) ?_
                               refine WN.step _ rfl (SO.val rfl rfl rfl rfl (r_load rfl (ev_t rfl) flat_52 (Blk.cell hF3 rfl)) ?_)
                               refine ⟨hS29, ?_⟩
                               refine WN.calm _ rfl rfl rfl rfl rfl (fun _ => r_lenSlice (ts := #[]) rfl (ev_t rfl) elem_52) ?_
                               refine WN.calm _ rfl rfl rfl rfl rfl (fun _ => r_geq rfl (ev_t rfl) (ev_t rfl)) ?_
                               refine WN.done ?_
                               refine WX.keep [(1, _), (2, _), (3, _), (7, _), (8, _), (12, _), (14, _), (154, _)] ⟨rfl, rfl, rfl, rfl, rfl, rfl, rfl, rfl, trivial⟩ ?_
                               refine WX.next ?_
                               refine WC.cond rfl (ev_t rfl) (fun hc29 => ?_) (fun hc29 => ?_)
                               · try (exfalso; first | (simp at hc29; done) | (simp only [decide_eq_true_eq, decide_eq_false_iff_not, Bool.not_eq_true', Bool.not_eq_false', Bool.not_eq_true, Bool.not_eq_false] at hc29; omega) | omega)
                                 all_goals
                                  try simp only [decide_eq_true_eq, decide_eq_false_iff_not, Bool.not_eq_true', Bool.not_eq_false', Bool.not_eq_true, Bool.not_eq_false, Option.isNone_none, Option.isNone_some, Option.isSome_none, Option.isSome_some, ne_eq, Decidable.not_not] at hc29
                                  refine WC.seq ?_
                                  refine WC.region ?_
                                  refine WL.val rfl rfl rfl rfl (r_assign rfl ev_c) ?_
                                  refine WL.nil ?_
                                  refine WX.keep [(6, _)] ⟨rfl, trivial⟩ ?_
                                  refine WX.next ?_
                                  refine WC.ret ?_
                                  refine WX.thenRet ?_
                                  refine WX.blockRet ?_
                                  refine WX.thenRet ?_
                                  refine WX.thenRet ?_
                                  refine WX.blockRet ?_
                                  refine WX.blockRet ?_
                                  refine WX.thenRet ?_
                                  refine WX.thenRet ?_
                                  refine WX.blockRet ?_
                                  refine WX.thenRet ?_
                                  refine WX.retE1 rfl rfl ?_
                                  refine ⟨⟨false, rfl, fun _ => rfl, fun hp _ => ⟨(fun h => by cases h), fun hg => ?_⟩⟩, hU⟩
                                  obtain ⟨L, hL⟩ := hg
                                  have h9 := hI.lb hp L hL _ (List.mem_of_getElem? hx)
                                  obtain ⟨g1, g2, _⟩ := good_succ hL h9 (by omega) (by simpa using hi) (y := (yn, yd, yt)) (by simpa using hys)
                                  simp only at g1 g2
                                  omega
                               · try (exfalso; first | (simp at hc29; done) | (simp only [decide_eq_true_eq, decide_eq_false_iff_not, Bool.not_eq_true', Bool.not_eq_false', Bool.not_eq_true, Bool.not_eq_false] at hc29; omega) | omega)
                                 all_goals
                                  try simp only [decide_eq_true_eq, decide_eq_false_iff_not, Bool.not_eq_true', Bool.not_eq_false', Bool.not_eq_true, Bool.not_eq_false, Option.isNone_none, Option.isNone_some, Option.isSome_none, Option.isSome_some, ne_eq, Decidable.not_not] at hc29
                                  refine WC.skip ?_
                                  refine WX.next ?_
                                  refine WC.seq ?_
                                  refine WC.region ?_
                                  refine WL.val rfl rfl rfl rfl (r_assign rfl ev_c) ?_
                                  refine WL.nil ?_
                                  refine WX.keep [(1, _), (2, _), (3, _), (7, _), (8, _), (12, _), (14, _), (15, _)] ⟨rfl, rfl, rfl, rfl, rfl, rfl, rfl, rfl, trivial⟩ ?_
                                  refine WX.next ?_
                                  refine WC.seq ?_
                                  refine WC.seq ?_
                                  refine WC.region ?_
                                  refine WL.val rfl rfl rfl rfl (r_assign rfl ev_c) ?_
                                  refine WL.nil ?_
                                  refine WX.keep [(1, _), (2, _), (3, _), (7, _), (8, _), (12, _), (14, _), (15, _), (16, _)] ⟨rfl, rfl, rfl, rfl, rfl, rfl, rfl, rfl, rfl, trivial⟩ ?_
                                  refine WX.next ?_
                                  refine WC.block ?_
                                  -- loop 3: live [1, 2, 3, 7, 8, 12, 14, 15, 16]
                                  refine WC.keep [(1, _), (2, _), (3, _), (7, _), (8, _), (12, _), (14, _), (15, _), (16, _)] ⟨rfl, rfl, rfl, rfl, rfl, rfl, rfl, rfl, rfl, trivial⟩ ?_
                                  refine WC.loop (fun q E w' => ∃ (m : Nat) (fb : Bool), m ≤ l.length ∧ q = l.length - m ∧ Upd No w w' ∧ wB.heap.size ≤ w'.heap.size ∧ Blk w' bF #[.int .i64 F.caps, .slice (some ⟨bo, oo, none⟩) n c] 54 ∧ Own w' G 75 3 (.slice (some ⟨bl, ol, none⟩) l.length c1) l.length (l.flatMap triC) ∧ Rd w' G2 (.slice (some ⟨bt, ot, none⟩) T.length c2) T.length 3 (T.flatMap triC) ∧ (fb = true → (yn, yd, yt) ∈ l) ∧ (fb = false → ∀ z ∈ l.take m, z.1 ≠ yn) ∧   E = [(1, allv), (2, .int .i64 globs), (3, .pointer (some ⟨bF, 0, none⟩)), (7, .slice (some ⟨bl, ol, none⟩) l.length c1), (8, .int .i64 (k : Int)), (12, .slice (some ⟨bt, ot, none⟩) T.length c2), (14, .int .i64 (j : Int)), (15, .bool fb), (16, .int .i64 (m : Int))]) (l.length) ?_ ?_
                                  · exact ⟨0, false, by omega, by omega, hU, by omega, hF3, hO, hTr, (fun h => by cases h), (fun _ z hz => by simp at hz), rfl⟩
                                  · clear hU hF3 hO hTr hr
                                    rintro q E wC ⟨m, fb, hm, rfl, hU, hwC, hF3, hO, hTr, hf1, hf2, rfl⟩
                                    have hr := hO.rd (by omega)
                                    refine WC.seq ?_
                                    refine WC.seq ?_
                                    refine WC.region ?_
                                    refine WL.val rfl rfl rfl rfl (r_move rfl (ev_t rfl)) ?_
                                    refine WL.val rfl rfl rfl rfl (r_move rfl (ev_t rfl)) ?_
                                    refine WL.val rfl rfl rfl rfl (r_lenSlice (ts := #[]) rfl (ev_t rfl) elem_76) ?_
                                    refine WL.val rfl rfl rfl rfl (r_lss rfl (ev_t rfl) (ev_t rfl)) ?_
                                    refine WL.nil ?_
                                    refine WX.keep [(1, _), (2, _), (3, _), (7, _), (8, _), (12, _), (14, _), (15, _), (16, _), (158, _)] ⟨rfl, rfl, rfl, rfl, rfl, rfl, rfl, rfl, rfl, rfl, trivial⟩ ?_
                                    refine WX.next ?_
                                    refine WC.cond rfl (ev_t rfl) (fun hc33 => ?_) (fun hc33 => ?_)
                                    · try (exfalso; first | (simp at hc33; done) | (simp only [decide_eq_true_eq, decide_eq_false_iff_not, Bool.not_eq_true', Bool.not_eq_false', Bool.not_eq_true, Bool.not_eq_false] at hc33; omega) | omega)
                                      all_goals
                                       try simp only [decide_eq_true_eq, decide_eq_false_iff_not, Bool.not_eq_true', Bool.not_eq_false', Bool.not_eq_true, Bool.not_eq_false, Option.isNone_none, Option.isNone_some, Option.isSome_none, Option.isSome_some, ne_eq, Decidable.not_not] at hc33
                                       obtain ⟨⟨zn, zd, zt⟩, hz⟩ : ∃ z, l[m]? = some z := ⟨_, List.getElem?_eq_getElem (by omega)⟩
                                       have hcz := flatMap_get triC_len hz
                                       refine WC.skip ?_
                                       refine WX.next ?_
                                       refine WC.seq ?_
                                       refine WC.block ?_
                                       refine WC.seq ?_
                                       refine WC.draws' (fun u0_ u1_ => Upd No u0_ u1_) (fun j => [0, 0, 0, 0, 0, 0, 0, 0, 0, 1, 0].getD j 0) (.calm 0 (.calm 1 (.calm 2 (.calm 3 (.calm 5 (.calm 6 (.calm 7 (.calm 8 (.held 4 (.one 9 (.calm 10 (.done)))))))))))) mixed (by kernel_rfl) (by repeat (first | with_reducible exact Deaf.body | with_reducible apply Deaf.then | with_reducible apply Deaf.block)) ?_
                                       intro w32 hu32
                                       have hz32 := congrArg Array.size hu32.2.2.2
                                       replace hu32 := Upd.of_draw hu32
                                       have hs32 := hu32.size
                                       replace hU := hU.trans hu32 (by first | exact (fun _ _ h => h) | exact (fun _ _ h => h.elim) | (intro k hl hk; (try simp only [At, New, Grow, From, No] at hk ⊢); omega) | (intro k hl hk; first | (simp only [At, No] at hk; omega) | (have := hG2 k hk; omega) | (have := hG k hk; omega)))
                                       replace hF3 := hF3.upd hu32 (by first | exact (fun h => h) | (simp only [At, No]; omega) | (exact fun h => by have := hG _ h; omega) | (exact fun h => by have := hG2 _ h; omega))
                                       replace hO := hO.upd hu32 (by first | exact (fun _ _ _ h => h) | (intro k hk hl hS; have := hG k hk; first | (simp only [At, No] at hS; omega) | (have := hG2 k hS; omega)))
                                       replace hTr := hTr.upd hu32 (by first | exact (fun _ _ _ h => h) | (intro k hk hl hS; have := hG k hS; exact this.2.2 hk))
                                       replace hr := hr.upd hu32 (by first | exact (fun _ _ _ h => h) | (intro k hk hl hS; have := hG k hk; simp only [At, No] at hS; omega))
                                       have hS35 := Upd.refl No w32
                                       refine WN.calm _ rfl rfl rfl rfl rfl (fun _ => r_move rfl (ev_t rfl)) ?_
                                       refine WN.calm _ rfl rfl rfl rfl rfl (fun _ => r_move rfl (ev_t rfl)) ?_
                                       refine WN.calm _ rfl rfl rfl rfl rfl (fun _ => r_indexAddr rfl (ev_t rfl) (ev_t rfl) elem_76 size_75 (by omega) (by omega)) ?_
                                       first | refine WN.calm _ rfl rfl rfl rfl rfl (fun _ => r_field0 rfl (ev_t rfl) fld_75_0) ?_ | refine WN.calm _ rfl rfl rfl rfl rfl (fun _ => r_fieldAt rfl (ev_t rfl) fld_75_0) ?_
                                       refine WN.calm _ rfl rfl rfl rfl rfl (fun _ => r_move rfl (ev_t rfl)) ?_
                                       refine WN.calm _ rfl rfl rfl rfl rfl (fun _ => r_move rfl (ev_t rfl)) ?_
                                       refine WN.calm _ rfl rfl rfl rfl rfl (fun _ => r_indexAddr rfl (ev_t rfl) (ev_t rfl) elem_76 size_75 (by omega) (by omega)) ?_
                                       first | refine WN.calm _ rfl rfl rfl rfl rfl (fun _ => r_field0 rfl (ev_t rfl) fld_75_0) ?_ | refine WN.calm _ rfl rfl rfl rfl rfl (fun _ => r_fieldAt rfl (ev_t rfl) fld_75_0) ?_
                                       refine WN.held _ rfl rfl rfl rfl rfl hS35 (fun w' hS => r_load rfl (ev_t rfl) flat_3 (Rd.cell (hr.upd hS (fun _ _ _ h => h)) (j := m * 3) (by omega) (hcz 0 _ rfl))) ?_
                                       refine WN.step _ rfl (SO.val rfl rfl rfl rfl (r_load rfl (ev_t rfl) flat_3 (Rd.cell hTr (j := j * 3) (by omega) (hcy 0 _ rfl))) ?_)
                                       refine ⟨hS35, ?_⟩
                                       refine WN.calm _ rfl rfl rfl rfl rfl (fun _ => r_eql rfl (ev_t rfl) (ev_t rfl)) ?_
                                       refine WN.done ?_
                                       refine WX.keep [(1, _), (2, _), (3, _), (7, _), (8, _), (12, _), (14, _), (15, _), (16, _), (171, _)] ⟨rfl, rfl, rfl, rfl, rfl, rfl, rfl, rfl, rfl, rfl, trivial⟩ ?_
                                       refine WX.next ?_
                                       refine WC.cond rfl (ev_t rfl) (fun hc35 => ?_) (fun hc35 => ?_)
                                       · try (exfalso; first | (simp at hc35; done) | (simp only [decide_eq_true_eq, decide_eq_false_iff_not, Bool.not_eq_true', Bool.not_eq_false', Bool.not_eq_true, Bool.not_eq_false] at hc35; omega) | omega)
                                         all_goals
                                          try simp only [decide_eq_true_eq, decide_eq_false_iff_not, Bool.not_eq_true', Bool.not_eq_false', Bool.not_eq_true, Bool.not_eq_false, Option.isNone_none, Option.isNone_some, Option.isSome_none, Option.isSome_some, ne_eq, Decidable.not_not] at hc35
                                          refine WC.seq ?_
                                          refine WC.region ?_
                                          refine WL.val rfl rfl rfl rfl (r_assign rfl ev_c) ?_
                                          refine WL.nil ?_
                                          refine WX.keep [(1, _), (2, _), (3, _), (7, _), (8, _), (12, _), (14, _), (15, _), (16, _)] ⟨rfl, rfl, rfl, rfl, rfl, rfl, rfl, rfl, rfl, trivial⟩ ?_
                                          refine WX.next ?_
                                          refine WC.seq ?_
                                          refine WC.draws' (fun u0_ u1_ => Upd No u0_ u1_) (fun j => [0, 0, 0, 0, 0, 0, 0, 1, 0].getD j 0) (.calm 0 (.calm 1 (.calm 2 (.calm 4 (.calm 5 (.calm 6 (.held 3 (.one 7 (.calm 8 (.done)))))))))) mixed (by kernel_rfl) (by repeat (first | with_reducible exact Deaf.body | with_reducible apply Deaf.then | with_reducible apply Deaf.block)) ?_
                                          intro w33 hu33
                                          have hz33 := congrArg Array.size hu33.2.2.2
                                          replace hu33 := Upd.of_draw hu33
                                          have hs33 := hu33.size
                                          replace hU := hU.trans hu33 (by first | exact (fun _ _ h => h) | exact (fun _ _ h => h.elim) | (intro k hl hk; (try simp only [At, New, Grow, From, No] at hk ⊢); omega) | (intro k hl hk; first | (simp only [At, No] at hk; omega) | (have := hG2 k hk; omega) | (have := hG k hk; omega)))
                                          replace hF3 := hF3.upd hu33 (by first | exact (fun h => h) | (simp only [At, No]; omega) | (exact fun h => by have := hG _ h; omega) | (exact fun h => by have := hG2 _ h; omega))
                                          replace hO := hO.upd hu33 (by first | exact (fun _ _ _ h => h) | (intro k hk hl hS; have := hG k hk; first | (simp only [At, No] at hS; omega) | (have := hG2 k hS; omega)))
                                          replace hTr := hTr.upd hu33 (by first | exact (fun _ _ _ h => h) | (intro k hk hl hS; have := hG k hS; exact this.2.2 hk))
                                          replace hr := hr.upd hu33 (by first | exact (fun _ _ _ h => h) | (intro k hk hl hS; have := hG k hk; simp only [At, No] at hS; omega))
                                          have hS37 := Upd.refl No w33
                                          refine WN.calm _ rfl rfl rfl rfl rfl (fun _ => r_move rfl (ev_t rfl)) ?_
                                          refine WN.calm _ rfl rfl rfl rfl rfl (fun _ => r_move rfl (ev_t rfl)) ?_
                                          refine WN.calm _ rfl rfl rfl rfl rfl (fun _ => r_indexAddr rfl (ev_t rfl) (ev_t rfl) elem_76 size_75 (by omega) (by omega)) ?_
                                          refine WN.calm _ rfl rfl rfl rfl rfl (fun _ => r_move rfl (ev_t rfl)) ?_
                                          refine WN.calm _ rfl rfl rfl rfl rfl (fun _ => r_move rfl (ev_t rfl)) ?_
                                          refine WN.calm _ rfl rfl rfl rfl rfl (fun _ => r_indexAddr rfl (ev_t rfl) (ev_t rfl) elem_76 size_75 (by omega) (by omega)) ?_
                                          refine WN.held _ rfl rfl rfl rfl rfl hS37 (fun w' hS => r_loadAgg (vs := [_, _, _]) rfl (ev_t rfl) agg_75 size_75 (Rd.cellsL (us := [I64 zn, I64 zd, I64 zt]) (hr.upd hS (fun _ _ _ h => h)) (i := m * 3) (by omega) hcz)) ?_
                                          refine WN.step _ rfl (SO.val rfl rfl rfl rfl (r_loadAgg (vs := [_, _, _]) rfl (ev_t rfl) agg_75 size_75 (Rd.cellsL (us := [I64 yn, I64 yd, I64 yt]) hTr (i := j * 3) (by omega) hcy)) ?_)
                                          refine ⟨hS37, ?_⟩
                                          refine WN.calm _ rfl rfl rfl rfl rfl (fun _ => r_neqStruct rfl (ev_t rfl) (ev_t rfl) seenK conf3 conf3) ?_
                                          refine WN.done ?_
                                          refine WX.keep [(1, _), (2, _), (3, _), (7, _), (8, _), (12, _), (14, _), (15, _), (16, _), (180, _)] ⟨rfl, rfl, rfl, rfl, rfl, rfl, rfl, rfl, rfl, rfl, trivial⟩ ?_
                                          refine WX.next ?_
                                          refine WC.cond rfl (ev_t rfl) (fun hc37 => ?_) (fun hc37 => ?_)
                                          · try (exfalso; first | (simp at hc37; done) | (simp only [decide_eq_true_eq, decide_eq_false_iff_not, Bool.not_eq_true', Bool.not_eq_false', Bool.not_eq_true, Bool.not_eq_false] at hc37; omega) | omega)
                                            all_goals
                                             try simp only [decide_eq_true_eq, decide_eq_false_iff_not, Bool.not_eq_true', Bool.not_eq_false', Bool.not_eq_true, Bool.not_eq_false, Option.isNone_none, Option.isNone_some, Option.isSome_none, Option.isSome_some, ne_eq, Decidable.not_not] at hc37
                                             refine WC.seq ?_
                                             refine WC.region ?_
                                             refine WL.val rfl rfl rfl rfl (r_assign rfl ev_c) ?_
                                             refine WL.nil ?_
                                             refine WX.keep [(6, _)] ⟨rfl, trivial⟩ ?_
                                             refine WX.next ?_
                                             refine WC.ret ?_
                                             refine WX.blockRet ?_
                                             refine WX.thenRet ?_
                                             refine WX.thenRet ?_
                                             refine WX.blockRet ?_
                                             refine WX.thenRet ?_
                                             refine WX.blockRet ?_
                                             refine WX.thenRet ?_
                                             refine WX.thenRet ?_
                                             refine WX.blockRet ?_
                                             refine WX.blockRet ?_
                                             refine WX.thenRet ?_
                                             refine WX.thenRet ?_
                                             refine WX.blockRet ?_
                                             refine WX.thenRet ?_
                                             refine WX.retE1 rfl rfl ?_
                                             refine ⟨⟨false, rfl, fun _ => rfl, fun hp _ => ⟨(fun h => by cases h), fun hg => ?_⟩⟩, hU⟩
                                             obtain ⟨L, hL⟩ := hg
                                             have h9 := hI.lb hp L hL _ (List.mem_of_getElem? hx)
                                             obtain ⟨_, _, g3⟩ := good_succ hL h9 (by omega) (by simpa using hi) (y := (yn, yd, yt)) (by simpa using hys)
                                             have g4 := hI.lb hp L hL _ (List.mem_of_getElem? hz)
                                             simp only at g3 g4
                                             rw [hc35, g3] at g4
                                             simp only [Option.some.injEq, Prod.mk.injEq] at g4
                                             rw [same3, hc35, g4.1, g4.2] at hc37
                                             simp at hc37
                                          · try (exfalso; first | (simp at hc37; done) | (simp only [decide_eq_true_eq, decide_eq_false_iff_not, Bool.not_eq_true', Bool.not_eq_false', Bool.not_eq_true, Bool.not_eq_false] at hc37; omega) | omega)
                                            all_goals
                                             try simp only [decide_eq_true_eq, decide_eq_false_iff_not, Bool.not_eq_true', Bool.not_eq_false', Bool.not_eq_true, Bool.not_eq_false, Option.isNone_none, Option.isNone_some, Option.isSome_none, Option.isSome_some, ne_eq, Decidable.not_not] at hc37
                                             refine WC.skip ?_
                                             refine WX.blockNormal ?_
                                             refine WX.next ?_
                                             refine WC.region ?_
                                             refine WL.val rfl rfl rfl rfl (r_move rfl (ev_t rfl)) ?_
                                             first | refine WL.val rfl rfl rfl rfl (r_addN rfl (ev_t rfl) ev_c (by simp only [inK]; omega)) ?_ | refine WL.val rfl rfl rfl rfl (r_add rfl (ev_t rfl) ev_c) ?_
                                             refine WL.val rfl rfl rfl rfl (r_assign rfl (ev_t rfl)) ?_
                                             refine WL.nil ?_
                                             refine WX.keep [(1, _), (2, _), (3, _), (7, _), (8, _), (12, _), (14, _), (15, _), (16, _)] ⟨rfl, rfl, rfl, rfl, rfl, rfl, rfl, rfl, rfl, trivial⟩ ?_
                                             refine WX.meet [(1, _), (2, _), (3, _), (7, _), (8, _), (12, _), (14, _), (15, _), (16, _)] ⟨rfl, rfl, rfl, rfl, rfl, rfl, rfl, rfl, rfl, trivial⟩ ?_
                                             first
                                               | (refine ⟨l.length - (m + 1), by omega, m + 1, true, by omega, rfl, hU, by omega, hF3, hO, hTr, (fun _ => ?_), (fun h => by cases h), rfl⟩
                                                  rw [same3] at hc37
                                                  simp only [Bool.and_eq_true, decide_eq_true_eq, Bool.not_eq_true, Bool.not_eq_false', Bool.not_eq_false] at hc37
                                                  obtain ⟨rfl, rfl, rfl⟩ := hc37
                                                  exact List.mem_of_getElem? hz)
                                               | (refine ⟨l.length - (m + 1), by omega, m + 1, fb, by omega, rfl, hU, by omega, hF3, hO, hTr, hf1, (fun h z hz' => ?_), rfl⟩
                                                  rw [List.take_add_one, hz] at hz'
                                                  rcases List.mem_append.1 hz' with hz' | hz'
                                                  · exact hf2 h z hz'
                                                  · simp only [Option.toList_some, List.mem_singleton] at hz'
                                                    subst hz'
                                                    exact hc35)
                                       · try (exfalso; first | (simp at hc35; done) | (simp only [decide_eq_true_eq, decide_eq_false_iff_not, Bool.not_eq_true', Bool.not_eq_false', Bool.not_eq_true, Bool.not_eq_false] at hc35; omega) | omega)
                                         all_goals
                                          try simp only [decide_eq_true_eq, decide_eq_false_iff_not, Bool.not_eq_true', Bool.not_eq_false', Bool.not_eq_true, Bool.not_eq_false, Option.isNone_none, Option.isNone_some, Option.isSome_none, Option.isSome_some, ne_eq, Decidable.not_not] at hc35
                                          refine WC.skip ?_
                                          refine WX.blockNormal ?_
                                          refine WX.next ?_
                                          refine WC.region ?_
                                          refine WL.val rfl rfl rfl rfl (r_move rfl (ev_t rfl)) ?_
                                          first | refine WL.val rfl rfl rfl rfl (r_addN rfl (ev_t rfl) ev_c (by simp only [inK]; omega)) ?_ | refine WL.val rfl rfl rfl rfl (r_add rfl (ev_t rfl) ev_c) ?_
                                          refine WL.val rfl rfl rfl rfl (r_assign rfl (ev_t rfl)) ?_
                                          refine WL.nil ?_
                                          refine WX.keep [(1, _), (2, _), (3, _), (7, _), (8, _), (12, _), (14, _), (15, _), (16, _)] ⟨rfl, rfl, rfl, rfl, rfl, rfl, rfl, rfl, rfl, trivial⟩ ?_
                                          refine WX.meet [(1, _), (2, _), (3, _), (7, _), (8, _), (12, _), (14, _), (15, _), (16, _)] ⟨rfl, rfl, rfl, rfl, rfl, rfl, rfl, rfl, rfl, trivial⟩ ?_
                                          first
                                            | (refine ⟨l.length - (m + 1), by omega, m + 1, true, by omega, rfl, hU, by omega, hF3, hO, hTr, (fun _ => ?_), (fun h => by cases h), rfl⟩
                                               rw [same3] at hc37
                                               simp only [Bool.and_eq_true, decide_eq_true_eq, Bool.not_eq_true, Bool.not_eq_false', Bool.not_eq_false] at hc37
                                               obtain ⟨rfl, rfl, rfl⟩ := hc37
                                               exact List.mem_of_getElem? hz)
                                            | (refine ⟨l.length - (m + 1), by omega, m + 1, fb, by omega, rfl, hU, by omega, hF3, hO, hTr, hf1, (fun h z hz' => ?_), rfl⟩
                                               rw [List.take_add_one, hz] at hz'
                                               rcases List.mem_append.1 hz' with hz' | hz'
                                               · exact hf2 h z hz'
                                               · simp only [Option.toList_some, List.mem_singleton] at hz'
                                                 subst hz'
                                                 exact hc35)
                                    · try (exfalso; first | (simp at hc33; done) | (simp only [decide_eq_true_eq, decide_eq_false_iff_not, Bool.not_eq_true', Bool.not_eq_false', Bool.not_eq_true, Bool.not_eq_false] at hc33; omega) | omega)
                                      all_goals
                                       try simp only [decide_eq_true_eq, decide_eq_false_iff_not, Bool.not_eq_true', Bool.not_eq_false', Bool.not_eq_true, Bool.not_eq_false, Option.isNone_none, Option.isNone_some, Option.isSome_none, Option.isSome_some, ne_eq, Decidable.not_not] at hc33
                                       obtain rfl : m = l.length := by omega
                                       rw [List.take_length] at hf2
                                       refine WC.exit ?_
                                       refine WX.thenExit ?_
                                       refine WX.thenExit ?_
                                       refine WX.blockHere ?_
                                       refine WX.next ?_
                                       refine WC.seq ?_
                                       refine WC.region ?_
                                       refine WL.val rfl rfl rfl rfl (r_move rfl (ev_t rfl)) ?_
                                       refine WL.val rfl rfl rfl rfl (r_not rfl (ev_t rfl)) ?_
                                       refine WL.nil ?_
                                       refine WX.keep [(1, _), (2, _), (3, _), (7, _), (8, _), (12, _), (14, _), (182, _)] ⟨rfl, rfl, rfl, rfl, rfl, rfl, rfl, rfl, trivial⟩ ?_
                                       refine WX.next ?_
                                       refine WC.cond rfl (ev_t rfl) (fun hc39 => ?_) (fun hc39 => ?_)
                                       · try (exfalso; first | (simp at hc39; done) | (simp only [decide_eq_true_eq, decide_eq_false_iff_not, Bool.not_eq_true', Bool.not_eq_false', Bool.not_eq_true, Bool.not_eq_false] at hc39; omega) | omega)
                                         all_goals
                                          try simp only [decide_eq_true_eq, decide_eq_false_iff_not, Bool.not_eq_true', Bool.not_eq_false', Bool.not_eq_true, Bool.not_eq_false, Option.isNone_none, Option.isNone_some, Option.isSome_none, Option.isSome_some, ne_eq, Decidable.not_not] at hc39
                                          have hfb0 : fb = false := by simp_all
                                          skip
                                          refine WC.region ?_
                                          refine WL.val rfl rfl rfl rfl (r_move rfl (ev_t rfl)) ?_
                                          refine WL.val rfl rfl rfl rfl (r_move rfl (ev_t rfl)) ?_
                                          refine WL.val rfl rfl rfl rfl (r_move rfl (ev_t rfl)) ?_
                                          refine WL.val rfl rfl rfl rfl (r_indexAddr rfl (ev_t rfl) (ev_t rfl) elem_76 size_75 (by omega) (by omega)) ?_
                                          refine WL.val rfl rfl rfl rfl (r_loadAgg (vs := [_, _, _]) rfl (ev_t rfl) agg_75 size_75 (Rd.cellsL (us := [I64 yn, I64 yd, I64 yt]) hTr (i := j * 3) (by omega) hcy)) ?_
                                          refine WL.cons (SO.alloc rfl rfl rfl rfl (r_buildSlice (cs := #[_, _, _]) (vs := [(0, _)]) rfl ⟨⟨rfl, (ev_t rfl)⟩, trivial⟩ row_76 rfl rfl) ?_)
                                          intro w34 hu34 hB34 hz34
                                          have hs34 := hu34.size
                                          replace hU := hU.trans hu34 (by first | exact (fun _ _ h => h) | exact (fun _ _ h => h.elim) | (intro k hl hk; (try simp only [At, New, Grow, From, No] at hk ⊢); omega) | (intro k hl hk; first | (simp only [At, No] at hk; omega) | (have := hG2 k hk; omega) | (have := hG k hk; omega)))
                                          replace hF3 := hF3.upd hu34 (by first | exact (fun h => h) | (simp only [At, No]; omega) | (exact fun h => by have := hG _ h; omega) | (exact fun h => by have := hG2 _ h; omega))
                                          replace hO := hO.upd hu34 (by first | exact (fun _ _ _ h => h) | (intro k hk hl hS; have := hG k hk; first | (simp only [At, No] at hS; omega) | (have := hG2 k hS; omega)))
                                          replace hTr := hTr.upd hu34 (by first | exact (fun _ _ _ h => h) | (intro k hk hl hS; have := hG k hS; exact this.2.2 hk))
                                          refine WL.cons (SO.append hO (Rd.of_blk (F := At _) (n := 1) (sz := 3) hB34 rfl rfl (by omega)) row_76 (by intro u hu; simp only [List.mem_cons, List.not_mem_nil, or_false, Array.toList] at hu; rcases hu with rfl | rfl | rfl <;> rfl) (le_maxLen (by omega)) (by omega) rfl (ev_t rfl) (ev_t rfl) rfl rfl rfl rfl ?_)
                                          intro v35 w35 hO2 hu35
                                          have hs35 := hu35.size
                                          replace hU := hU.trans hu35 (by first | exact (fun _ _ h => h) | exact (fun _ _ h => h.elim) | (intro k hl hk; (try simp only [At, New, Grow, From, No] at hk ⊢); omega) | (intro k hl hk; first | (simp only [At, No] at hk; omega) | (have := hG2 k hk; omega) | (have := hG k hk; omega)))
                                          replace hF3 := hF3.upd hu35 (by first | exact (fun h => h) | (simp only [At, No]; omega) | (exact fun h => by have := hG _ h; omega) | (exact fun h => by have := hG2 _ h; omega))
                                          replace hTr := hTr.upd hu35 (by first | exact (fun _ _ _ h => h) | (intro k hk hl hS; have := hG k hS; exact this.2.2 hk))
                                          obtain ⟨A35, c35, rfl, hc35⟩ := Own.form hO2
                                          refine WL.val rfl rfl rfl rfl (r_assign rfl (ev_t rfl)) ?_
                                          refine WL.nil ?_
                                          refine WX.keep [(1, _), (2, _), (3, _), (7, _), (8, _), (12, _), (14, _)] ⟨rfl, rfl, rfl, rfl, rfl, rfl, rfl, trivial⟩ ?_
                                          refine WX.blockNormal ?_
                                          refine WX.next ?_
                                          refine WC.region ?_
                                          refine WL.val rfl rfl rfl rfl (r_move rfl (ev_t rfl)) ?_
                                          first | refine WL.val rfl rfl rfl rfl (r_addN rfl (ev_t rfl) ev_c (by simp only [inK]; omega)) ?_ | refine WL.val rfl rfl rfl rfl (r_add rfl (ev_t rfl) ev_c) ?_
                                          refine WL.val rfl rfl rfl rfl (r_assign rfl (ev_t rfl)) ?_
                                          refine WL.nil ?_
                                          refine WX.keep [(1, _), (2, _), (3, _), (7, _), (8, _), (12, _), (14, _)] ⟨rfl, rfl, rfl, rfl, rfl, rfl, rfl, trivial⟩ ?_
                                          refine WX.meet [(1, _), (2, _), (3, _), (7, _), (8, _), (12, _), (14, _)] ⟨rfl, rfl, rfl, rfl, rfl, rfl, rfl, trivial⟩ ?_
                                          have hs9 := hU.size
                                          first
                                            | (refine ⟨T.length - (j + 1), by omega, j + 1, l, _, c1, G, by omega, rfl, hU, by omega, by omega, hF3, hO, (fun k hk => by have := hG k hk; exact ⟨by omega, by omega, this.2.2⟩), hTr, hI, hx, (fun y hy' => ?_), rfl⟩
                                               rw [List.take_add_one, hy] at hy'
                                               rcases List.mem_append.1 hy' with h | h
                                               · exact hdone y h
                                               · simp only [Option.toList_some, List.mem_singleton] at h
                                                 subst h
                                                 exact ⟨by simp only; omega, hf1 hfb1⟩)
                                            | (have hO3 := Own.cast hO2 (show l.flatMap triC ++ [I64 yn, I64 yd, I64 yt] = (l ++ [(yn, yd, yt)]).flatMap triC from by rw [List.flatMap_append]; rfl)
                                               refine ⟨T.length - (j + 1), by omega, j + 1, l ++ [(yn, yd, yt)], _, _, _, by omega, rfl, hU, by omega, by omega, hF3, by rw [List.length_append]; exact hO3, (fun k hk => ?_), hTr, hI.add (by omega) (List.mem_of_getElem? hx) hi (by simpa using hys) ⟨by simp only; omega, by simp only; omega, y2, y3, y4, y5⟩ (hf2 hfb0), by rw [List.getElem?_append_left hkl]; exact hx, (fun y hy' => ?_), by rw [List.length_append]; rfl⟩
                                               · rcases hk with hk | hk
                                                 · have := hG k hk; exact ⟨by omega, by omega, this.2.2⟩
                                                 · exact ⟨by omega, by omega, fun h => by have := hG2 k h; omega⟩
                                               · rw [List.take_add_one, hy] at hy'
                                                 rcases List.mem_append.1 hy' with h | h
                                                 · exact ⟨(hdone y h).1, List.mem_append.2 (.inl (hdone y h).2)⟩
                                                 · simp only [Option.toList_some, List.mem_singleton] at h
                                                   subst h
                                                   exact ⟨by simp only; omega, List.mem_append.2 (.inr (by simp))⟩)
                                       · try (exfalso; first | (simp at hc39; done) | (simp only [decide_eq_true_eq, decide_eq_false_iff_not, Bool.not_eq_true', Bool.not_eq_false', Bool.not_eq_true, Bool.not_eq_false] at hc39; omega) | omega)
                                         all_goals
                                          try simp only [decide_eq_true_eq, decide_eq_false_iff_not, Bool.not_eq_true', Bool.not_eq_false', Bool.not_eq_true, Bool.not_eq_false, Option.isNone_none, Option.isNone_some, Option.isSome_none, Option.isSome_some, ne_eq, Decidable.not_not] at hc39
                                          have hfb1 : fb = true := by simp_all
                                          refine WC.skip ?_
                                          refine WX.blockNormal ?_
                                          refine WX.next ?_
                                          refine WC.region ?_
                                          refine WL.val rfl rfl rfl rfl (r_move rfl (ev_t rfl)) ?_
                                          first | refine WL.val rfl rfl rfl rfl (r_addN rfl (ev_t rfl) ev_c (by simp only [inK]; omega)) ?_ | refine WL.val rfl rfl rfl rfl (r_add rfl (ev_t rfl) ev_c) ?_
                                          refine WL.val rfl rfl rfl rfl (r_assign rfl (ev_t rfl)) ?_
                                          refine WL.nil ?_
                                          refine WX.keep [(1, _), (2, _), (3, _), (7, _), (8, _), (12, _), (14, _)] ⟨rfl, rfl, rfl, rfl, rfl, rfl, rfl, trivial⟩ ?_
                                          refine WX.meet [(1, _), (2, _), (3, _), (7, _), (8, _), (12, _), (14, _)] ⟨rfl, rfl, rfl, rfl, rfl, rfl, rfl, trivial⟩ ?_
                                          have hs9 := hU.size
                                          first
                                            | (refine ⟨T.length - (j + 1), by omega, j + 1, l, _, c1, G, by omega, rfl, hU, by omega, by omega, hF3, hO, (fun k hk => by have := hG k hk; exact ⟨by omega, by omega, this.2.2⟩), hTr, hI, hx, (fun y hy' => ?_), rfl⟩
                                               rw [List.take_add_one, hy] at hy'
                                               rcases List.mem_append.1 hy' with h | h
                                               · exact hdone y h
                                               · simp only [Option.toList_some, List.mem_singleton] at h
                                                 subst h
                                                 exact ⟨by simp only; omega, hf1 hfb1⟩)
                                            | (have hO3 := Own.cast hO2 (show l.flatMap triC ++ [I64 yn, I64 yd, I64 yt] = (l ++ [(yn, yd, yt)]).flatMap triC from by rw [List.flatMap_append]; rfl)
                                               refine ⟨T.length - (j + 1), by omega, j + 1, l ++ [(yn, yd, yt)], _, _, _, by omega, rfl, hU, by omega, by omega, hF3, by rw [List.length_append]; exact hO3, (fun k hk => ?_), hTr, hI.add (by omega) (List.mem_of_getElem? hx) hi (by simpa using hys) ⟨by simp only; omega, by simp only; omega, y2, y3, y4, y5⟩ (hf2 hfb0), by rw [List.getElem?_append_left hkl]; exact hx, (fun y hy' => ?_), by rw [List.length_append]; rfl⟩
                                               · rcases hk with hk | hk
                                                 · have := hG k hk; exact ⟨by omega, by omega, this.2.2⟩
                                                 · exact ⟨by omega, by omega, fun h => by have := hG2 k h; omega⟩
                                               · rw [List.take_add_one, hy] at hy'
                                                 rcases List.mem_append.1 hy' with h | h
                                                 · exact ⟨(hdone y h).1, List.mem_append.2 (.inl (hdone y h).2)⟩
                                                 · simp only [Option.toList_some, List.mem_singleton] at h
                                                   subst h
                                                   exact ⟨by simp only; omega, List.mem_append.2 (.inr (by simp))⟩)
                            · try (exfalso; first | (simp at hc27; done) | (simp only [decide_eq_true_eq, decide_eq_false_iff_not, Bool.not_eq_true', Bool.not_eq_false', Bool.not_eq_true, Bool.not_eq_false] at hc27; omega) | omega)
                              all_goals
                               try simp only [decide_eq_true_eq, decide_eq_false_iff_not, Bool.not_eq_true', Bool.not_eq_false', Bool.not_eq_true, Bool.not_eq_false, Option.isNone_none, Option.isNone_some, Option.isSome_none, Option.isSome_some, ne_eq, Decidable.not_not] at hc27
                               refine WC.exit ?_
                               refine WX.thenExit ?_
                               refine WX.thenExit ?_
                               refine WX.blockHere ?_
                               refine WX.blockNormal ?_
                               refine WX.next ?_
                               refine WC.region ?_
                               refine WL.val rfl rfl rfl rfl (r_move rfl (ev_t rfl)) ?_
                               first | refine WL.val rfl rfl rfl rfl (r_addN rfl (ev_t rfl) ev_c (by simp only [inK]; omega)) ?_ | refine WL.val rfl rfl rfl rfl (r_add rfl (ev_t rfl) ev_c) ?_
                               refine WL.val rfl rfl rfl rfl (r_assign rfl (ev_t rfl)) ?_
                               refine WL.nil ?_
                               refine WX.keep [(1, _), (2, _), (3, _), (7, _), (8, _)] ⟨rfl, rfl, rfl, rfl, rfl, trivial⟩ ?_
                               refine WX.meet [(1, _), (2, _), (3, _), (7, _), (8, _)] ⟨rfl, rfl, rfl, rfl, rfl, trivial⟩ ?_
                               have hs9 := hU.size
                               refine ⟨n - (k + 1), by omega, k + 1, l, _, c1, G, by omega, rfl, hU, by omega, hF3, hO, (fun k hk => by have := hG k hk; exact ⟨by omega, by omega⟩), hI.step hx (fun hp => ⟨i, by simpa using hi, by rw [← fineR_eq hp b3 (by omega)]; exact hfb, fun y hy' => ?_⟩), rfl⟩
                               have hyT : y ∈ T := by rw [hTs]; simpa using hy'
                               have hjT : j = T.length := by omega
                               rw [hjT, List.take_length] at hdone
                               exact ⟨(hTb y hyT).1, by rw [hn]; exact (hdone y hyT).1, (hdone y hyT).2⟩
          · try (exfalso; first | (simp at hc5; done) | (simp only [decide_eq_true_eq, decide_eq_false_iff_not, Bool.not_eq_true', Bool.not_eq_false', Bool.not_eq_true, Bool.not_eq_false] at hc5; omega) | omega)
            all_goals
             try simp only [decide_eq_true_eq, decide_eq_false_iff_not, Bool.not_eq_true', Bool.not_eq_false', Bool.not_eq_true, Bool.not_eq_false, Option.isNone_none, Option.isNone_some, Option.isSome_none, Option.isSome_some, ne_eq, Decidable.not_not] at hc5
             obtain rfl : k = l.length := by omega
             refine WC.exit ?_
             refine WX.thenExit ?_
             refine WX.thenExit ?_
             refine WX.blockHere ?_
             refine WX.next ?_
             refine WC.seq ?_
             refine WC.region ?_
             refine WL.val rfl rfl rfl rfl (r_assign rfl ev_c) ?_
             refine WL.nil ?_
             refine WX.keep [(6, _)] ⟨rfl, trivial⟩ ?_
             refine WX.next ?_
             refine WC.ret ?_
             refine WX.retE1 rfl rfl ?_
             exact ⟨⟨true, rfl, fun h => by omega, fun hp _ => ⟨fun _ => InvR.end hp hI, fun _ => rfl⟩⟩, hU⟩
end Go.Proofs.YtipabhbnljadfaaDoor
