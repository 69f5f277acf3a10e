/-
  law 13: the example, nil drums, what was synced.
-/
import Derived.Test.YtejlmcdmoghmaaaDv
import Derived.Test.YtejlmcdmoghmaaaFn
namespace Go.Proofs.Ytejlmcdmoghmaaa
open Go
set_option linter.unusedSimpArgs false
set_option linter.unusedVariables false

/-- a drum of one track and no arms -/
def D1 (a b : List UInt8) (f : Bool) (most ops : Int) : DS := ⟨[⟨a, b, f⟩], most, ops, 0, false⟩
theorem wrap1 {n : Int} (h0 : 0 ≤ n) (h : n ≤ 1000000) : IntKind.i64.wrap (n + 1) = n + 1 := wrap_i64_in (by omega) (by omega)
theorem D1_new (most : Int) : DS.new 1 most = D1 [] [] false most 0 := rfl
theorem D1_look {a b : List UInt8} {f : Bool} {most ops : Int} : (D1 a b f most ops).look 0 = 0 := rfl
theorem D1_append {a b q : List UInt8} {f : Bool} {most ops : Int} (h : (b.length : Int) + q.length ≤ most) (h0 : 0 ≤ ops) (h1 : ops ≤ 1000000) : (D1 a b f most ops).append 0 q = (D1 a (b ++ q) f most (ops + 1), 0) := by
  unfold DS.append
  rw [if_neg (by simp [D1_look]), if_neg (by simp only [DS.track, D1, Int.toNat_zero, List.getD_cons_zero]; omega)]
  simp [DS.begin, DS.setT, DS.track, DS.code, armB, D1, wrap1 h0 h1]
theorem D1_write {a b q : List UInt8} {f : Bool} {most ops : Int} (h : (q.length : Int) ≤ most) (h0 : 0 ≤ ops) (h1 : ops ≤ 1000000) : (D1 a b f most ops).write 0 q = (D1 a q true most (ops + 1), 0) := by
  unfold DS.write
  rw [if_neg (by simp [D1_look]), if_neg (by simp only [D1]; omega)]
  simp [DS.begin, DS.setT, DS.track, DS.code, armB, D1, wrap1 h0 h1]
theorem D1_sync {a b : List UInt8} {f : Bool} {most ops : Int} (h0 : 0 ≤ ops) (h1 : ops ≤ 1000000) : (D1 a b f most ops).sync 0 = (D1 b b false most (ops + 1), 0) := by
  unfold DS.sync
  rw [if_neg (by simp [D1_look]), if_neg (by simp [DS.begin, armB, D1])]
  simp [DS.begin, DS.setT, DS.track, armB, D1, wrap1 h0 h1]
theorem D1_restart {a b : List UInt8} {f : Bool} {most ops : Int} (cuts : List Int) : (D1 a b f most ops).restart cuts = D1 (fallS ⟨a, b, f⟩ (cuts.getD 0 (-1))) (fallS ⟨a, b, f⟩ (cuts.getD 0 (-1))) false most ops := rfl
theorem D1_track {a b : List UInt8} {f : Bool} {most ops : Int} : ((D1 a b f most ops).track (0 : Int).toNat).now = b := rfl

theorem Restart_nil {w : World} {cv : Value} : Ret Try.prog 19 #[.pointer none, cv] w fun v' w' => v' = .int .i64 6 ∧ w = w' := by
  refine enterRet (vs := [_, _]) (N := 113) Try.func19 rfl rfl rfl ?_
  refine WC.keep [(0, _), (1, _)] ⟨rfl, rfl, trivial⟩ ?_
  refine WC.seq ?_
  -- region 0 drum.go:148
  refine WC.region ?_
  refine WL.val rfl rfl rfl rfl (r_assign rfl ev_c) ?_
  refine WL.nil ?_
  refine WX.keep [(0, _), (1, _)] ⟨rfl, rfl, trivial⟩ ?_
  refine WX.next ?_
  refine WC.seq ?_
  refine WC.seq ?_
  -- region 1 drum.go:149
  refine WC.region ?_
  refine WL.val rfl rfl rfl rfl (r_move rfl (ev_t rfl)) ?_
  refine WL.val rfl rfl rfl rfl (r_eqlPtrNil rfl (ev_t rfl) ev_c ptr_25) ?_
  refine WL.nil ?_
  refine WX.keep [(0, _), (1, _), (9, _)] ⟨rfl, rfl, rfl, trivial⟩ ?_
  refine WX.next ?_
  refine WC.cond rfl (ev_t rfl) (fun hc1 => ?_) (fun hc1 => ?_)
  · try (exfalso; first | (simp at hc1; done) | (simp only [decide_eq_true_eq, decide_eq_false_iff_not, Bool.not_eq_true', Bool.not_eq_false', Bool.not_eq_true, Bool.not_eq_false] at hc1; omega) | omega)
    all_goals
      try simp only [decide_eq_true_eq, decide_eq_false_iff_not, Bool.not_eq_true', Bool.not_eq_false', Bool.not_eq_true, Bool.not_eq_false, Option.isNone_none, Option.isNone_some, Option.isSome_none, Option.isSome_some, ne_eq, Decidable.not_not] at hc1
      refine WC.seq ?_
      -- region 2 drum.go:150
      refine WC.region ?_
      refine WL.val rfl rfl rfl rfl (r_assign rfl ev_c) ?_
      refine WL.nil ?_
      refine WX.keep [(4, _)] ⟨rfl, trivial⟩ ?_
      refine WX.next ?_
      refine WC.ret ?_
      refine WX.thenRet ?_
      refine WX.retE1 rfl rfl ?_
      exact ⟨rfl, rfl⟩
  · try simp only [decide_eq_true_eq, decide_eq_false_iff_not, Bool.not_eq_true', Bool.not_eq_false', Bool.not_eq_true, Bool.not_eq_false, Option.isNone_none, Option.isNone_some, Option.isSome_none, Option.isSome_some, ne_eq, Decidable.not_not] at hc1
    exfalso
    simp at hc1
theorem New.grow {w w1 w2 w3 : World} {k : Nat} (h1 : w.heap.size ≤ w2.heap.size) (h2 : w1.heap.size ≤ w3.heap.size) (hk : Grow (New w w1) w2 w3 k) : New w w3 k := by
  rcases hk with hk | hk
  · exact ⟨hk.1, by have := hk.2; omega⟩
  · exact ⟨by have := hk.1; omega, hk.2⟩
theorem fallAB : fallS ⟨[97, 98], [97, 98, 99, 100], false⟩ ([1].getD 0 (-1)) = [97, 98, 99] := by decide

theorem awake13_ok (w : World) : Ret Try.prog 14 #[] w fun v w' => v = .bool true ∧ Upd No w w' := by
  refine enterRet (vs := []) (N := 52) Try.func14 rfl rfl rfl ?_
  have hU := Upd.refl No w
  refine WC.keep [] trivial ?_
  refine WC.seq ?_
  -- region 0 law.go:11
  refine WC.region ?_
  refine WL.val rfl rfl rfl rfl (r_assign rfl ev_c) ?_
  refine WL.nil ?_
  refine WX.keep [] trivial ?_
  refine WX.next ?_
  refine WC.seq ?_
  -- region 1 law.go:12
  refine WC.region ?_
  refine WL.cons (SO.call (Dnew_ok (n := 1) (most := 10) (by omega) (by omega)) rfl body_15 ⟨ev_c, ev_c, trivial⟩ rfl rfl rfl rfl ?_)
  rintro v w1 ⟨p, rfl, hd, hu1⟩
  rw [D1_new] at hd
  have hs1 := hu1.size
  replace hU := hU.trans hu1 (by first | exact (fun _ _ h => h) | exact (fun _ _ h => h.elim) | (intro k hl hk; (try simp only [At, New, Grow, From, No] at hk ⊢); omega))
  refine WL.val rfl rfl rfl rfl (r_move rfl (ev_t rfl)) ?_
  refine WL.val rfl rfl rfl rfl (r_extract rfl (ev_t rfl) rfl) ?_
  refine WL.val rfl rfl rfl rfl (r_extract rfl (ev_t rfl) rfl) ?_
  refine WL.val rfl rfl rfl rfl (r_assign rfl (ev_t rfl)) ?_
  refine WL.val rfl rfl rfl rfl (r_assign rfl (ev_t rfl)) ?_
  refine WL.nil ?_
  refine WX.keep [(1, _), (2, _)] ⟨rfl, rfl, trivial⟩ ?_
  refine WX.next ?_
  refine WC.seq ?_
  refine WC.seq ?_
  -- region 2 law.go:13
  refine WC.region ?_
  refine WL.val rfl rfl rfl rfl (r_move rfl (ev_t rfl)) ?_
  refine WL.val rfl rfl rfl rfl (r_neq rfl (ev_t rfl) ev_c) ?_
  refine WL.val rfl rfl rfl rfl (r_move rfl (ev_t rfl)) ?_
  refine WL.cases 11 rfl (fun hb2_2 => ?_) (fun hb2_2 => ?_)
  · try (exfalso; first | (simp at hb2_2; done) | (simp only [decide_eq_true_eq, decide_eq_false_iff_not, Bool.not_eq_true', Bool.not_eq_false', Bool.not_eq_true, Bool.not_eq_false] at hb2_2; omega) | omega)
    all_goals
      try simp only [decide_eq_true_eq, decide_eq_false_iff_not, Bool.not_eq_true', Bool.not_eq_false', Bool.not_eq_true, Bool.not_eq_false, Option.isNone_none, Option.isNone_some, Option.isSome_none, Option.isSome_some, ne_eq, Decidable.not_not] at hb2_2
      refine WL.skip rfl rfl rfl ?_
      refine WL.skip rfl rfl rfl ?_
      refine WL.val rfl rfl rfl rfl (r_pickT rfl (ev_t rfl) ev_c) ?_
      refine WL.val rfl rfl rfl rfl (r_move rfl (ev_t rfl)) ?_
      refine WL.skip rfl rfl rfl ?_
      refine WL.skip rfl rfl rfl ?_
      refine WL.skip rfl rfl rfl ?_
      refine WL.skip rfl rfl rfl ?_
      refine WL.skip rfl rfl rfl ?_
      refine WL.val rfl rfl rfl rfl (r_pickT rfl (ev_t rfl) ev_c) ?_
      refine WL.val rfl rfl rfl rfl (r_move rfl (ev_t rfl)) ?_
      refine WL.skip rfl rfl rfl ?_
      refine WL.skip rfl rfl rfl ?_
      refine WL.skip rfl rfl rfl ?_
      refine WL.val rfl rfl rfl rfl (r_pickT rfl (ev_t rfl) ev_c) ?_
      refine WL.val rfl rfl rfl rfl (r_move rfl (ev_t rfl)) ?_
      refine WL.skip rfl rfl rfl ?_
      refine WL.skip rfl rfl rfl ?_
      refine WL.skip rfl rfl rfl ?_
      refine WL.skip rfl rfl rfl ?_
      refine WL.skip rfl rfl rfl ?_
      refine WL.val rfl rfl rfl rfl (r_pickT rfl (ev_t rfl) ev_c) ?_
      refine WL.val rfl rfl rfl rfl (r_move rfl (ev_t rfl)) ?_
      refine WL.skip rfl rfl rfl ?_
      refine WL.skip rfl rfl rfl ?_
      refine WL.skip rfl rfl rfl ?_
      refine WL.skip rfl rfl rfl ?_
      refine WL.val rfl rfl rfl rfl (r_pickT rfl (ev_t rfl) ev_c) ?_
      refine WL.nil ?_
      refine WX.keep [(1, _), (39, _)] ⟨rfl, rfl, trivial⟩ ?_
      refine WX.next ?_
      refine WC.cond_true rfl (ev_t rfl) ?_
      refine WC.seq ?_
      -- region 3 law.go:14
      refine WC.region ?_
      refine WL.val rfl rfl rfl rfl (r_assign rfl ev_c) ?_
      refine WL.nil ?_
      refine WX.keep [(0, _)] ⟨rfl, trivial⟩ ?_
      refine WX.next ?_
      refine WC.ret ?_
      refine WX.thenRet ?_
      refine WX.retE1 rfl rfl ?_
      exact ⟨by simp, hU⟩
  · try (exfalso; first | (simp at hb2_2; done) | (simp only [decide_eq_true_eq, decide_eq_false_iff_not, Bool.not_eq_true', Bool.not_eq_false', Bool.not_eq_true, Bool.not_eq_false] at hb2_2; omega) | omega)
    all_goals
      try simp only [decide_eq_true_eq, decide_eq_false_iff_not, Bool.not_eq_true', Bool.not_eq_false', Bool.not_eq_true, Bool.not_eq_false, Option.isNone_none, Option.isNone_some, Option.isSome_none, Option.isSome_some, ne_eq, Decidable.not_not] at hb2_2
      refine WL.val rfl rfl rfl rfl (r_move rfl (ev_t rfl)) ?_
      refine WL.val rfl rfl rfl rfl (r_eqlPtrNil rfl (ev_t rfl) ev_c ptr_25) ?_
      refine WL.val rfl rfl rfl rfl (r_pickF rfl (ev_t rfl) (ev_t rfl)) ?_
      refine WL.val rfl rfl rfl rfl (r_move rfl (ev_t rfl)) ?_
      refine WL.cases 15 rfl (fun hb2_6 => ?_) (fun hb2_6 => ?_)
      · try (exfalso; first | (simp at hb2_6; done) | (simp only [decide_eq_true_eq, decide_eq_false_iff_not, Bool.not_eq_true', Bool.not_eq_false', Bool.not_eq_true, Bool.not_eq_false] at hb2_6; omega) | omega)
        all_goals
          try simp only [decide_eq_true_eq, decide_eq_false_iff_not, Bool.not_eq_true', Bool.not_eq_false', Bool.not_eq_true, Bool.not_eq_false, Option.isNone_none, Option.isNone_some, Option.isSome_none, Option.isSome_some, ne_eq, Decidable.not_not] at hb2_6
          refine WL.skip rfl rfl rfl ?_
          refine WL.skip rfl rfl rfl ?_
          refine WL.skip rfl rfl rfl ?_
          refine WL.skip rfl rfl rfl ?_
          refine WL.skip rfl rfl rfl ?_
          refine WL.val rfl rfl rfl rfl (r_pickT rfl (ev_t rfl) ev_c) ?_
          refine WL.val rfl rfl rfl rfl (r_move rfl (ev_t rfl)) ?_
          refine WL.skip rfl rfl rfl ?_
          refine WL.skip rfl rfl rfl ?_
          refine WL.skip rfl rfl rfl ?_
          refine WL.val rfl rfl rfl rfl (r_pickT rfl (ev_t rfl) ev_c) ?_
          refine WL.val rfl rfl rfl rfl (r_move rfl (ev_t rfl)) ?_
          refine WL.skip rfl rfl rfl ?_
          refine WL.skip rfl rfl rfl ?_
          refine WL.skip rfl rfl rfl ?_
          refine WL.skip rfl rfl rfl ?_
          refine WL.skip rfl rfl rfl ?_
          refine WL.val rfl rfl rfl rfl (r_pickT rfl (ev_t rfl) ev_c) ?_
          refine WL.val rfl rfl rfl rfl (r_move rfl (ev_t rfl)) ?_
          refine WL.skip rfl rfl rfl ?_
          refine WL.skip rfl rfl rfl ?_
          refine WL.skip rfl rfl rfl ?_
          refine WL.skip rfl rfl rfl ?_
          refine WL.val rfl rfl rfl rfl (r_pickT rfl (ev_t rfl) ev_c) ?_
          refine WL.nil ?_
          refine WX.keep [(1, _), (39, _)] ⟨rfl, rfl, trivial⟩ ?_
          refine WX.next ?_
          refine WC.cond_true rfl (ev_t rfl) ?_
          refine WC.seq ?_
          -- region 3 law.go:14
          refine WC.region ?_
          refine WL.val rfl rfl rfl rfl (r_assign rfl ev_c) ?_
          refine WL.nil ?_
          refine WX.keep [(0, _)] ⟨rfl, trivial⟩ ?_
          refine WX.next ?_
          refine WC.ret ?_
          refine WX.thenRet ?_
          refine WX.retE1 rfl rfl ?_
          exact ⟨by simp, hU⟩
      · try (exfalso; first | (simp at hb2_6; done) | (simp only [decide_eq_true_eq, decide_eq_false_iff_not, Bool.not_eq_true', Bool.not_eq_false', Bool.not_eq_true, Bool.not_eq_false] at hb2_6; omega) | omega)
        all_goals
          try simp only [decide_eq_true_eq, decide_eq_false_iff_not, Bool.not_eq_true', Bool.not_eq_false', Bool.not_eq_true, Bool.not_eq_false, Option.isNone_none, Option.isNone_some, Option.isSome_none, Option.isSome_some, ne_eq, Decidable.not_not] at hb2_6
          refine WL.val rfl rfl rfl rfl (r_move rfl (ev_t rfl)) ?_
          refine WL.cons (SO.alloc rfl rfl rfl rfl (r_buildSlice1 (vs := [_, _]) rfl ⟨ev_c, ev_c, trivial⟩ rfl row_22 rfl rfl) ?_)
          intro w2 hu2 hB2 hz2
          have hs2 := hu2.size
          replace hU := hU.trans hu2 (by first | exact (fun _ _ h => h) | exact (fun _ _ h => h.elim) | (intro k hl hk; (try simp only [At, New, Grow, From, No] at hk ⊢); omega))
          replace hd := hd.upd hu2 (by first | exact (fun _ _ _ h => h) | (intro k hk hl hS; simp only [At, New, Grow, From, No] at hk hS; omega))
          refine WL.cons (SO.convSS rfl (ev_t rfl) elem_22 int_5 hB2 rfl rfl rfl rfl ?_)
          intro w3 z3 hu3 hF3 hz3
          have hs3 := hu3.size
          replace hU := hU.trans hu3 (by first | exact (fun _ _ h => h) | exact (fun _ _ h => h.elim) | (intro k hl hk; (try simp only [At, New, Grow, From, No] at hk ⊢); omega))
          replace hd := hd.upd hu3 (by first | exact (fun _ _ _ h => h) | (intro k hk hl hS; simp only [At, New, Grow, From, No] at hk hS; omega))
          refine WL.cons (SO.call (Append_good (m := 2) (q := [97, 98]) hd D1_look (Rd.of_heap (F := At w1.heap.size) (n := 2) (sz := 1) (cs := #[.int .u8 97, .int .u8 98]) hF3 rfl rfl (by omega)) (fun k hk hl hF => by simp only [At, New] at hk hF; omega)) rfl body_16 ⟨(ev_t rfl), ev_c, (ev_t rfl), trivial⟩ rfl rfl rfl rfl ?_)
          rintro v w4 ⟨rfl, hd, hu4⟩
          rw [D1_append (by simp) (by omega) (by omega)] at hd ⊢
          have hs4 := hu4.size
          replace hU := hU.trans hu4 (by first | exact (fun _ _ h => h) | exact (fun _ _ h => h.elim) | (intro k hl hk; (try simp only [At, New, Grow, From, No] at hk ⊢); omega))
          replace hd := hd.mono (F' := New w w4) (fun k hk _ => New.grow (by omega) (by omega) hk)
          refine WL.val rfl rfl rfl rfl (r_neq rfl (ev_t rfl) ev_c) ?_
          refine WL.val rfl rfl rfl rfl (r_pickF rfl (ev_t rfl) (ev_t rfl)) ?_
          refine WL.val rfl rfl rfl rfl (r_move rfl (ev_t rfl)) ?_
          refine WL.cases 22 rfl (fun hb2_13 => ?_) (fun hb2_13 => ?_)
          · try (exfalso; first | (simp at hb2_13; done) | (simp only [decide_eq_true_eq, decide_eq_false_iff_not, Bool.not_eq_true', Bool.not_eq_false', Bool.not_eq_true, Bool.not_eq_false] at hb2_13; omega) | omega)
            all_goals
              try simp only [decide_eq_true_eq, decide_eq_false_iff_not, Bool.not_eq_true', Bool.not_eq_false', Bool.not_eq_true, Bool.not_eq_false, Option.isNone_none, Option.isNone_some, Option.isSome_none, Option.isSome_some, ne_eq, Decidable.not_not] at hb2_13
              refine WL.skip rfl rfl rfl ?_
              refine WL.skip rfl rfl rfl ?_
              refine WL.skip rfl rfl rfl ?_
              refine WL.val rfl rfl rfl rfl (r_pickT rfl (ev_t rfl) ev_c) ?_
              refine WL.val rfl rfl rfl rfl (r_move rfl (ev_t rfl)) ?_
              refine WL.skip rfl rfl rfl ?_
              refine WL.skip rfl rfl rfl ?_
              refine WL.skip rfl rfl rfl ?_
              refine WL.skip rfl rfl rfl ?_
              refine WL.skip rfl rfl rfl ?_
              refine WL.val rfl rfl rfl rfl (r_pickT rfl (ev_t rfl) ev_c) ?_
              refine WL.val rfl rfl rfl rfl (r_move rfl (ev_t rfl)) ?_
              refine WL.skip rfl rfl rfl ?_
              refine WL.skip rfl rfl rfl ?_
              refine WL.skip rfl rfl rfl ?_
              refine WL.skip rfl rfl rfl ?_
              refine WL.val rfl rfl rfl rfl (r_pickT rfl (ev_t rfl) ev_c) ?_
              refine WL.nil ?_
              refine WX.keep [(1, _), (39, _)] ⟨rfl, rfl, trivial⟩ ?_
              refine WX.next ?_
              refine WC.cond_true rfl (ev_t rfl) ?_
              refine WC.seq ?_
              -- region 3 law.go:14
              refine WC.region ?_
              refine WL.val rfl rfl rfl rfl (r_assign rfl ev_c) ?_
              refine WL.nil ?_
              refine WX.keep [(0, _)] ⟨rfl, trivial⟩ ?_
              refine WX.next ?_
              refine WC.ret ?_
              refine WX.thenRet ?_
              refine WX.retE1 rfl rfl ?_
              exact ⟨by simp, hU⟩
          · try (exfalso; first | (simp at hb2_13; done) | (simp only [decide_eq_true_eq, decide_eq_false_iff_not, Bool.not_eq_true', Bool.not_eq_false', Bool.not_eq_true, Bool.not_eq_false] at hb2_13; omega) | omega)
            all_goals
              try simp only [decide_eq_true_eq, decide_eq_false_iff_not, Bool.not_eq_true', Bool.not_eq_false', Bool.not_eq_true, Bool.not_eq_false, Option.isNone_none, Option.isNone_some, Option.isSome_none, Option.isSome_some, ne_eq, Decidable.not_not] at hb2_13
              refine WL.val rfl rfl rfl rfl (r_move rfl (ev_t rfl)) ?_
              refine WL.cons (SO.call (Sync_good hd D1_look) rfl body_17 ⟨(ev_t rfl), ev_c, trivial⟩ rfl rfl rfl rfl ?_)
              rintro v w5 ⟨rfl, hd, hu5⟩
              rw [D1_sync (by omega) (by omega)] at hd ⊢
              have hs5 := hu5.size
              replace hU := hU.trans hu5 (by first | exact (fun _ _ h => h) | exact (fun _ _ h => h.elim) | (intro k hl hk; (try simp only [At, New, Grow, From, No] at hk ⊢); omega))
              replace hd := hd.mono (F' := New w w5) (fun k hk _ => New.grow (by omega) (by omega) hk)
              refine WL.val rfl rfl rfl rfl (r_neq rfl (ev_t rfl) ev_c) ?_
              refine WL.val rfl rfl rfl rfl (r_pickF rfl (ev_t rfl) (ev_t rfl)) ?_
              refine WL.val rfl rfl rfl rfl (r_move rfl (ev_t rfl)) ?_
              refine WL.cases 27 rfl (fun hb2_18 => ?_) (fun hb2_18 => ?_)
              · try (exfalso; first | (simp at hb2_18; done) | (simp only [decide_eq_true_eq, decide_eq_false_iff_not, Bool.not_eq_true', Bool.not_eq_false', Bool.not_eq_true, Bool.not_eq_false] at hb2_18; omega) | omega)
                all_goals
                  try simp only [decide_eq_true_eq, decide_eq_false_iff_not, Bool.not_eq_true', Bool.not_eq_false', Bool.not_eq_true, Bool.not_eq_false, Option.isNone_none, Option.isNone_some, Option.isSome_none, Option.isSome_some, ne_eq, Decidable.not_not] at hb2_18
                  refine WL.skip rfl rfl rfl ?_
                  refine WL.skip rfl rfl rfl ?_
                  refine WL.skip rfl rfl rfl ?_
                  refine WL.skip rfl rfl rfl ?_
                  refine WL.skip rfl rfl rfl ?_
                  refine WL.val rfl rfl rfl rfl (r_pickT rfl (ev_t rfl) ev_c) ?_
                  refine WL.val rfl rfl rfl rfl (r_move rfl (ev_t rfl)) ?_
                  refine WL.skip rfl rfl rfl ?_
                  refine WL.skip rfl rfl rfl ?_
                  refine WL.skip rfl rfl rfl ?_
                  refine WL.skip rfl rfl rfl ?_
                  refine WL.val rfl rfl rfl rfl (r_pickT rfl (ev_t rfl) ev_c) ?_
                  refine WL.nil ?_
                  refine WX.keep [(1, _), (39, _)] ⟨rfl, rfl, trivial⟩ ?_
                  refine WX.next ?_
                  refine WC.cond_true rfl (ev_t rfl) ?_
                  refine WC.seq ?_
                  -- region 3 law.go:14
                  refine WC.region ?_
                  refine WL.val rfl rfl rfl rfl (r_assign rfl ev_c) ?_
                  refine WL.nil ?_
                  refine WX.keep [(0, _)] ⟨rfl, trivial⟩ ?_
                  refine WX.next ?_
                  refine WC.ret ?_
                  refine WX.thenRet ?_
                  refine WX.retE1 rfl rfl ?_
                  exact ⟨by simp, hU⟩
              · try (exfalso; first | (simp at hb2_18; done) | (simp only [decide_eq_true_eq, decide_eq_false_iff_not, Bool.not_eq_true', Bool.not_eq_false', Bool.not_eq_true, Bool.not_eq_false] at hb2_18; omega) | omega)
                all_goals
                  try simp only [decide_eq_true_eq, decide_eq_false_iff_not, Bool.not_eq_true', Bool.not_eq_false', Bool.not_eq_true, Bool.not_eq_false, Option.isNone_none, Option.isNone_some, Option.isSome_none, Option.isSome_some, ne_eq, Decidable.not_not] at hb2_18
                  refine WL.val rfl rfl rfl rfl (r_move rfl (ev_t rfl)) ?_
                  refine WL.cons (SO.alloc rfl rfl rfl rfl (r_buildSlice1 (vs := [_, _]) rfl ⟨ev_c, ev_c, trivial⟩ rfl row_22 rfl rfl) ?_)
                  intro w6 hu6 hB6 hz6
                  have hs6 := hu6.size
                  replace hU := hU.trans hu6 (by first | exact (fun _ _ h => h) | exact (fun _ _ h => h.elim) | (intro k hl hk; (try simp only [At, New, Grow, From, No] at hk ⊢); omega))
                  replace hd := hd.upd hu6 (by first | exact (fun _ _ _ h => h) | (intro k hk hl hS; simp only [At, New, Grow, From, No] at hk hS; omega))
                  refine WL.cons (SO.convSS rfl (ev_t rfl) elem_22 int_5 hB6 rfl rfl rfl rfl ?_)
                  intro w7 z7 hu7 hF7 hz7
                  have hs7 := hu7.size
                  replace hU := hU.trans hu7 (by first | exact (fun _ _ h => h) | exact (fun _ _ h => h.elim) | (intro k hl hk; (try simp only [At, New, Grow, From, No] at hk ⊢); omega))
                  replace hd := hd.upd hu7 (by first | exact (fun _ _ _ h => h) | (intro k hk hl hS; simp only [At, New, Grow, From, No] at hk hS; omega))
                  refine WL.cons (SO.call (Append_good (m := 2) (q := [99, 100]) hd D1_look (Rd.of_heap (F := At w5.heap.size) (n := 2) (sz := 1) (cs := #[.int .u8 99, .int .u8 100]) hF7 rfl rfl (by omega)) (fun k hk hl hF => by simp only [At, New] at hk hF; omega)) rfl body_16 ⟨(ev_t rfl), ev_c, (ev_t rfl), trivial⟩ rfl rfl rfl rfl ?_)
                  rintro v w8 ⟨rfl, hd, hu8⟩
                  rw [D1_append (by simp) (by omega) (by omega)] at hd ⊢
                  have hs8 := hu8.size
                  replace hU := hU.trans hu8 (by first | exact (fun _ _ h => h) | exact (fun _ _ h => h.elim) | (intro k hl hk; (try simp only [At, New, Grow, From, No] at hk ⊢); omega))
                  replace hd := hd.mono (F' := New w w8) (fun k hk _ => New.grow (by omega) (by omega) hk)
                  refine WL.val rfl rfl rfl rfl (r_neq rfl (ev_t rfl) ev_c) ?_
                  refine WL.val rfl rfl rfl rfl (r_pickF rfl (ev_t rfl) (ev_t rfl)) ?_
                  refine WL.val rfl rfl rfl rfl (r_move rfl (ev_t rfl)) ?_
                  refine WL.cases 34 rfl (fun hb2_25 => ?_) (fun hb2_25 => ?_)
                  · try (exfalso; first | (simp at hb2_25; done) | (simp only [decide_eq_true_eq, decide_eq_false_iff_not, Bool.not_eq_true', Bool.not_eq_false', Bool.not_eq_true, Bool.not_eq_false] at hb2_25; omega) | omega)
                    all_goals
                      try simp only [decide_eq_true_eq, decide_eq_false_iff_not, Bool.not_eq_true', Bool.not_eq_false', Bool.not_eq_true, Bool.not_eq_false, Option.isNone_none, Option.isNone_some, Option.isSome_none, Option.isSome_some, ne_eq, Decidable.not_not] at hb2_25
                      refine WL.skip rfl rfl rfl ?_
                      refine WL.skip rfl rfl rfl ?_
                      refine WL.skip rfl rfl rfl ?_
                      refine WL.skip rfl rfl rfl ?_
                      refine WL.val rfl rfl rfl rfl (r_pickT rfl (ev_t rfl) ev_c) ?_
                      refine WL.nil ?_
                      refine WX.keep [(1, _), (39, _)] ⟨rfl, rfl, trivial⟩ ?_
                      refine WX.next ?_
                      refine WC.cond_true rfl (ev_t rfl) ?_
                      refine WC.seq ?_
                      -- region 3 law.go:14
                      refine WC.region ?_
                      refine WL.val rfl rfl rfl rfl (r_assign rfl ev_c) ?_
                      refine WL.nil ?_
                      refine WX.keep [(0, _)] ⟨rfl, trivial⟩ ?_
                      refine WX.next ?_
                      refine WC.ret ?_
                      refine WX.thenRet ?_
                      refine WX.retE1 rfl rfl ?_
                      exact ⟨by simp, hU⟩
                  · try (exfalso; first | (simp at hb2_25; done) | (simp only [decide_eq_true_eq, decide_eq_false_iff_not, Bool.not_eq_true', Bool.not_eq_false', Bool.not_eq_true, Bool.not_eq_false] at hb2_25; omega) | omega)
                    all_goals
                      try simp only [decide_eq_true_eq, decide_eq_false_iff_not, Bool.not_eq_true', Bool.not_eq_false', Bool.not_eq_true, Bool.not_eq_false, Option.isNone_none, Option.isNone_some, Option.isSome_none, Option.isSome_some, ne_eq, Decidable.not_not] at hb2_25
                      refine WL.val rfl rfl rfl rfl (r_move rfl (ev_t rfl)) ?_
                      refine WL.cons (SO.alloc rfl rfl rfl rfl (r_buildSlice1 (vs := [_]) rfl ⟨ev_c, trivial⟩ rfl row_23 rfl rfl) ?_)
                      intro w9 hu9 hB9 hz9
                      have hs9 := hu9.size
                      replace hU := hU.trans hu9 (by first | exact (fun _ _ h => h) | exact (fun _ _ h => h.elim) | (intro k hl hk; (try simp only [At, New, Grow, From, No] at hk ⊢); omega))
                      replace hd := hd.upd hu9 (by first | exact (fun _ _ _ h => h) | (intro k hk hl hS; simp only [At, New, Grow, From, No] at hk hS; omega))
                      refine WL.cons (SO.call (Restart_ok (m := 1) (cuts := [1]) hd (Rd.of_blk (F := At w8.heap.size) (n := 1) (sz := 1) (cs := #[.int .i64 1]) hB9 rfl rfl (by omega)) (fun k hk hl hF => by simp only [At, New] at hk hF; omega)) rfl body_19 ⟨(ev_t rfl), (ev_t rfl), trivial⟩ rfl rfl rfl rfl ?_)
                      rintro v w10 ⟨rfl, hd, hu10⟩
                      rw [D1_restart] at hd
                      simp only [List.nil_append, List.cons_append, fallAB] at hd
                      have hs10 := hu10.size
                      replace hU := hU.trans hu10 (by first | exact (fun _ _ h => h) | exact (fun _ _ h => h.elim) | (intro k hl hk; (try simp only [At, New, Grow, From, No] at hk ⊢); omega))
                      replace hd := hd.mono (F' := New w w10) (fun k hk _ => New.grow (by omega) (by omega) hk)
                      refine WL.val rfl rfl rfl rfl (r_neq rfl (ev_t rfl) ev_c) ?_
                      refine WL.val rfl rfl rfl rfl (r_pickF rfl (ev_t rfl) (ev_t rfl)) ?_
                      refine WL.nil ?_
                      refine WX.keep [(1, _), (39, _)] ⟨rfl, rfl, trivial⟩ ?_
                      refine WX.next ?_
                      refine WC.cond rfl (ev_t rfl) (fun hc2 => ?_) (fun hc2 => ?_)
                      · try (exfalso; first | (simp at hc2; done) | (simp only [decide_eq_true_eq, decide_eq_false_iff_not, Bool.not_eq_true', Bool.not_eq_false', Bool.not_eq_true, Bool.not_eq_false] at hc2; omega) | omega)
                        all_goals
                          try simp only [decide_eq_true_eq, decide_eq_false_iff_not, Bool.not_eq_true', Bool.not_eq_false', Bool.not_eq_true, Bool.not_eq_false, Option.isNone_none, Option.isNone_some, Option.isSome_none, Option.isSome_some, ne_eq, Decidable.not_not] at hc2
                          refine WC.seq ?_
                          -- region 3 law.go:14
                          refine WC.region ?_
                          refine WL.val rfl rfl rfl rfl (r_assign rfl ev_c) ?_
                          refine WL.nil ?_
                          refine WX.keep [(0, _)] ⟨rfl, trivial⟩ ?_
                          refine WX.next ?_
                          refine WC.ret ?_
                          refine WX.thenRet ?_
                          refine WX.retE1 rfl rfl ?_
                          exact ⟨by simp, hU⟩
                      · try (exfalso; first | (simp at hc2; done) | (simp only [decide_eq_true_eq, decide_eq_false_iff_not, Bool.not_eq_true', Bool.not_eq_false', Bool.not_eq_true, Bool.not_eq_false] at hc2; omega) | omega)
                        all_goals
                          try simp only [decide_eq_true_eq, decide_eq_false_iff_not, Bool.not_eq_true', Bool.not_eq_false', Bool.not_eq_true, Bool.not_eq_false, Option.isNone_none, Option.isNone_some, Option.isSome_none, Option.isSome_some, ne_eq, Decidable.not_not] at hc2
                          refine WC.skip ?_
                          refine WX.next ?_
                          refine WC.seq ?_
                          -- region 4 law.go:16
                          refine WC.region ?_
                          refine WL.val rfl rfl rfl rfl (r_move rfl (ev_t rfl)) ?_
                          refine WL.cons (SO.call (Read_good hd D1_look) rfl body_20 ⟨(ev_t rfl), ev_c, trivial⟩ rfl rfl rfl rfl ?_)
                          rintro v w11 ⟨v, rfl, ho, hu11⟩
                          rw [D1_track] at ho
                          have hs11 := hu11.size
                          replace hU := hU.trans hu11 (by first | exact (fun _ _ h => h) | exact (fun _ _ h => h.elim) | (intro k hl hk; (try simp only [At, New, Grow, From, No] at hk ⊢); omega))
                          replace hd := hd.upd hu11 (by first | exact (fun _ _ _ h => h) | (intro k hk hl hS; simp only [At, New, Grow, From, No] at hk hS; omega))
                          obtain ⟨A, c, rfl, hc⟩ := Own.form ho
                          refine WL.val rfl rfl rfl rfl (r_move rfl (ev_t rfl)) ?_
                          refine WL.val rfl rfl rfl rfl (r_extract rfl (ev_t rfl) rfl) ?_
                          refine WL.val rfl rfl rfl rfl (r_extract rfl (ev_t rfl) rfl) ?_
                          refine WL.val rfl rfl rfl rfl (r_assign rfl (ev_t rfl)) ?_
                          refine WL.val rfl rfl rfl rfl (r_assign rfl (ev_t rfl)) ?_
                          refine WL.nil ?_
                          refine WX.keep [(3, _), (4, _)] ⟨rfl, rfl, trivial⟩ ?_
                          refine WX.next ?_
                          refine WC.seq ?_
                          -- region 5 law.go:17
                          refine WC.region ?_
                          refine WL.val rfl rfl rfl rfl (r_move rfl (ev_t rfl)) ?_
                          refine WL.val rfl rfl rfl rfl (r_eql rfl (ev_t rfl) ev_c) ?_
                          refine WL.val rfl rfl rfl rfl (r_move rfl (ev_t rfl)) ?_
                          refine WL.cases 47 rfl (fun hb5_2 => ?_) (fun hb5_2 => ?_)
                          · try (exfalso; first | (simp at hb5_2; done) | (simp only [decide_eq_true_eq, decide_eq_false_iff_not, Bool.not_eq_true', Bool.not_eq_false', Bool.not_eq_true, Bool.not_eq_false] at hb5_2; omega) | omega)
                            all_goals
                              try simp only [decide_eq_true_eq, decide_eq_false_iff_not, Bool.not_eq_true', Bool.not_eq_false', Bool.not_eq_true, Bool.not_eq_false, Option.isNone_none, Option.isNone_some, Option.isSome_none, Option.isSome_some, ne_eq, Decidable.not_not] at hb5_2
                              refine WL.val rfl rfl rfl rfl (r_move rfl (ev_t rfl)) ?_
                              refine WL.val rfl rfl rfl rfl (r_toStr rfl (ev_t rfl) (ho.rd (by simp)) elem_22 int_5 str_9) ?_
                              refine WL.val rfl rfl rfl rfl (r_eqlStrL rfl (ev_t rfl) ev_c) ?_
                              refine WL.val rfl rfl rfl rfl (r_pickT rfl (ev_t rfl) (ev_t rfl)) ?_
                              refine WL.val rfl rfl rfl rfl (r_assign rfl (ev_t rfl)) ?_
                              refine WL.nil ?_
                              refine WX.keep [(0, _)] ⟨rfl, trivial⟩ ?_
                              refine WX.next ?_
                              refine WC.ret ?_
                              refine WX.retE1 rfl rfl ?_
                              exact ⟨by simp, hU⟩
                          · try (exfalso; first | (simp at hb5_2; done) | (simp only [decide_eq_true_eq, decide_eq_false_iff_not, Bool.not_eq_true', Bool.not_eq_false', Bool.not_eq_true, Bool.not_eq_false] at hb5_2; omega) | omega)
                            all_goals
                              try simp only [decide_eq_true_eq, decide_eq_false_iff_not, Bool.not_eq_true', Bool.not_eq_false', Bool.not_eq_true, Bool.not_eq_false, Option.isNone_none, Option.isNone_some, Option.isSome_none, Option.isSome_some, ne_eq, Decidable.not_not] at hb5_2
                              refine WL.skip rfl rfl rfl ?_
                              refine WL.skip rfl rfl rfl ?_
                              refine WL.skip rfl rfl rfl ?_
                              refine WL.val rfl rfl rfl rfl (r_pickF rfl (ev_t rfl) ev_c) ?_
                              refine WL.val rfl rfl rfl rfl (r_assign rfl (ev_t rfl)) ?_
                              refine WL.nil ?_
                              refine WX.keep [(0, _)] ⟨rfl, trivial⟩ ?_
                              refine WX.next ?_
                              refine WC.ret ?_
                              refine WX.retE1 rfl rfl ?_
                              exact ⟨by simp, hU⟩

theorem drumNil.walk {w : World} {i : Int} {pv : Value} : Ret Try.prog 7 #[.int .i64 i, pv] w fun v w' => v = .bool true ∧ Upd No w w' := by
  refine enterRet (vs := [_, _]) (N := 66) Try.func7 rfl rfl rfl ?_
  have hU := Upd.refl No w
  refine WC.keep [(0, _), (1, _)] ⟨rfl, rfl, trivial⟩ ?_
  refine WC.seq ?_
  -- region 0 law.go:152
  refine WC.region ?_
  refine WL.val rfl rfl rfl rfl (r_assign rfl ev_c) ?_
  refine WL.nil ?_
  refine WX.keep [(0, _), (1, _)] ⟨rfl, rfl, trivial⟩ ?_
  refine WX.next ?_
  refine WC.seq ?_
  -- region 1 law.go:153
  refine WC.region ?_
  refine WL.val rfl rfl rfl rfl (r_assign rfl ev_c) ?_
  refine WL.nil ?_
  refine WX.keep [(0, _), (1, _), (5, _)] ⟨rfl, rfl, rfl, trivial⟩ ?_
  refine WX.next ?_
  refine WC.seq ?_
  -- region 2 law.go:154
  refine WC.region ?_
  refine WL.val rfl rfl rfl rfl (r_move rfl (ev_t rfl)) ?_
  refine WL.val rfl rfl rfl rfl (r_move rfl (ev_t rfl)) ?_
  refine WL.cons (SO.call (Read_nil) rfl body_20 ⟨(ev_t rfl), (ev_t rfl), trivial⟩ rfl rfl rfl rfl ?_)
  rintro v _ ⟨rfl, rfl⟩
  refine WL.val rfl rfl rfl rfl (r_move rfl (ev_t rfl)) ?_
  refine WL.val rfl rfl rfl rfl (r_extract rfl (ev_t rfl) rfl) ?_
  refine WL.val rfl rfl rfl rfl (r_extract rfl (ev_t rfl) rfl) ?_
  refine WL.val rfl rfl rfl rfl (r_assign rfl (ev_t rfl)) ?_
  refine WL.val rfl rfl rfl rfl (r_assign rfl (ev_t rfl)) ?_
  refine WL.nil ?_
  refine WX.keep [(0, _), (1, _), (5, _), (7, _)] ⟨rfl, rfl, rfl, rfl, trivial⟩ ?_
  refine WX.next ?_
  refine WC.seq ?_
  -- region 3 law.go:155
  refine WC.region ?_
  refine WL.cons (SO.call (awake13_ok _) rfl body_14 trivial rfl rfl rfl rfl ?_)
  rintro v w2 ⟨rfl, hu2⟩
  have hs2 := hu2.size
  replace hU := hU.trans hu2 (by first | exact (fun _ _ h => h) | exact (fun _ _ h => h.elim) | (intro k hl hk; (try simp only [At, New, Grow, From, No] at hk ⊢); omega))
  refine WL.val rfl rfl rfl rfl (r_move rfl (ev_t rfl)) ?_
  refine WL.cases 15 rfl (fun hb3_1 => ?_) (fun hb3_1 => ?_)
  · try (exfalso; first | (simp at hb3_1; done) | (simp only [decide_eq_true_eq, decide_eq_false_iff_not, Bool.not_eq_true', Bool.not_eq_false', Bool.not_eq_true, Bool.not_eq_false] at hb3_1; omega) | omega)
    all_goals
      try simp only [decide_eq_true_eq, decide_eq_false_iff_not, Bool.not_eq_true', Bool.not_eq_false', Bool.not_eq_true, Bool.not_eq_false, Option.isNone_none, Option.isNone_some, Option.isSome_none, Option.isSome_some, ne_eq, Decidable.not_not] at hb3_1
      refine WL.val rfl rfl rfl rfl (r_move rfl (ev_t rfl)) ?_
      refine WL.val rfl rfl rfl rfl (r_eql rfl (ev_t rfl) ev_c) ?_
      refine WL.val rfl rfl rfl rfl (r_pickT rfl (ev_t rfl) (ev_t rfl)) ?_
      refine WL.val rfl rfl rfl rfl (r_move rfl (ev_t rfl)) ?_
      refine WL.cases 19 rfl (fun hb3_5 => ?_) (fun hb3_5 => ?_)
      · try (exfalso; first | (simp at hb3_5; done) | (simp only [decide_eq_true_eq, decide_eq_false_iff_not, Bool.not_eq_true', Bool.not_eq_false', Bool.not_eq_true, Bool.not_eq_false] at hb3_5; omega) | omega)
        all_goals
          try simp only [decide_eq_true_eq, decide_eq_false_iff_not, Bool.not_eq_true', Bool.not_eq_false', Bool.not_eq_true, Bool.not_eq_false, Option.isNone_none, Option.isNone_some, Option.isSome_none, Option.isSome_some, ne_eq, Decidable.not_not] at hb3_5
          refine WL.val rfl rfl rfl rfl (r_move rfl (ev_t rfl)) ?_
          refine WL.val rfl rfl rfl rfl (r_move rfl (ev_t rfl)) ?_
          refine WL.val rfl rfl rfl rfl (r_move rfl (ev_t rfl)) ?_
          refine WL.cons (SO.call (Append_nil) rfl body_16 ⟨(ev_t rfl), (ev_t rfl), (ev_t rfl), trivial⟩ rfl rfl rfl rfl ?_)
          rintro v _ ⟨rfl, rfl⟩
          refine WL.val rfl rfl rfl rfl (r_eql rfl (ev_t rfl) ev_c) ?_
          refine WL.val rfl rfl rfl rfl (r_pickT rfl (ev_t rfl) (ev_t rfl)) ?_
          refine WL.val rfl rfl rfl rfl (r_move rfl (ev_t rfl)) ?_
          refine WL.cases 26 rfl (fun hb3_12 => ?_) (fun hb3_12 => ?_)
          · try (exfalso; first | (simp at hb3_12; done) | (simp only [decide_eq_true_eq, decide_eq_false_iff_not, Bool.not_eq_true', Bool.not_eq_false', Bool.not_eq_true, Bool.not_eq_false] at hb3_12; omega) | omega)
            all_goals
              try simp only [decide_eq_true_eq, decide_eq_false_iff_not, Bool.not_eq_true', Bool.not_eq_false', Bool.not_eq_true, Bool.not_eq_false, Option.isNone_none, Option.isNone_some, Option.isSome_none, Option.isSome_some, ne_eq, Decidable.not_not] at hb3_12
              refine WL.val rfl rfl rfl rfl (r_move rfl (ev_t rfl)) ?_
              refine WL.val rfl rfl rfl rfl (r_move rfl (ev_t rfl)) ?_
              refine WL.val rfl rfl rfl rfl (r_move rfl (ev_t rfl)) ?_
              refine WL.cons (SO.call (Write_nil) rfl body_18 ⟨(ev_t rfl), (ev_t rfl), (ev_t rfl), trivial⟩ rfl rfl rfl rfl ?_)
              rintro v _ ⟨rfl, rfl⟩
              refine WL.val rfl rfl rfl rfl (r_eql rfl (ev_t rfl) ev_c) ?_
              refine WL.val rfl rfl rfl rfl (r_pickT rfl (ev_t rfl) (ev_t rfl)) ?_
              refine WL.val rfl rfl rfl rfl (r_move rfl (ev_t rfl)) ?_
              refine WL.cases 33 rfl (fun hb3_19 => ?_) (fun hb3_19 => ?_)
              · try (exfalso; first | (simp at hb3_19; done) | (simp only [decide_eq_true_eq, decide_eq_false_iff_not, Bool.not_eq_true', Bool.not_eq_false', Bool.not_eq_true, Bool.not_eq_false] at hb3_19; omega) | omega)
                all_goals
                  try simp only [decide_eq_true_eq, decide_eq_false_iff_not, Bool.not_eq_true', Bool.not_eq_false', Bool.not_eq_true, Bool.not_eq_false, Option.isNone_none, Option.isNone_some, Option.isSome_none, Option.isSome_some, ne_eq, Decidable.not_not] at hb3_19
                  refine WL.val rfl rfl rfl rfl (r_move rfl (ev_t rfl)) ?_
                  refine WL.val rfl rfl rfl rfl (r_move rfl (ev_t rfl)) ?_
                  refine WL.cons (SO.call (Sync_nil) rfl body_17 ⟨(ev_t rfl), (ev_t rfl), trivial⟩ rfl rfl rfl rfl ?_)
                  rintro v _ ⟨rfl, rfl⟩
                  refine WL.val rfl rfl rfl rfl (r_eql rfl (ev_t rfl) ev_c) ?_
                  refine WL.val rfl rfl rfl rfl (r_pickT rfl (ev_t rfl) (ev_t rfl)) ?_
                  refine WL.val rfl rfl rfl rfl (r_move rfl (ev_t rfl)) ?_
                  refine WL.cases 39 rfl (fun hb3_25 => ?_) (fun hb3_25 => ?_)
                  · try (exfalso; first | (simp at hb3_25; done) | (simp only [decide_eq_true_eq, decide_eq_false_iff_not, Bool.not_eq_true', Bool.not_eq_false', Bool.not_eq_true, Bool.not_eq_false] at hb3_25; omega) | omega)
                    all_goals
                      try simp only [decide_eq_true_eq, decide_eq_false_iff_not, Bool.not_eq_true', Bool.not_eq_false', Bool.not_eq_true, Bool.not_eq_false, Option.isNone_none, Option.isNone_some, Option.isSome_none, Option.isSome_some, ne_eq, Decidable.not_not] at hb3_25
                      refine WL.val rfl rfl rfl rfl (r_move rfl (ev_t rfl)) ?_
                      refine WL.val rfl rfl rfl rfl (r_move rfl (ev_t rfl)) ?_
                      refine WL.cons (SO.call (Arm_nil) rfl body_21 ⟨(ev_t rfl), (ev_t rfl), trivial⟩ rfl rfl rfl rfl ?_)
                      rintro v _ ⟨rfl, rfl⟩
                      refine WL.val rfl rfl rfl rfl (r_eql rfl (ev_t rfl) ev_c) ?_
                      refine WL.val rfl rfl rfl rfl (r_pickT rfl (ev_t rfl) (ev_t rfl)) ?_
                      refine WL.val rfl rfl rfl rfl (r_move rfl (ev_t rfl)) ?_
                      refine WL.cases 45 rfl (fun hb3_31 => ?_) (fun hb3_31 => ?_)
                      · try (exfalso; first | (simp at hb3_31; done) | (simp only [decide_eq_true_eq, decide_eq_false_iff_not, Bool.not_eq_true', Bool.not_eq_false', Bool.not_eq_true, Bool.not_eq_false] at hb3_31; omega) | omega)
                        all_goals
                          try simp only [decide_eq_true_eq, decide_eq_false_iff_not, Bool.not_eq_true', Bool.not_eq_false', Bool.not_eq_true, Bool.not_eq_false, Option.isNone_none, Option.isNone_some, Option.isSome_none, Option.isSome_some, ne_eq, Decidable.not_not] at hb3_31
                          refine WL.val rfl rfl rfl rfl (r_move rfl (ev_t rfl)) ?_
                          refine WL.cons (SO.call (Restart_nil) rfl body_19 ⟨(ev_t rfl), ev_c, trivial⟩ rfl rfl rfl rfl ?_)
                          rintro v _ ⟨rfl, rfl⟩
                          refine WL.val rfl rfl rfl rfl (r_eql rfl (ev_t rfl) ev_c) ?_
                          refine WL.val rfl rfl rfl rfl (r_pickT rfl (ev_t rfl) (ev_t rfl)) ?_
                          refine WL.val rfl rfl rfl rfl (r_move rfl (ev_t rfl)) ?_
                          refine WL.cases 50 rfl (fun hb3_36 => ?_) (fun hb3_36 => ?_)
                          · try (exfalso; first | (simp at hb3_36; done) | (simp only [decide_eq_true_eq, decide_eq_false_iff_not, Bool.not_eq_true', Bool.not_eq_false', Bool.not_eq_true, Bool.not_eq_false] at hb3_36; omega) | omega)
                            all_goals
                              try simp only [decide_eq_true_eq, decide_eq_false_iff_not, Bool.not_eq_true', Bool.not_eq_false', Bool.not_eq_true, Bool.not_eq_false, Option.isNone_none, Option.isNone_some, Option.isSome_none, Option.isSome_some, ne_eq, Decidable.not_not] at hb3_36
                              refine WL.val rfl rfl rfl rfl (r_move rfl (ev_t rfl)) ?_
                              refine WL.cons (SO.call (On_nil) rfl body_22 ⟨(ev_t rfl), trivial⟩ rfl rfl rfl rfl ?_)
                              rintro v _ ⟨rfl, rfl⟩
                              refine WL.val rfl rfl rfl rfl (r_not rfl (ev_t rfl)) ?_
                              refine WL.val rfl rfl rfl rfl (r_pickT rfl (ev_t rfl) (ev_t rfl)) ?_
                              refine WL.val rfl rfl rfl rfl (r_move rfl (ev_t rfl)) ?_
                              refine WL.cases 55 rfl (fun hb3_41 => ?_) (fun hb3_41 => ?_)
                              · try (exfalso; first | (simp at hb3_41; done) | (simp only [decide_eq_true_eq, decide_eq_false_iff_not, Bool.not_eq_true', Bool.not_eq_false', Bool.not_eq_true, Bool.not_eq_false] at hb3_41; omega) | omega)
                                all_goals
                                  try simp only [decide_eq_true_eq, decide_eq_false_iff_not, Bool.not_eq_true', Bool.not_eq_false', Bool.not_eq_true, Bool.not_eq_false, Option.isNone_none, Option.isNone_some, Option.isSome_none, Option.isSome_some, ne_eq, Decidable.not_not] at hb3_41
                                  refine WL.val rfl rfl rfl rfl (r_move rfl (ev_t rfl)) ?_
                                  refine WL.cons (SO.call (Ops_nil) rfl body_23 ⟨(ev_t rfl), trivial⟩ rfl rfl rfl rfl ?_)
                                  rintro v _ ⟨rfl, rfl⟩
                                  refine WL.val rfl rfl rfl rfl (r_move rfl (ev_t rfl)) ?_
                                  refine WL.cons (SO.call (Tracks_nil) rfl body_24 ⟨(ev_t rfl), trivial⟩ rfl rfl rfl rfl ?_)
                                  rintro v _ ⟨rfl, rfl⟩
                                  first | refine WL.val rfl rfl rfl rfl (r_addN rfl (ev_t rfl) (ev_t rfl) (by simp only [inK]; omega)) ?_ | refine WL.val rfl rfl rfl rfl (r_add rfl (ev_t rfl) (ev_t rfl)) ?_
                                  refine WL.val rfl rfl rfl rfl (r_move rfl (ev_t rfl)) ?_
                                  refine WL.cons (SO.call (Most_nil) rfl body_25 ⟨(ev_t rfl), trivial⟩ rfl rfl rfl rfl ?_)
                                  rintro v _ ⟨rfl, rfl⟩
                                  first | refine WL.val rfl rfl rfl rfl (r_addN rfl (ev_t rfl) (ev_t rfl) (by simp only [inK]; omega)) ?_ | refine WL.val rfl rfl rfl rfl (r_add rfl (ev_t rfl) (ev_t rfl)) ?_
                                  refine WL.val rfl rfl rfl rfl (r_eql rfl (ev_t rfl) ev_c) ?_
                                  refine WL.val rfl rfl rfl rfl (r_pickT rfl (ev_t rfl) (ev_t rfl)) ?_
                                  refine WL.val rfl rfl rfl rfl (r_assign rfl (ev_t rfl)) ?_
                                  refine WL.nil ?_
                                  refine WX.keep [(4, _)] ⟨rfl, trivial⟩ ?_
                                  refine WX.next ?_
                                  refine WC.ret ?_
                                  refine WX.retE1 rfl rfl ?_
                                  exact ⟨rfl, hU⟩
                              · try (exfalso; first | (simp at hb3_41; done) | (simp only [decide_eq_true_eq, decide_eq_false_iff_not, Bool.not_eq_true', Bool.not_eq_false', Bool.not_eq_true, Bool.not_eq_false] at hb3_41; omega) | omega)
                                all_goals
                                  try simp only [decide_eq_true_eq, decide_eq_false_iff_not, Bool.not_eq_true', Bool.not_eq_false', Bool.not_eq_true, Bool.not_eq_false, Option.isNone_none, Option.isNone_some, Option.isSome_none, Option.isSome_some, ne_eq, Decidable.not_not] at hb3_41
                                  refine WL.skip rfl rfl rfl ?_
                                  refine WL.skip rfl rfl rfl ?_
                                  refine WL.skip rfl rfl rfl ?_
                                  refine WL.skip rfl rfl rfl ?_
                                  refine WL.skip rfl rfl rfl ?_
                                  refine WL.skip rfl rfl rfl ?_
                                  refine WL.skip rfl rfl rfl ?_
                                  refine WL.skip rfl rfl rfl ?_
                                  refine WL.skip rfl rfl rfl ?_
                                  refine WL.val rfl rfl rfl rfl (r_pickF rfl (ev_t rfl) ev_c) ?_
                                  refine WL.val rfl rfl rfl rfl (r_assign rfl (ev_t rfl)) ?_
                                  refine WL.nil ?_
                                  refine WX.keep [(4, _)] ⟨rfl, trivial⟩ ?_
                                  refine WX.next ?_
                                  refine WC.ret ?_
                                  refine WX.retE1 rfl rfl ?_
                                  exact ⟨rfl, hU⟩
                          · try (exfalso; first | (simp at hb3_36; done) | (simp only [decide_eq_true_eq, decide_eq_false_iff_not, Bool.not_eq_true', Bool.not_eq_false', Bool.not_eq_true, Bool.not_eq_false] at hb3_36; omega) | omega)
                            all_goals
                              try simp only [decide_eq_true_eq, decide_eq_false_iff_not, Bool.not_eq_true', Bool.not_eq_false', Bool.not_eq_true, Bool.not_eq_false, Option.isNone_none, Option.isNone_some, Option.isSome_none, Option.isSome_some, ne_eq, Decidable.not_not] at hb3_36
                              refine WL.skip rfl rfl rfl ?_
                              refine WL.skip rfl rfl rfl ?_
                              refine WL.skip rfl rfl rfl ?_
                              refine WL.val rfl rfl rfl rfl (r_pickF rfl (ev_t rfl) ev_c) ?_
                              refine WL.val rfl rfl rfl rfl (r_move rfl (ev_t rfl)) ?_
                              refine WL.skip rfl rfl rfl ?_
                              refine WL.skip rfl rfl rfl ?_
                              refine WL.skip rfl rfl rfl ?_
                              refine WL.skip rfl rfl rfl ?_
                              refine WL.skip rfl rfl rfl ?_
                              refine WL.skip rfl rfl rfl ?_
                              refine WL.skip rfl rfl rfl ?_
                              refine WL.skip rfl rfl rfl ?_
                              refine WL.skip rfl rfl rfl ?_
                              refine WL.val rfl rfl rfl rfl (r_pickF rfl (ev_t rfl) ev_c) ?_
                              refine WL.val rfl rfl rfl rfl (r_assign rfl (ev_t rfl)) ?_
                              refine WL.nil ?_
                              refine WX.keep [(4, _)] ⟨rfl, trivial⟩ ?_
                              refine WX.next ?_
                              refine WC.ret ?_
                              refine WX.retE1 rfl rfl ?_
                              exact ⟨rfl, hU⟩
                      · try (exfalso; first | (simp at hb3_31; done) | (simp only [decide_eq_true_eq, decide_eq_false_iff_not, Bool.not_eq_true', Bool.not_eq_false', Bool.not_eq_true, Bool.not_eq_false] at hb3_31; omega) | omega)
                        all_goals
                          try simp only [decide_eq_true_eq, decide_eq_false_iff_not, Bool.not_eq_true', Bool.not_eq_false', Bool.not_eq_true, Bool.not_eq_false, Option.isNone_none, Option.isNone_some, Option.isSome_none, Option.isSome_some, ne_eq, Decidable.not_not] at hb3_31
                          refine WL.skip rfl rfl rfl ?_
                          refine WL.skip rfl rfl rfl ?_
                          refine WL.skip rfl rfl rfl ?_
                          refine WL.val rfl rfl rfl rfl (r_pickF rfl (ev_t rfl) ev_c) ?_
                          refine WL.val rfl rfl rfl rfl (r_move rfl (ev_t rfl)) ?_
                          refine WL.skip rfl rfl rfl ?_
                          refine WL.skip rfl rfl rfl ?_
                          refine WL.skip rfl rfl rfl ?_
                          refine WL.val rfl rfl rfl rfl (r_pickF rfl (ev_t rfl) ev_c) ?_
                          refine WL.val rfl rfl rfl rfl (r_move rfl (ev_t rfl)) ?_
                          refine WL.skip rfl rfl rfl ?_
                          refine WL.skip rfl rfl rfl ?_
                          refine WL.skip rfl rfl rfl ?_
                          refine WL.skip rfl rfl rfl ?_
                          refine WL.skip rfl rfl rfl ?_
                          refine WL.skip rfl rfl rfl ?_
                          refine WL.skip rfl rfl rfl ?_
                          refine WL.skip rfl rfl rfl ?_
                          refine WL.skip rfl rfl rfl ?_
                          refine WL.val rfl rfl rfl rfl (r_pickF rfl (ev_t rfl) ev_c) ?_
                          refine WL.val rfl rfl rfl rfl (r_assign rfl (ev_t rfl)) ?_
                          refine WL.nil ?_
                          refine WX.keep [(4, _)] ⟨rfl, trivial⟩ ?_
                          refine WX.next ?_
                          refine WC.ret ?_
                          refine WX.retE1 rfl rfl ?_
                          exact ⟨rfl, hU⟩
                  · try (exfalso; first | (simp at hb3_25; done) | (simp only [decide_eq_true_eq, decide_eq_false_iff_not, Bool.not_eq_true', Bool.not_eq_false', Bool.not_eq_true, Bool.not_eq_false] at hb3_25; omega) | omega)
                    all_goals
                      try simp only [decide_eq_true_eq, decide_eq_false_iff_not, Bool.not_eq_true', Bool.not_eq_false', Bool.not_eq_true, Bool.not_eq_false, Option.isNone_none, Option.isNone_some, Option.isSome_none, Option.isSome_some, ne_eq, Decidable.not_not] at hb3_25
                      refine WL.skip rfl rfl rfl ?_
                      refine WL.skip rfl rfl rfl ?_
                      refine WL.skip rfl rfl rfl ?_
                      refine WL.skip rfl rfl rfl ?_
                      refine WL.val rfl rfl rfl rfl (r_pickF rfl (ev_t rfl) ev_c) ?_
                      refine WL.val rfl rfl rfl rfl (r_move rfl (ev_t rfl)) ?_
                      refine WL.skip rfl rfl rfl ?_
                      refine WL.skip rfl rfl rfl ?_
                      refine WL.skip rfl rfl rfl ?_
                      refine WL.val rfl rfl rfl rfl (r_pickF rfl (ev_t rfl) ev_c) ?_
                      refine WL.val rfl rfl rfl rfl (r_move rfl (ev_t rfl)) ?_
                      refine WL.skip rfl rfl rfl ?_
                      refine WL.skip rfl rfl rfl ?_
                      refine WL.skip rfl rfl rfl ?_
                      refine WL.val rfl rfl rfl rfl (r_pickF rfl (ev_t rfl) ev_c) ?_
                      refine WL.val rfl rfl rfl rfl (r_move rfl (ev_t rfl)) ?_
                      refine WL.skip rfl rfl rfl ?_
                      refine WL.skip rfl rfl rfl ?_
                      refine WL.skip rfl rfl rfl ?_
                      refine WL.skip rfl rfl rfl ?_
                      refine WL.skip rfl rfl rfl ?_
                      refine WL.skip rfl rfl rfl ?_
                      refine WL.skip rfl rfl rfl ?_
                      refine WL.skip rfl rfl rfl ?_
                      refine WL.skip rfl rfl rfl ?_
                      refine WL.val rfl rfl rfl rfl (r_pickF rfl (ev_t rfl) ev_c) ?_
                      refine WL.val rfl rfl rfl rfl (r_assign rfl (ev_t rfl)) ?_
                      refine WL.nil ?_
                      refine WX.keep [(4, _)] ⟨rfl, trivial⟩ ?_
                      refine WX.next ?_
                      refine WC.ret ?_
                      refine WX.retE1 rfl rfl ?_
                      exact ⟨rfl, hU⟩
              · try (exfalso; first | (simp at hb3_19; done) | (simp only [decide_eq_true_eq, decide_eq_false_iff_not, Bool.not_eq_true', Bool.not_eq_false', Bool.not_eq_true, Bool.not_eq_false] at hb3_19; omega) | omega)
                all_goals
                  try simp only [decide_eq_true_eq, decide_eq_false_iff_not, Bool.not_eq_true', Bool.not_eq_false', Bool.not_eq_true, Bool.not_eq_false, Option.isNone_none, Option.isNone_some, Option.isSome_none, Option.isSome_some, ne_eq, Decidable.not_not] at hb3_19
                  refine WL.skip rfl rfl rfl ?_
                  refine WL.skip rfl rfl rfl ?_
                  refine WL.skip rfl rfl rfl ?_
                  refine WL.skip rfl rfl rfl ?_
                  refine WL.val rfl rfl rfl rfl (r_pickF rfl (ev_t rfl) ev_c) ?_
                  refine WL.val rfl rfl rfl rfl (r_move rfl (ev_t rfl)) ?_
                  refine WL.skip rfl rfl rfl ?_
                  refine WL.skip rfl rfl rfl ?_
                  refine WL.skip rfl rfl rfl ?_
                  refine WL.skip rfl rfl rfl ?_
                  refine WL.val rfl rfl rfl rfl (r_pickF rfl (ev_t rfl) ev_c) ?_
                  refine WL.val rfl rfl rfl rfl (r_move rfl (ev_t rfl)) ?_
                  refine WL.skip rfl rfl rfl ?_
                  refine WL.skip rfl rfl rfl ?_
                  refine WL.skip rfl rfl rfl ?_
                  refine WL.val rfl rfl rfl rfl (r_pickF rfl (ev_t rfl) ev_c) ?_
                  refine WL.val rfl rfl rfl rfl (r_move rfl (ev_t rfl)) ?_
                  refine WL.skip rfl rfl rfl ?_
                  refine WL.skip rfl rfl rfl ?_
                  refine WL.skip rfl rfl rfl ?_
                  refine WL.val rfl rfl rfl rfl (r_pickF rfl (ev_t rfl) ev_c) ?_
                  refine WL.val rfl rfl rfl rfl (r_move rfl (ev_t rfl)) ?_
                  refine WL.skip rfl rfl rfl ?_
                  refine WL.skip rfl rfl rfl ?_
                  refine WL.skip rfl rfl rfl ?_
                  refine WL.skip rfl rfl rfl ?_
                  refine WL.skip rfl rfl rfl ?_
                  refine WL.skip rfl rfl rfl ?_
                  refine WL.skip rfl rfl rfl ?_
                  refine WL.skip rfl rfl rfl ?_
                  refine WL.skip rfl rfl rfl ?_
                  refine WL.val rfl rfl rfl rfl (r_pickF rfl (ev_t rfl) ev_c) ?_
                  refine WL.val rfl rfl rfl rfl (r_assign rfl (ev_t rfl)) ?_
                  refine WL.nil ?_
                  refine WX.keep [(4, _)] ⟨rfl, trivial⟩ ?_
                  refine WX.next ?_
                  refine WC.ret ?_
                  refine WX.retE1 rfl rfl ?_
                  exact ⟨rfl, hU⟩
          · try (exfalso; first | (simp at hb3_12; done) | (simp only [decide_eq_true_eq, decide_eq_false_iff_not, Bool.not_eq_true', Bool.not_eq_false', Bool.not_eq_true, Bool.not_eq_false] at hb3_12; omega) | omega)
            all_goals
              try simp only [decide_eq_true_eq, decide_eq_false_iff_not, Bool.not_eq_true', Bool.not_eq_false', Bool.not_eq_true, Bool.not_eq_false, Option.isNone_none, Option.isNone_some, Option.isSome_none, Option.isSome_some, ne_eq, Decidable.not_not] at hb3_12
              refine WL.skip rfl rfl rfl ?_
              refine WL.skip rfl rfl rfl ?_
              refine WL.skip rfl rfl rfl ?_
              refine WL.skip rfl rfl rfl ?_
              refine WL.skip rfl rfl rfl ?_
              refine WL.val rfl rfl rfl rfl (r_pickF rfl (ev_t rfl) ev_c) ?_
              refine WL.val rfl rfl rfl rfl (r_move rfl (ev_t rfl)) ?_
              refine WL.skip rfl rfl rfl ?_
              refine WL.skip rfl rfl rfl ?_
              refine WL.skip rfl rfl rfl ?_
              refine WL.skip rfl rfl rfl ?_
              refine WL.val rfl rfl rfl rfl (r_pickF rfl (ev_t rfl) ev_c) ?_
              refine WL.val rfl rfl rfl rfl (r_move rfl (ev_t rfl)) ?_
              refine WL.skip rfl rfl rfl ?_
              refine WL.skip rfl rfl rfl ?_
              refine WL.skip rfl rfl rfl ?_
              refine WL.skip rfl rfl rfl ?_
              refine WL.val rfl rfl rfl rfl (r_pickF rfl (ev_t rfl) ev_c) ?_
              refine WL.val rfl rfl rfl rfl (r_move rfl (ev_t rfl)) ?_
              refine WL.skip rfl rfl rfl ?_
              refine WL.skip rfl rfl rfl ?_
              refine WL.skip rfl rfl rfl ?_
              refine WL.val rfl rfl rfl rfl (r_pickF rfl (ev_t rfl) ev_c) ?_
              refine WL.val rfl rfl rfl rfl (r_move rfl (ev_t rfl)) ?_
              refine WL.skip rfl rfl rfl ?_
              refine WL.skip rfl rfl rfl ?_
              refine WL.skip rfl rfl rfl ?_
              refine WL.val rfl rfl rfl rfl (r_pickF rfl (ev_t rfl) ev_c) ?_
              refine WL.val rfl rfl rfl rfl (r_move rfl (ev_t rfl)) ?_
              refine WL.skip rfl rfl rfl ?_
              refine WL.skip rfl rfl rfl ?_
              refine WL.skip rfl rfl rfl ?_
              refine WL.skip rfl rfl rfl ?_
              refine WL.skip rfl rfl rfl ?_
              refine WL.skip rfl rfl rfl ?_
              refine WL.skip rfl rfl rfl ?_
              refine WL.skip rfl rfl rfl ?_
              refine WL.skip rfl rfl rfl ?_
              refine WL.val rfl rfl rfl rfl (r_pickF rfl (ev_t rfl) ev_c) ?_
              refine WL.val rfl rfl rfl rfl (r_assign rfl (ev_t rfl)) ?_
              refine WL.nil ?_
              refine WX.keep [(4, _)] ⟨rfl, trivial⟩ ?_
              refine WX.next ?_
              refine WC.ret ?_
              refine WX.retE1 rfl rfl ?_
              exact ⟨rfl, hU⟩
      · try (exfalso; first | (simp at hb3_5; done) | (simp only [decide_eq_true_eq, decide_eq_false_iff_not, Bool.not_eq_true', Bool.not_eq_false', Bool.not_eq_true, Bool.not_eq_false] at hb3_5; omega) | omega)
        all_goals
          try simp only [decide_eq_true_eq, decide_eq_false_iff_not, Bool.not_eq_true', Bool.not_eq_false', Bool.not_eq_true, Bool.not_eq_false, Option.isNone_none, Option.isNone_some, Option.isSome_none, Option.isSome_some, ne_eq, Decidable.not_not] at hb3_5
          refine WL.skip rfl rfl rfl ?_
          refine WL.skip rfl rfl rfl ?_
          refine WL.skip rfl rfl rfl ?_
          refine WL.skip rfl rfl rfl ?_
          refine WL.skip rfl rfl rfl ?_
          refine WL.val rfl rfl rfl rfl (r_pickF rfl (ev_t rfl) ev_c) ?_
          refine WL.val rfl rfl rfl rfl (r_move rfl (ev_t rfl)) ?_
          refine WL.skip rfl rfl rfl ?_
          refine WL.skip rfl rfl rfl ?_
          refine WL.skip rfl rfl rfl ?_
          refine WL.skip rfl rfl rfl ?_
          refine WL.skip rfl rfl rfl ?_
          refine WL.val rfl rfl rfl rfl (r_pickF rfl (ev_t rfl) ev_c) ?_
          refine WL.val rfl rfl rfl rfl (r_move rfl (ev_t rfl)) ?_
          refine WL.skip rfl rfl rfl ?_
          refine WL.skip rfl rfl rfl ?_
          refine WL.skip rfl rfl rfl ?_
          refine WL.skip rfl rfl rfl ?_
          refine WL.val rfl rfl rfl rfl (r_pickF rfl (ev_t rfl) ev_c) ?_
          refine WL.val rfl rfl rfl rfl (r_move rfl (ev_t rfl)) ?_
          refine WL.skip rfl rfl rfl ?_
          refine WL.skip rfl rfl rfl ?_
          refine WL.skip rfl rfl rfl ?_
          refine WL.skip rfl rfl rfl ?_
          refine WL.val rfl rfl rfl rfl (r_pickF rfl (ev_t rfl) ev_c) ?_
          refine WL.val rfl rfl rfl rfl (r_move rfl (ev_t rfl)) ?_
          refine WL.skip rfl rfl rfl ?_
          refine WL.skip rfl rfl rfl ?_
          refine WL.skip rfl rfl rfl ?_
          refine WL.val rfl rfl rfl rfl (r_pickF rfl (ev_t rfl) ev_c) ?_
          refine WL.val rfl rfl rfl rfl (r_move rfl (ev_t rfl)) ?_
          refine WL.skip rfl rfl rfl ?_
          refine WL.skip rfl rfl rfl ?_
          refine WL.skip rfl rfl rfl ?_
          refine WL.val rfl rfl rfl rfl (r_pickF rfl (ev_t rfl) ev_c) ?_
          refine WL.val rfl rfl rfl rfl (r_move rfl (ev_t rfl)) ?_
          refine WL.skip rfl rfl rfl ?_
          refine WL.skip rfl rfl rfl ?_
          refine WL.skip rfl rfl rfl ?_
          refine WL.skip rfl rfl rfl ?_
          refine WL.skip rfl rfl rfl ?_
          refine WL.skip rfl rfl rfl ?_
          refine WL.skip rfl rfl rfl ?_
          refine WL.skip rfl rfl rfl ?_
          refine WL.skip rfl rfl rfl ?_
          refine WL.val rfl rfl rfl rfl (r_pickF rfl (ev_t rfl) ev_c) ?_
          refine WL.val rfl rfl rfl rfl (r_assign rfl (ev_t rfl)) ?_
          refine WL.nil ?_
          refine WX.keep [(4, _)] ⟨rfl, trivial⟩ ?_
          refine WX.next ?_
          refine WC.ret ?_
          refine WX.retE1 rfl rfl ?_
          exact ⟨rfl, hU⟩
  · try (exfalso; first | (simp at hb3_1; done) | (simp only [decide_eq_true_eq, decide_eq_false_iff_not, Bool.not_eq_true', Bool.not_eq_false', Bool.not_eq_true, Bool.not_eq_false] at hb3_1; omega) | omega)
    all_goals
      try simp only [decide_eq_true_eq, decide_eq_false_iff_not, Bool.not_eq_true', Bool.not_eq_false', Bool.not_eq_true, Bool.not_eq_false, Option.isNone_none, Option.isNone_some, Option.isSome_none, Option.isSome_some, ne_eq, Decidable.not_not] at hb3_1
      refine WL.skip rfl rfl rfl ?_
      refine WL.skip rfl rfl rfl ?_
      refine WL.val rfl rfl rfl rfl (r_pickF rfl (ev_t rfl) ev_c) ?_
      refine WL.val rfl rfl rfl rfl (r_move rfl (ev_t rfl)) ?_
      refine WL.skip rfl rfl rfl ?_
      refine WL.skip rfl rfl rfl ?_
      refine WL.skip rfl rfl rfl ?_
      refine WL.skip rfl rfl rfl ?_
      refine WL.skip rfl rfl rfl ?_
      refine WL.val rfl rfl rfl rfl (r_pickF rfl (ev_t rfl) ev_c) ?_
      refine WL.val rfl rfl rfl rfl (r_move rfl (ev_t rfl)) ?_
      refine WL.skip rfl rfl rfl ?_
      refine WL.skip rfl rfl rfl ?_
      refine WL.skip rfl rfl rfl ?_
      refine WL.skip rfl rfl rfl ?_
      refine WL.skip rfl rfl rfl ?_
      refine WL.val rfl rfl rfl rfl (r_pickF rfl (ev_t rfl) ev_c) ?_
      refine WL.val rfl rfl rfl rfl (r_move rfl (ev_t rfl)) ?_
      refine WL.skip rfl rfl rfl ?_
      refine WL.skip rfl rfl rfl ?_
      refine WL.skip rfl rfl rfl ?_
      refine WL.skip rfl rfl rfl ?_
      refine WL.val rfl rfl rfl rfl (r_pickF rfl (ev_t rfl) ev_c) ?_
      refine WL.val rfl rfl rfl rfl (r_move rfl (ev_t rfl)) ?_
      refine WL.skip rfl rfl rfl ?_
      refine WL.skip rfl rfl rfl ?_
      refine WL.skip rfl rfl rfl ?_
      refine WL.skip rfl rfl rfl ?_
      refine WL.val rfl rfl rfl rfl (r_pickF rfl (ev_t rfl) ev_c) ?_
      refine WL.val rfl rfl rfl rfl (r_move rfl (ev_t rfl)) ?_
      refine WL.skip rfl rfl rfl ?_
      refine WL.skip rfl rfl rfl ?_
      refine WL.skip rfl rfl rfl ?_
      refine WL.val rfl rfl rfl rfl (r_pickF rfl (ev_t rfl) ev_c) ?_
      refine WL.val rfl rfl rfl rfl (r_move rfl (ev_t rfl)) ?_
      refine WL.skip rfl rfl rfl ?_
      refine WL.skip rfl rfl rfl ?_
      refine WL.skip rfl rfl rfl ?_
      refine WL.val rfl rfl rfl rfl (r_pickF rfl (ev_t rfl) ev_c) ?_
      refine WL.val rfl rfl rfl rfl (r_move rfl (ev_t rfl)) ?_
      refine WL.skip rfl rfl rfl ?_
      refine WL.skip rfl rfl rfl ?_
      refine WL.skip rfl rfl rfl ?_
      refine WL.skip rfl rfl rfl ?_
      refine WL.skip rfl rfl rfl ?_
      refine WL.skip rfl rfl rfl ?_
      refine WL.skip rfl rfl rfl ?_
      refine WL.skip rfl rfl rfl ?_
      refine WL.skip rfl rfl rfl ?_
      refine WL.val rfl rfl rfl rfl (r_pickF rfl (ev_t rfl) ev_c) ?_
      refine WL.val rfl rfl rfl rfl (r_assign rfl (ev_t rfl)) ?_
      refine WL.nil ?_
      refine WX.keep [(4, _)] ⟨rfl, trivial⟩ ?_
      refine WX.next ?_
      refine WC.ret ?_
      refine WX.retE1 rfl rfl ?_
      exact ⟨rfl, hU⟩
end Go.Proofs.Ytejlmcdmoghmaaa
