/-
  slices.Insert of a session.
-/
import Derived.Test.YtipabhbnljadfaaSeb
namespace Go.Proofs.Ytipabhbnljadfaa
open Go
set_option linter.unusedSimpArgs false
set_option linter.unusedVariables false

set_option maxHeartbeats 1000000 in
theorem insEnd_ok {w : World} {G K : Nat → Prop} {A B : Option Addr} {n c d : Nat} {xs : List Value} {r : LsV} (hO : Own w G 58 3 (.slice A n c) n xs) (hn : n ≤ 1000) (hv : Rd w K (.slice B 1 d) 1 3 r.cells) (h1 : r.v.oneCell' = true) :
    Ret Try.prog 22 #[.slice A n c, .int .i64 (n : Int), .slice B 1 d] w fun u w' => Own w' (Grow G w w') 58 3 u (n + 1) (xs ++ r.cells) ∧ Upd G w w' := by
  have hc : n ≤ c := by
    obtain ⟨A', c', e, h⟩ := hO.form
    simp only [Value.slice.injEq] at e
    omega
  refine enterRet (vs := [_, _, _]) (N := 95) Try.func22 rfl rfl rfl ?_
  have hU := Upd.refl G w
  refine WC.keep [(0, _), (1, _), (2, _)] ⟨rfl, rfl, rfl, trivial⟩ ?_
  refine WC.seq ?_
  refine WC.region ?_
  refine WL.val rfl rfl rfl rfl (r_assign rfl ev_c) ?_
  refine WL.nil ?_
  refine WX.keep [(0, _), (1, _), (2, _)] ⟨rfl, rfl, rfl, trivial⟩ ?_
  refine WX.next ?_
  refine WC.seq ?_
  refine WC.region ?_
  refine WL.val rfl rfl rfl rfl (r_move rfl (ev_t rfl)) ?_
  refine WL.val rfl rfl rfl rfl (r_move rfl (ev_t rfl)) ?_
  refine WL.val rfl rfl rfl rfl (r_slice (l := n) (h := n) rfl (ev_t rfl) elem_53 size_58 (bnd_some (ev_t rfl) (by omega)) bnd_none (by omega) (by omega) (by omega)) ?_
  refine WL.nil ?_
  refine WX.keep [(0, _), (1, _), (2, _)] ⟨rfl, rfl, rfl, trivial⟩ ?_
  refine WX.next ?_
  refine WC.seq ?_
  refine WC.region ?_
  refine WL.val rfl rfl rfl rfl (r_move rfl (ev_t rfl)) ?_
  refine WL.val rfl rfl rfl rfl (r_lenSlice (ts := #[]) rfl (ev_t rfl) elem_53) ?_
  refine WL.val rfl rfl rfl rfl (r_assign rfl (ev_t rfl)) ?_
  refine WL.nil ?_
  refine WX.keep [(0, _), (1, _), (2, _), (7, _)] ⟨rfl, rfl, rfl, rfl, trivial⟩ ?_
  refine WX.next ?_
  refine WC.seq ?_
  refine WC.seq ?_
  refine WC.region ?_
  refine WL.val rfl rfl rfl rfl (r_move rfl (ev_t rfl)) ?_
  refine WL.val rfl rfl rfl rfl (r_eql rfl (ev_t rfl) ev_c) ?_
  refine WL.nil ?_
  refine WX.keep [(0, _), (1, _), (2, _), (7, _), (16, _)] ⟨rfl, rfl, rfl, rfl, rfl, trivial⟩ ?_
  refine WX.next ?_
  refine WC.cond rfl (ev_t rfl) (fun hc3 => ?_) (fun hc3 => ?_)
  · try (exfalso; first | (simp at hc3; done) | (simp only [decide_eq_true_eq, decide_eq_false_iff_not, Bool.not_eq_true', Bool.not_eq_false', Bool.not_eq_true, Bool.not_eq_false] at hc3; omega) | omega)
    all_goals
     try simp only [decide_eq_true_eq, decide_eq_false_iff_not, Bool.not_eq_true', Bool.not_eq_false', Bool.not_eq_true, Bool.not_eq_false, Option.isNone_none, Option.isNone_some, Option.isSome_none, Option.isSome_some, ne_eq, Decidable.not_not] at hc3
     refine WC.seq ?_
     refine WC.region ?_
     refine WL.val rfl rfl rfl rfl (r_move rfl (ev_t rfl)) ?_
     refine WL.val rfl rfl rfl rfl (r_assign rfl (ev_t rfl)) ?_
     refine WL.nil ?_
     refine WX.keep [(6, _)] ⟨rfl, trivial⟩ ?_
     refine WX.next ?_
     refine WC.ret ?_
     refine WX.thenRet ?_
     refine WX.retE1 rfl rfl ?_
     fail
  · try (exfalso; first | (simp at hc3; done) | (simp only [decide_eq_true_eq, decide_eq_false_iff_not, Bool.not_eq_true', Bool.not_eq_false', Bool.not_eq_true, Bool.not_eq_false] at hc3; omega) | omega)
    all_goals
     try simp only [decide_eq_true_eq, decide_eq_false_iff_not, Bool.not_eq_true', Bool.not_eq_false', Bool.not_eq_true, Bool.not_eq_false, Option.isNone_none, Option.isNone_some, Option.isSome_none, Option.isSome_some, ne_eq, Decidable.not_not] at hc3
     refine WC.skip ?_
     refine WX.next ?_
     refine WC.seq ?_
     refine WC.region ?_
     refine WL.val rfl rfl rfl rfl (r_move rfl (ev_t rfl)) ?_
     refine WL.val rfl rfl rfl rfl (r_lenSlice (ts := #[]) rfl (ev_t rfl) elem_53) ?_
     refine WL.val rfl rfl rfl rfl (r_assign rfl (ev_t rfl)) ?_
     refine WL.nil ?_
     refine WX.keep [(0, _), (1, _), (2, _), (7, _), (8, _)] ⟨rfl, rfl, rfl, rfl, rfl, trivial⟩ ?_
     refine WX.next ?_
     refine WC.seq ?_
     refine WC.seq ?_
     refine WC.region ?_
     refine WL.val rfl rfl rfl rfl (r_move rfl (ev_t rfl)) ?_
     refine WL.val rfl rfl rfl rfl (r_move rfl (ev_t rfl)) ?_
     refine WL.val rfl rfl rfl rfl (r_eql rfl (ev_t rfl) (ev_t rfl)) ?_
     refine WL.nil ?_
     refine WX.keep [(0, _), (1, _), (2, _), (7, _), (8, _), (22, _)] ⟨rfl, rfl, rfl, rfl, rfl, rfl, trivial⟩ ?_
     refine WX.next ?_
     refine WC.cond rfl (ev_t rfl) (fun hc6 => ?_) (fun hc6 => ?_)
     · try (exfalso; first | (simp at hc6; done) | (simp only [decide_eq_true_eq, decide_eq_false_iff_not, Bool.not_eq_true', Bool.not_eq_false', Bool.not_eq_true, Bool.not_eq_false] at hc6; omega) | omega)
       all_goals
        try simp only [decide_eq_true_eq, decide_eq_false_iff_not, Bool.not_eq_true', Bool.not_eq_false', Bool.not_eq_true, Bool.not_eq_false, Option.isNone_none, Option.isNone_some, Option.isSome_none, Option.isSome_some, ne_eq, Decidable.not_not] at hc6
        refine WC.seq ?_
        refine WC.region ?_
        refine WL.val rfl rfl rfl rfl (r_move rfl (ev_t rfl)) ?_
        refine WL.val rfl rfl rfl rfl (r_move rfl (ev_t rfl)) ?_
        refine WL.cons (SO.append hO hv row_53 (by intro u hu; simp only [LsV.cells, lsC, List.mem_cons, List.not_mem_nil, or_false] at hu; rcases hu with rfl | rfl | rfl; rfl; rfl; exact h1) (le_maxLen (by omega)) (by omega) rfl (ev_t rfl) (ev_t rfl) rfl rfl rfl rfl ?_)
        intro v1 w1 ho hu1
        have hs1 := hu1.size
        replace hU := hU.transA hu1
        obtain ⟨A1, c1, rfl, hc1⟩ := Own.form ho
        refine WL.val rfl rfl rfl rfl (r_assign rfl (ev_t rfl)) ?_
        refine WL.nil ?_
        refine WX.keep [(6, _)] ⟨rfl, trivial⟩ ?_
        refine WX.next ?_
        refine WC.ret ?_
        refine WX.thenRet ?_
        refine WX.retE1 rfl rfl ?_
        exact ⟨ho, hU⟩
     · try (exfalso; first | (simp at hc6; done) | (simp only [decide_eq_true_eq, decide_eq_false_iff_not, Bool.not_eq_true', Bool.not_eq_false', Bool.not_eq_true, Bool.not_eq_false] at hc6; omega) | omega)
       all_goals
        try simp only [decide_eq_true_eq, decide_eq_false_iff_not, Bool.not_eq_true', Bool.not_eq_false', Bool.not_eq_true, Bool.not_eq_false, Option.isNone_none, Option.isNone_some, Option.isSome_none, Option.isSome_some, ne_eq, Decidable.not_not] at hc6
        refine WC.skip ?_
        refine WX.next ?_
        refine WC.seq ?_
        refine WC.seq ?_
        refine WC.region ?_
        refine WL.val rfl rfl rfl rfl (r_move rfl (ev_t rfl)) ?_
        refine WL.val rfl rfl rfl rfl (r_move rfl (ev_t rfl)) ?_
        first | refine WL.val rfl rfl rfl rfl (r_addN rfl (ev_t rfl) (ev_t rfl) (by simp only [inK]; omega)) ?_ | refine WL.val rfl rfl rfl rfl (r_add rfl (ev_t rfl) (ev_t rfl)) ?_
        refine WL.val rfl rfl rfl rfl (r_move rfl (ev_t rfl)) ?_
        fail -- 8.4 slices.go:147: ["Op.call", ["Call.mk", ["Callee.builtin", "Builtin.cap"], ["arr", ["Operand.tmp", "29"]], ["arr", "53"]]]

theorem flatMap_split {α : Type} {dec : α → List Value} {sz : Nat} (hd : ∀ a, (dec a).length = sz) (r : α) : ∀ {V : List α} {i : Nat}, i < V.length → ((V.set i r).flatMap dec) = (V.flatMap dec).take (i * sz) ++ dec r ++ (V.flatMap dec).drop (i * sz + sz)
  | [], i, h => by simp at h
  | a :: V, 0, _ => by
    simp only [List.set_cons_zero, List.flatMap_cons, Nat.zero_mul, List.take_zero, List.nil_append, Nat.zero_add]
    rw [List.drop_left' (hd a)]
  | a :: V, i + 1, h => by
    simp only [List.length_cons] at h
    have ih := flatMap_split hd r (V := V) (i := i) (by omega)
    have e1 : (i + 1) * sz = (dec a).length + i * sz := by rw [hd, Nat.add_mul, Nat.one_mul, Nat.add_comm]
    simp only [List.set_cons_succ, List.flatMap_cons]
    rw [ih, e1, List.take_length_add_append, Nat.add_assoc, List.drop_length_add_append]
    simp only [List.append_assoc]
theorem flat_len {α : Type} {dec : α → List Value} {sz : Nat} (hd : ∀ a, (dec a).length = sz) : ∀ V : List α, (V.flatMap dec).length = V.length * sz
  | [] => by simp
  | a :: V => by rw [List.flatMap_cons, List.length_append, hd, flat_len hd V, List.length_cons, Nat.add_mul, Nat.one_mul, Nat.add_comm]
/-- a row of which one element was written over -/
theorem row_set {cur : List Value} {V : List LsV} {r : LsV} {i : Nat} (hc : cur.take (V.length * 3) = V.flatMap LsV.cells) (hi : i < V.length) :
    (cur.take (i * 3) ++ r.cells ++ cur.drop (i * 3 + 3)).take (V.length * 3) = (V.set i r).flatMap LsV.cells := by
  have hl := flat_len LsV.cells_len V
  have e : cur = V.flatMap LsV.cells ++ cur.drop (V.length * 3) := by rw [← hc, List.take_append_drop]
  generalize cur.drop (V.length * 3) = rest at e
  subst e
  have h1 : (V.flatMap LsV.cells ++ rest).take (i * 3) = (V.flatMap LsV.cells).take (i * 3) := List.take_append_of_le_length (by rw [hl]; omega)
  have h2 : (V.flatMap LsV.cells ++ rest).drop (i * 3 + 3) = (V.flatMap LsV.cells).drop (i * 3 + 3) ++ rest := List.drop_append_of_le_length (by rw [hl]; omega)
  rw [flatMap_split LsV.cells_len r hi, h1, h2, ← List.append_assoc]
  rw [List.take_left' (by simp only [List.length_append, List.length_take, List.length_drop, hl, LsV.cells_len]; omega)]

set_option maxHeartbeats 2000000 in
theorem Put_ok {w : World} {R K : Nat → Prop} {t : Nat} {L : List Ls} {id num n : Nat} {pv : Value} {data : List UInt8} (hT : IsT w R t L) (hL : TOK L) (hid : id < 18446744073709551616) (hnum : num < 18446744073709551616)
    (hp : Rd w K pv n 1 (data.map U8)) (hend : (askS L id num).2 = 6 → isAt L id = true ∨ lbI L id = L.length) :
    Ret Try.prog 11 #[.pointer (some ⟨t, 0, none⟩), .int .u64 (id : Int), .int .u64 (num : Int), pv] w fun u w' => u = .int .i64 ((putS L ⟨id, num, data⟩).2 : Int) ∧ IsT w' (Grow R w w') t (putS L ⟨id, num, data⟩).1 ∧ Upd R w w' := by
  have hpn := hp.lenB
  have hpm := hp.le
  have hput : putS L ⟨id, num, data⟩ = if (askS L id num).2 = 6 then (insS L ⟨id, num, data⟩, 0) else if (askS L id num).2 = 0 then (L, 7) else (L, (askS L id num).2) := rfl
  have hT' := hT
  obtain ⟨A, c, V, G, H, hB, hO, hD, hLV, hRt, htl, hG, hH⟩ := hT'
  have hm := hL.most
  rw [← hLV] at hm
  simp only [lsOf, List.length_map] at hm
  generalize hask : (askS L id num).2 = e at hput hend
  obtain ⟨i, hi⟩ : ∃ i, lbI L id = i := ⟨_, rfl⟩
  have hil : i ≤ V.length := by rw [← hi]; have := lbI_le L id; rw [← hLV] at this ⊢; simpa using this
  have hat : isAt L id = true → i < V.length := fun h => by
    unfold isAt at h
    rw [hi, ← hLV, List.getElem?_map] at h
    rcases Nat.lt_or_ge i V.length with h1 | h1
    · exact h1
    · rw [List.getElem?_eq_none h1] at h; cases h
  refine enterRet (vs := [_, _, _, _]) (N := 56) Try.func11 rfl rfl rfl ?_
  have hU := Upd.refl No w
  refine WC.keep [(0, _), (1, _), (2, _), (3, _)] ⟨rfl, rfl, rfl, rfl, trivial⟩ ?_
  refine WC.seq ?_
  refine WC.region ?_
  refine WL.val rfl rfl rfl rfl (r_assign rfl ev_c) ?_
  refine WL.nil ?_
  refine WX.keep [(0, _), (1, _), (2, _), (3, _)] ⟨rfl, rfl, rfl, rfl, trivial⟩ ?_
  refine WX.next ?_
  refine WC.seq ?_
  refine WC.seq ?_
  refine WC.region ?_
  refine WL.val rfl rfl rfl rfl (r_move rfl (ev_t rfl)) ?_
  refine WL.val rfl rfl rfl rfl (r_move rfl (ev_t rfl)) ?_
  refine WL.val rfl rfl rfl rfl (r_move rfl (ev_t rfl)) ?_
  refine WL.cons (SO.call (Ask_ok hT hL hid hnum) rfl body_12 ⟨(ev_t rfl), (ev_t rfl), (ev_t rfl), trivial⟩ rfl rfl rfl rfl ?_)
  rintro v w1 ⟨v9, rfl, _, hu1⟩
  rw [hask]
  have hs1 := hu1.size
  replace hU := hU.transA hu1
  replace hB := hB.upd hu1 (by first | exact (fun h => h) | (simp only [At]; omega))
  replace hO := hO.upd hu1 (by first | exact (fun _ _ _ h => h) | (intro k hk hl hS; have := hG k hk; simp only [At] at hS; omega))
  refine WL.val rfl rfl rfl rfl (r_move rfl (ev_t rfl)) ?_
  refine WL.val rfl rfl rfl rfl (r_extract rfl (ev_t rfl) rfl) ?_
  refine WL.val rfl rfl rfl rfl (r_extract rfl (ev_t rfl) rfl) ?_
  refine WL.val rfl rfl rfl rfl (r_assign rfl (ev_t rfl)) ?_
  refine WL.val rfl rfl rfl rfl (r_assign rfl (ev_t rfl)) ?_
  refine WL.nil ?_
  refine WX.keep [(0, _), (1, _), (2, _), (3, _), (10, _)] ⟨rfl, rfl, rfl, rfl, rfl, trivial⟩ ?_
  refine WX.next ?_
  refine WC.seq ?_
  refine WC.region ?_
  refine WL.val rfl rfl rfl rfl (r_move rfl (ev_t rfl)) ?_
  refine WL.val rfl rfl rfl rfl (r_neq rfl (ev_t rfl) ev_c) ?_
  refine WL.nil ?_
  refine WX.keep [(0, _), (1, _), (2, _), (3, _), (10, _), (22, _)] ⟨rfl, rfl, rfl, rfl, rfl, rfl, trivial⟩ ?_
  refine WX.next ?_
  refine WC.cond rfl (ev_t rfl) (fun hc2 => ?_) (fun hc2 => ?_)
  · try (exfalso; first | (simp at hc2; done) | (simp only [decide_eq_true_eq, decide_eq_false_iff_not, Bool.not_eq_true', Bool.not_eq_false', Bool.not_eq_true, Bool.not_eq_false] at hc2; omega) | omega)
    all_goals
     try simp only [decide_eq_true_eq, decide_eq_false_iff_not, Bool.not_eq_true', Bool.not_eq_false', Bool.not_eq_true, Bool.not_eq_false, Option.isNone_none, Option.isNone_some, Option.isSome_none, Option.isSome_some, ne_eq, Decidable.not_not] at hc2
     refine WC.seq ?_
     refine WC.seq ?_
     refine WC.region ?_
     refine WL.val rfl rfl rfl rfl (r_move rfl (ev_t rfl)) ?_
     refine WL.val rfl rfl rfl rfl (r_eql rfl (ev_t rfl) ev_c) ?_
     refine WL.nil ?_
     refine WX.keep [(10, _), (24, _)] ⟨rfl, rfl, trivial⟩ ?_
     refine WX.next ?_
     refine WC.cond rfl (ev_t rfl) (fun hc3 => ?_) (fun hc3 => ?_)
     · try (exfalso; first | (simp at hc3; done) | (simp only [decide_eq_true_eq, decide_eq_false_iff_not, Bool.not_eq_true', Bool.not_eq_false', Bool.not_eq_true, Bool.not_eq_false] at hc3; omega) | omega)
       all_goals
        try simp only [decide_eq_true_eq, decide_eq_false_iff_not, Bool.not_eq_true', Bool.not_eq_false', Bool.not_eq_true, Bool.not_eq_false, Option.isNone_none, Option.isNone_some, Option.isSome_none, Option.isSome_some, ne_eq, Decidable.not_not] at hc3
        refine WC.seq ?_
        refine WC.region ?_
        refine WL.val rfl rfl rfl rfl (r_assign rfl ev_c) ?_
        refine WL.nil ?_
        refine WX.keep [(8, _)] ⟨rfl, trivial⟩ ?_
        refine WX.next ?_
        refine WC.ret ?_
        refine WX.thenRet ?_
        refine WX.thenRet ?_
        refine WX.retE1 rfl rfl ?_
        have e9 : putS L ⟨id, num, data⟩ = (L, 7) := by rw [hput, if_neg (by omega), if_pos (by omega)]
        rw [e9]
        exact ⟨rfl, (hT.upd hU (fun _ _ _ h => h)).mono (fun k hk _ => .inl hk), hU.mono (fun _ _ h => h.elim)⟩
     · try (exfalso; first | (simp at hc3; done) | (simp only [decide_eq_true_eq, decide_eq_false_iff_not, Bool.not_eq_true', Bool.not_eq_false', Bool.not_eq_true, Bool.not_eq_false] at hc3; omega) | omega)
       all_goals
        try simp only [decide_eq_true_eq, decide_eq_false_iff_not, Bool.not_eq_true', Bool.not_eq_false', Bool.not_eq_true, Bool.not_eq_false, Option.isNone_none, Option.isNone_some, Option.isSome_none, Option.isSome_some, ne_eq, Decidable.not_not] at hc3
        refine WC.skip ?_
        refine WX.next ?_
        refine WC.seq ?_
        refine WC.region ?_
        refine WL.val rfl rfl rfl rfl (r_move rfl (ev_t rfl)) ?_
        refine WL.val rfl rfl rfl rfl (r_assign rfl (ev_t rfl)) ?_
        refine WL.nil ?_
        refine WX.keep [(8, _)] ⟨rfl, trivial⟩ ?_
        refine WX.next ?_
        refine WC.ret ?_
        refine WX.thenRet ?_
        refine WX.retE1 rfl rfl ?_
        have e9 : putS L ⟨id, num, data⟩ = (L, e) := by rw [hput, if_neg (by omega), if_neg (by omega)]
        rw [e9]
        exact ⟨rfl, (hT.upd hU (fun _ _ _ h => h)).mono (fun k hk _ => .inl hk), hU.mono (fun _ _ h => h.elim)⟩
  · try (exfalso; first | (simp at hc2; done) | (simp only [decide_eq_true_eq, decide_eq_false_iff_not, Bool.not_eq_true', Bool.not_eq_false', Bool.not_eq_true, Bool.not_eq_false] at hc2; omega) | omega)
    all_goals
     try simp only [decide_eq_true_eq, decide_eq_false_iff_not, Bool.not_eq_true', Bool.not_eq_false', Bool.not_eq_true, Bool.not_eq_false, Option.isNone_none, Option.isNone_some, Option.isSome_none, Option.isSome_some, ne_eq, Decidable.not_not] at hc2
     refine WC.skip ?_
     refine WX.next ?_
     refine WC.seq ?_
     refine WC.region ?_
     refine WL.val rfl rfl rfl rfl (r_move rfl (ev_t rfl)) ?_
     refine WL.val rfl rfl rfl rfl (r_move rfl (ev_t rfl)) ?_
     refine WL.val rfl rfl rfl rfl (r_move rfl (ev_t rfl)) ?_
     refine WL.cons (SO.call (clone_ok (hp.upd hU (fun _ _ _ h => h))) rfl body_20 ⟨(ev_t rfl), trivial⟩ rfl rfl rfl rfl ?_)
     rintro v w2 ⟨hcl, hu2⟩
     obtain ⟨As, cs, rfl, hcs⟩ := Own.form hcl
     have hCn : ∀ k, New w1 w2 k → w.heap.size ≤ k ∧ k < w2.heap.size := fun k hk => by simp only [New] at hk; omega
     generalize New w1 w2 = C at *
     have hs2 := hu2.size
     replace hU := hU.transA hu2
     replace hB := hB.upd hu2 (by first | exact (fun h => h) | (simp only [At]; omega))
     replace hO := hO.upd hu2 (by first | exact (fun _ _ _ h => h) | (intro k hk hl hS; have := hG k hk; simp only [At] at hS; omega))
     refine WL.val rfl rfl rfl rfl (r_build (cs := #[_, _, _]) (vs := [(0, _), (1, _), (2, _)]) rfl ⟨⟨rfl, (ev_t rfl)⟩, ⟨rfl, (ev_t rfl)⟩, ⟨rfl, (ev_t rfl)⟩, trivial⟩ plc_58 zero_58 rfl) ?_
     refine WL.cons (SO.alloc rfl rfl rfl rfl (r_alloc rfl zero_58) ?_)
     intro w3 hu3 hB3 hz3
     have hs3 := hu3.size
     replace hU := hU.transA hu3
     replace hB := hB.upd hu3 (by first | exact (fun h => h) | (simp only [At]; omega))
     replace hO := hO.upd hu3 (by first | exact (fun _ _ _ h => h) | (intro k hk hl hS; have := hG k hk; simp only [At] at hS; omega))
     replace hcl := hcl.upd hu3 (by first | exact (fun _ _ _ h => h) | (intro k hk hl hS; have := hCn k hk; simp only [At] at hS; omega))
     refine WL.cons (SO.storeAll (us := [_, _, _]) rfl (ev_t rfl) (ev_t rfl) size_58 hB3 rfl rfl rfl rfl rfl ?_)
     intro w4 hu4 hB3 hz4
     have hs4 := hu4.size
     replace hU := hU.transA hu4
     replace hB := hB.upd hu4 (by first | exact (fun h => h) | (simp only [At]; omega))
     replace hO := hO.upd hu4 (by first | exact (fun _ _ _ h => h) | (intro k hk hl hS; have := hG k hk; simp only [At] at hS; omega))
     replace hcl := hcl.upd hu4 (by first | exact (fun _ _ _ h => h) | (intro k hk hl hS; have := hCn k hk; simp only [At] at hS; omega))
     refine WL.nil ?_
     refine WX.keep [(0, _), (1, _), (11, _)] ⟨rfl, rfl, rfl, trivial⟩ ?_
     have hBx : Blk w4 _ #[.int .u64 (id : Int), .int .u64 (num : Int), .slice As n cs] 58 := hB3
     refine WX.next ?_
     refine WC.seq ?_
     refine WC.region ?_
     refine WL.val rfl rfl rfl rfl (r_move rfl (ev_t rfl)) ?_
     refine WL.val rfl rfl rfl rfl (r_move rfl (ev_t rfl)) ?_
     refine WL.cons (SO.call (find_ok (hT.upd hU (fun _ _ _ h => h)) hL hid) rfl body_21 ⟨(ev_t rfl), (ev_t rfl), trivial⟩ rfl rfl rfl rfl ?_)
     rintro v w5 ⟨rfl, hu5⟩
     rw [hi]
     have hs5 := hu5.size
     replace hU := hU.transA hu5
     replace hB := hB.upd hu5 (by first | exact (fun h => h) | (simp only [At]; omega))
     replace hO := hO.upd hu5 (by first | exact (fun _ _ _ h => h) | (intro k hk hl hS; have := hG k hk; simp only [At] at hS; omega))
     replace hcl := hcl.upd hu5 (by first | exact (fun _ _ _ h => h) | (intro k hk hl hS; have := hCn k hk; simp only [At] at hS; omega))
     replace hBx := hBx.upd hu5 (by first | exact (fun h => h) | (simp only [At]; omega))
     refine WL.val rfl rfl rfl rfl (r_move rfl (ev_t rfl)) ?_
     refine WL.val rfl rfl rfl rfl (r_extract rfl (ev_t rfl) rfl) ?_
     refine WL.val rfl rfl rfl rfl (r_extract rfl (ev_t rfl) rfl) ?_
     refine WL.val rfl rfl rfl rfl (r_assign rfl (ev_t rfl)) ?_
     refine WL.val rfl rfl rfl rfl (r_assign rfl (ev_t rfl)) ?_
     refine WL.nil ?_
     refine WX.keep [(0, _), (11, _), (12, _), (13, _)] ⟨rfl, rfl, rfl, rfl, trivial⟩ ?_
     refine WX.next ?_
     refine WC.seq ?_
     refine WC.seq ?_
     refine WC.region ?_
     refine WL.val rfl rfl rfl rfl (r_move rfl (ev_t rfl)) ?_
     refine WL.nil ?_
     refine WX.keep [(0, _), (11, _), (12, _), (37, _)] ⟨rfl, rfl, rfl, rfl, trivial⟩ ?_
     refine WX.next ?_
     refine WC.cond rfl (ev_t rfl) (fun hc8 => ?_) (fun hc8 => ?_)
     · try (exfalso; first | (simp at hc8; done) | (simp only [decide_eq_true_eq, decide_eq_false_iff_not, Bool.not_eq_true', Bool.not_eq_false', Bool.not_eq_true, Bool.not_eq_false] at hc8; omega) | omega)
       all_goals
        try simp only [decide_eq_true_eq, decide_eq_false_iff_not, Bool.not_eq_true', Bool.not_eq_false', Bool.not_eq_true, Bool.not_eq_false, Option.isNone_none, Option.isNone_some, Option.isSome_none, Option.isSome_some, ne_eq, Decidable.not_not] at hc8
        have hat' := hat (by assumption)
        obtain ⟨g, cap, cur, eS, hg, hGg, hc1, hc2, hc3, hc4⟩ := hO.open (by omega)
        simp only [Value.slice.injEq, true_and] at eS
        obtain ⟨rfl, rfl⟩ := eS
        refine WC.draws' (fun u0_ u1_ => Upd No u0_ u1_) (fun j => [0, 0, 0, 0, 0, 1, 0, 2].getD j 0) (.calm 0 (.calm 1 (.calm 2 (.calm 4 (.held 3 (.one 5 (.calm 6 (.one 7 (.done))))))))) mixed (by kernel_rfl) (by repeat (first | with_reducible exact Deaf.body | with_reducible apply Deaf.then | with_reducible apply Deaf.block)) ?_
        intro w6 hu6
        have hz6 := congrArg Array.size hu6.2.2.2
        replace hu6 := Upd.of_draw hu6
        have hs6 := hu6.size
        replace hU := hU.transA hu6
        replace hB := hB.upd hu6 (by first | exact (fun h => h) | (simp only [At]; omega))
        replace hcl := hcl.upd hu6 (by first | exact (fun _ _ _ h => h) | (intro k hk hl hS; have := hCn k hk; simp only [At] at hS; omega))
        replace hBx := hBx.upd hu6 (by first | exact (fun h => h) | (simp only [At]; omega))
        replace hg := hg.upd hu6 (by first | exact (fun h => h) | (simp only [At]; omega))
        have hS9 := Upd.refl No w6
        refine WN.calm _ rfl rfl rfl rfl rfl (fun _ => r_move rfl (ev_t rfl)) ?_
        refine WN.calm _ rfl rfl rfl rfl rfl (fun _ => r_nilCheck rfl (ev_t rfl)) ?_
        first | refine WN.calm _ rfl rfl rfl rfl rfl (fun _ => r_field0 rfl (ev_t rfl) fld_55_0) ?_ | refine WN.calm _ rfl rfl rfl rfl rfl (fun _ => r_fieldAt rfl (ev_t rfl) fld_55_0) ?_
        refine WN.calm _ rfl rfl rfl rfl rfl (fun _ => r_move rfl (ev_t rfl)) ?_
        refine WN.held _ rfl rfl rfl rfl rfl hS9 (fun w' hS => r_load rfl (ev_t rfl) flat_53 (Blk.cell (hB.upd hS (fun h => h)) rfl)) ?_
        refine WN.step _ rfl (SO.val rfl rfl rfl rfl (r_loadAgg (vs := [_, _, _]) rfl (ev_t rfl) agg_58 size_58 (Blk.cellsL hBx)) ?_)
        refine ⟨hS9, ?_⟩
        refine WN.calm _ rfl rfl rfl rfl rfl (fun _ => r_indexAddr rfl (ev_t rfl) (ev_t rfl) elem_53 size_58 (by omega) (by omega)) ?_
        refine WN.step _ rfl (SO.storeN (us := [_, _, _]) rfl (ev_t rfl) (ev_t rfl) size_58 hg (by simp only [List.length_cons, List.length_nil]; omega) rfl rfl rfl rfl ?_)
        intro w7 hu7 hg2 hz
        rw [show (0 : Nat) + ((i : Nat) : Int).toNat * 3 = i * 3 by omega] at hg2
        have hFin : IsT w7 (Grow R w w7) t (L.set i ⟨id, num, data⟩) ∧ Upd R w w7 := by
          have hgt := hG g hGg
          have hss := hu7.size
          refine ⟨?_, (hU.mono (fun _ _ h => h.elim)).trans hu7 (fun k _ hk => by simp only [At] at hk; subst hk; exact hgt.1)⟩
          unfold IsT
          refine ⟨some ⟨g, 0, none⟩, c, V.set i ⟨⟨id, num, data⟩, .slice As n cs⟩, G, fun k => H k ∨ C k, ?_, ?_, ?_, by rw [← hLV, lsOf, List.map_set], .inl hRt, by omega, fun k hk => ⟨.inl (hG k hk).1, (hG k hk).2.1, by have := (hG k hk).2.2; omega⟩, ?_⟩
          · rw [List.length_set]
            exact hB.upd hu7 (by simp only [At]; omega)
          · rw [List.length_set]
            have hO3 := Own.shut (sz := 3) (n := V.length) hg2 hGg hc1 hc2 (by simp only [List.size_toArray, List.length_append, List.length_take, List.length_drop, Array.length_toList, List.length_cons, List.length_nil]; omega)
            rw [← row_set hc4 hat']
            exact hO3
          · intro r hr
            rcases List.mem_or_eq_of_mem_set hr with hr | rfl
            · exact (((hD r hr).upd hU (fun _ _ _ h => h)).upd hu7 (fun k hk _ hS => by simp only [At] at hS; subst hS; exact (hH k hk).2.2.1 hGg)).mono (fun k hk => .inl hk)
            · have h9 := ((hcl.rd (by omega)).upd hu7 (fun k hk hl hS => by have := hCn k hk; simp only [At] at hS; omega)).mono (F' := fun k => H k ∨ C k) (fun k hk => .inr hk)
              simp only [hpn] at h9 ⊢
              exact h9
          · rintro k (hk | hk)
            · have := hH k hk; exact ⟨.inl this.1, this.2.1, this.2.2.1, by omega⟩
            · have := hCn k hk; exact ⟨.inr ⟨by omega, by omega⟩, by omega, fun h => by have := hG k h; omega, by omega⟩
        refine ⟨trivial, ?_⟩
        refine WN.done ?_
        refine WX.keep [] trivial ?_
        refine WX.next ?_
        refine WC.seq ?_
        refine WC.region ?_
        refine WL.val rfl rfl rfl rfl (r_assign rfl ev_c) ?_
        refine WL.nil ?_
        refine WX.keep [(8, _)] ⟨rfl, trivial⟩ ?_
        refine WX.next ?_
        refine WC.ret ?_
        refine WX.retE1 rfl rfl ?_
        first | (have e9 : putS L ⟨id, num, data⟩ = (L.set i ⟨id, num, data⟩, 0) := by (rw [hput, if_pos (by omega)]; unfold insS; rw [if_pos (by assumption), hi])); rw [e9]; exact ⟨rfl, hFin⟩ | (have e9 : putS L ⟨id, num, data⟩ = (L ++ [⟨id, num, data⟩], 0) := by (rw [hput, if_pos (by omega)]; unfold insS; rw [if_neg (by simp_all)]; simp only [hi]; rw [show V.length = L.length by rw [← hLV, lsOf, List.length_map]]; simp)); rw [e9]; exact ⟨rfl, hFin⟩
     · try (exfalso; first | (simp at hc8; done) | (simp only [decide_eq_true_eq, decide_eq_false_iff_not, Bool.not_eq_true', Bool.not_eq_false', Bool.not_eq_true, Bool.not_eq_false] at hc8; omega) | omega)
       all_goals
        try simp only [decide_eq_true_eq, decide_eq_false_iff_not, Bool.not_eq_true', Bool.not_eq_false', Bool.not_eq_true, Bool.not_eq_false, Option.isNone_none, Option.isNone_some, Option.isSome_none, Option.isSome_some, ne_eq, Decidable.not_not] at hc8
        have hin : i = V.length := by
          have h9 := (hend (by omega)).resolve_left (by simp_all)
          rw [hi, ← hLV] at h9
          simpa using h9
        subst hin
        refine WC.draws' (fun u0_ u1_ => Upd No u0_ u1_) (fun j => [0, 0, 0, 0, 0, 0, 1, 1, 2, 0, 0, 2].getD j 0) (.calm 0 (.calm 1 (.calm 2 (.calm 3 (.calm 5 (.held 4 (.one 6 (.one 7 (.one 8 (.calm 9 (.calm 10 (.one 11 (.done))))))))))))) mixed (by kernel_rfl) (by repeat (first | with_reducible exact Deaf.body | with_reducible apply Deaf.then | with_reducible apply Deaf.block)) ?_
        intro w8 hu8
        have hz8 := congrArg Array.size hu8.2.2.2
        replace hu8 := Upd.of_draw hu8
        have hs8 := hu8.size
        replace hU := hU.transA hu8
        replace hB := hB.upd hu8 (by first | exact (fun h => h) | (simp only [At]; omega))
        replace hO := hO.upd hu8 (by first | exact (fun _ _ _ h => h) | (intro k hk hl hS; have := hG k hk; simp only [At] at hS; omega))
        replace hcl := hcl.upd hu8 (by first | exact (fun _ _ _ h => h) | (intro k hk hl hS; have := hCn k hk; simp only [At] at hS; omega))
        replace hBx := hBx.upd hu8 (by first | exact (fun h => h) | (simp only [At]; omega))
        have hS10 := Upd.refl No w8
        refine WN.calm _ rfl rfl rfl rfl rfl (fun _ => r_move rfl (ev_t rfl)) ?_
        refine WN.calm _ rfl rfl rfl rfl rfl (fun _ => r_move rfl (ev_t rfl)) ?_
        refine WN.calm _ rfl rfl rfl rfl rfl (fun _ => r_nilCheck rfl (ev_t rfl)) ?_
        first | refine WN.calm _ rfl rfl rfl rfl rfl (fun _ => r_field0 rfl (ev_t rfl) fld_55_0) ?_ | refine WN.calm _ rfl rfl rfl rfl rfl (fun _ => r_fieldAt rfl (ev_t rfl) fld_55_0) ?_
        refine WN.calm _ rfl rfl rfl rfl rfl (fun _ => r_move rfl (ev_t rfl)) ?_
        refine WN.held _ rfl rfl rfl rfl rfl hS10 (fun w' hS => r_load rfl (ev_t rfl) flat_53 (Blk.cell (hB.upd hS (fun h => h)) rfl)) ?_
        refine WN.step _ rfl (SO.val rfl rfl rfl rfl (r_loadAgg (vs := [_, _, _]) rfl (ev_t rfl) agg_58 size_58 (Blk.cellsL hBx)) ?_)
        refine ⟨hS10, ?_⟩
        refine WN.step _ rfl (SO.alloc rfl rfl rfl rfl (r_buildSlice (cs := #[_, _, _]) (vs := [(0, _)]) rfl ⟨⟨rfl, (ev_t rfl)⟩, trivial⟩ row_53 rfl rfl) ?_)
        intro w9 hu9 hB9 hz9
        have hs9 := hu9.size
        replace hS10 := Upd.transA hS10 hu9
        replace hU := hU.transA hu9
        replace hB := hB.upd hu9 (by first | exact (fun h => h) | (simp only [At]; omega))
        replace hO := hO.upd hu9 (by first | exact (fun _ _ _ h => h) | (intro k hk hl hS; have := hG k hk; simp only [At] at hS; omega))
        replace hcl := hcl.upd hu9 (by first | exact (fun _ _ _ h => h) | (intro k hk hl hS; have := hCn k hk; simp only [At] at hS; omega))
        replace hBx := hBx.upd hu9 (by first | exact (fun h => h) | (simp only [At]; omega))
        refine ⟨hS10, ?_⟩
        refine WN.step _ rfl (SO.call (insEnd_ok (r := ⟨⟨id, num, data⟩, .slice As n cs⟩) hO (by omega) (Rd.of_blk (F := At _) (n := 1) (sz := 3) hB9 rfl rfl (by omega)) rfl) rfl body_22 ⟨(ev_t rfl), (ev_t rfl), (ev_t rfl), trivial⟩ rfl rfl rfl rfl ?_)
        rintro v w10 ⟨hO2, hu10⟩
        replace hB := hB.upd hu10 (fun h => (hG t h).2.1 rfl)
        obtain ⟨A2, c2, rfl, hc2⟩ := Own.form hO2
        have hOp := hu10
        have hps := hOp.size
        have hpw : w.heap.size ≤ w9.heap.size := hU.size
        have hG2 : ∀ k, Grow G w9 w10 k → G k ∨ (w9.heap.size ≤ k ∧ k < w10.heap.size) := fun k hk => hk
        have hCp : ∀ k, C k → k < w9.heap.size := fun k hk => by have := hCn k hk; omega
        generalize Grow G w9 w10 = G2 at *
        refine ⟨trivial, ?_⟩
        refine WN.calm _ rfl rfl rfl rfl rfl (fun _ => r_nilCheck rfl (ev_t rfl)) ?_
        first | refine WN.calm _ rfl rfl rfl rfl rfl (fun _ => r_field0 rfl (ev_t rfl) fld_55_0) ?_ | refine WN.calm _ rfl rfl rfl rfl rfl (fun _ => r_fieldAt rfl (ev_t rfl) fld_55_0) ?_
        refine WN.step _ rfl (SO.store rfl (ev_t rfl) (ev_t rfl) size_53 hB rfl rfl rfl rfl rfl ?_)
        intro w11 hu11 hB2 hz
        have hFin : IsT w11 (Grow R w w11) t (L ++ [⟨id, num, data⟩]) ∧ Upd R w w11 := by
          have hss := hu11.size
          refine ⟨?_, ((hU.mono (fun _ _ h => h.elim)).trans hOp (fun k _ hk => (hG k hk).1)).trans hu11 (fun k _ hk => by simp only [At] at hk; subst hk; exact hRt)⟩
          unfold IsT
          refine ⟨A2, c2, V ++ [⟨⟨id, num, data⟩, .slice As n cs⟩], G2, fun k => H k ∨ C k, ?_, ?_, ?_, by rw [← hLV, lsOf, List.map_append]; rfl, .inl hRt, by omega, fun k hk => ?_, ?_⟩
          · rw [List.length_append]
            exact hB2
          · rw [List.length_append, List.flatMap_append, List.flatMap_singleton]
            exact hO2.upd hu11 (fun k hk hl hS => by simp only [At] at hS; subst hS; rcases hG2 k hk with h | h; exact (hG k h).2.1 rfl; omega)
          · intro r hr
            rcases List.mem_append.1 hr with hr | hr
            · exact ((((hD r hr).upd hU (fun _ _ _ h => h)).upd hOp (fun k hk _ hS => (hH k hk).2.2.1 hS)).upd hu11 (fun k hk _ hS => by simp only [At] at hS; subst hS; exact (hH k hk).2.1 rfl)).mono (fun k hk => .inl hk)
            · rw [List.mem_singleton] at hr
              subst hr
              have h9 := (((hcl.rd (by omega)).upd hOp (fun k hk hl hS => by have h1 := hCn k hk; have h2 := hG k hS; omega)).upd hu11 (fun k hk hl hS => by have := hCn k hk; simp only [At] at hS; omega)).mono (F' := fun k => H k ∨ C k) (fun k hk => .inr hk)
              simp only [hpn] at h9 ⊢
              exact h9
          · rcases hG2 k hk with h | h
            · have := hG k h; exact ⟨.inl this.1, this.2.1, by omega⟩
            · exact ⟨.inr ⟨by omega, by omega⟩, by omega, by omega⟩
          · rintro k (hk | hk)
            · have := hH k hk; exact ⟨.inl this.1, this.2.1, fun h => (hG2 k h).elim this.2.2.1 (fun h => by omega), by omega⟩
            · have h1 := hCn k hk; have h2 := hCp k hk; exact ⟨.inr ⟨by omega, by omega⟩, by omega, fun h => (hG2 k h).elim (fun h => by have := hG k h; omega) (fun h => by omega), by omega⟩
        refine ⟨trivial, ?_⟩
        refine WN.done ?_
        refine WX.keep [] trivial ?_
        refine WX.next ?_
        refine WC.seq ?_
        refine WC.region ?_
        refine WL.val rfl rfl rfl rfl (r_assign rfl ev_c) ?_
        refine WL.nil ?_
        refine WX.keep [(8, _)] ⟨rfl, trivial⟩ ?_
        refine WX.next ?_
        refine WC.ret ?_
        refine WX.retE1 rfl rfl ?_
        first | (have e9 : putS L ⟨id, num, data⟩ = (L.set i ⟨id, num, data⟩, 0) := by (rw [hput, if_pos (by omega)]; unfold insS; rw [if_pos (by assumption), hi])); rw [e9]; exact ⟨rfl, hFin⟩ | (have e9 : putS L ⟨id, num, data⟩ = (L ++ [⟨id, num, data⟩], 0) := by (rw [hput, if_pos (by omega)]; unfold insS; rw [if_neg (by simp_all)]; simp only [hi]; rw [show V.length = L.length by rw [← hLV, lsOf, List.length_map]]; simp)); rw [e9]; exact ⟨rfl, hFin⟩
end Go.Proofs.Ytipabhbnljadfaa
