/-
  heap: room, with no roots.
-/
import Derived.Test.YtdpnnclkkbfihaaDoorHec
namespace Go.Proofs.YtdpnnclkkbfihaaDoor
open Go
set_option linter.unusedSimpArgs false
set_option linter.unusedVariables false

/-- what is left when d words are wanted and there are no roots -/
def leftM (q d : Nat) (mem : List Nat) : List Nat := if d + mem.length ≤ q then mem else []
def leftN (q d : Nat) (mem : List Nat) (n : Nat) : Nat := if d + mem.length ≤ q then n else n + 1
theorem room_ok {w : World} {G : Nat → Prop} {p : Nat} {A : Option Addr} {c : Nat} {mem : List Nat} {q n d : Nat} (hH : HS w G p A c mem q n) (hn : n + 1 ≤ 1000000000) (hd : d ≤ 1000000000000) :
    Ret Tryd.prog 41 #[.pointer (some ⟨p, 0, none⟩), .int .i64 (d : Int), .slice none 0 0] w fun v w' => ∃ G' A' c', v = .bool (decide (d + (leftM q d mem).length ≤ q)) ∧ HS w' G' p A' c' (leftM q d mem) q (leftN q d mem n) ∧ (∀ k, G' k → G k ∨ w.heap.size ≤ k) ∧ Upd (At p) w w' := by
  have hle := hH.le
  refine enterRet (vs := [_, _, _]) (N := 34) Tryd.func41 rfl rfl rfl ?_
  have hU := Upd.refl (At p) w
  refine WC.keep [(0, _), (1, _), (2, _)] ⟨rfl, rfl, rfl, trivial⟩ ?_
  refine WC.seq ?_
  refine WC.region ?_
  refine WL.val rfl rfl rfl rfl (r_assign rfl ev_c) ?_
  refine WL.nil ?_
  refine WX.keep [(0, _), (1, _), (2, _)] ⟨rfl, rfl, rfl, trivial⟩ ?_
  refine WX.next ?_
  refine WC.seq ?_
  refine WC.seq ?_
  refine WC.draws' (fun u0_ u1_ => Upd No u0_ u1_) (fun j => [0, 0, 0, 0, 0, 0, 0, 0, 1, 0, 0, 0].getD j 0) (.calm 0 (.calm 1 (.calm 2 (.calm 3 (.calm 5 (.calm 6 (.calm 7 (.held 4 (.one 8 (.calm 9 (.calm 10 (.calm 11 (.done))))))))))))) mixed (by kernel_rfl) (by repeat (first | with_reducible exact Deaf.body | with_reducible apply Deaf.then | with_reducible apply Deaf.block)) ?_
  intro w1 hu1
  have hz1 := congrArg Array.size hu1.2.2.2
  replace hu1 := Upd.of_draw hu1
  have hs1 := hu1.size
  replace hU := hU.transA hu1
  replace hH := hH.upd hu1 (fun k hk hl hS => by first | exact (show False from hS).elim)
  have hS1 := Upd.refl No w1
  refine WN.calm _ rfl rfl rfl rfl rfl (fun _ => r_move rfl (ev_t rfl)) ?_
  refine WN.calm _ rfl rfl rfl rfl rfl (fun _ => r_move rfl (ev_t rfl)) ?_
  refine WN.calm _ rfl rfl rfl rfl rfl (fun _ => r_nilCheck rfl (ev_t rfl)) ?_
  first | refine WN.calm _ rfl rfl rfl rfl rfl (fun _ => r_field0 rfl (ev_t rfl) fld_79_1) ?_ | refine WN.calm _ rfl rfl rfl rfl rfl (fun _ => r_fieldAt rfl (ev_t rfl) fld_79_1) ?_
  refine WN.calm _ rfl rfl rfl rfl rfl (fun _ => r_move rfl (ev_t rfl)) ?_
  refine WN.calm _ rfl rfl rfl rfl rfl (fun _ => r_nilCheck rfl (ev_t rfl)) ?_
  first | refine WN.calm _ rfl rfl rfl rfl rfl (fun _ => r_field0 rfl (ev_t rfl) fld_79_0) ?_ | refine WN.calm _ rfl rfl rfl rfl rfl (fun _ => r_fieldAt rfl (ev_t rfl) fld_79_0) ?_
  first | refine WN.held _ rfl rfl rfl rfl rfl hS1 (fun w' hS => r_load rfl (ev_t rfl) flat_3 (Blk.cell (hH.hd.upd hS (fun h => h)) rfl)) ?_ | refine WN.held _ rfl rfl rfl rfl rfl hS1 (fun w' hS => r_load rfl (ev_t rfl) flat_3 (Blk.cell hH.hd rfl)) ?_
  first | refine WN.step _ rfl (SO.val rfl rfl rfl rfl (r_load rfl (ev_t rfl) flat_30 (Blk.cell (hH.hd.upd hS (fun h => h)) rfl)) ?_) | refine WN.step _ rfl (SO.val rfl rfl rfl rfl (r_load rfl (ev_t rfl) flat_30 (Blk.cell hH.hd rfl)) ?_)
  refine ⟨hS1, ?_⟩
  refine WN.calm _ rfl rfl rfl rfl rfl (fun _ => r_lenSlice (ts := #[]) rfl (ev_t rfl) elem_30) ?_
  first | refine WN.calm _ rfl rfl rfl rfl rfl (fun _ => r_subN rfl (ev_t rfl) (ev_t rfl) (by simp only [inK]; omega)) ?_ | refine WN.calm _ rfl rfl rfl rfl rfl (fun _ => r_sub rfl (ev_t rfl) (ev_t rfl)) ?_
  refine WN.calm _ rfl rfl rfl rfl rfl (fun _ => r_gtr rfl (ev_t rfl) (ev_t rfl)) ?_
  refine WN.done ?_
  refine WX.keep [(0, _), (1, _), (2, _), (18, _)] ⟨rfl, rfl, rfl, rfl, trivial⟩ ?_
  refine WX.next ?_
  refine WC.cond rfl (ev_t rfl) (fun hc1 => ?_) (fun hc1 => ?_)
  · try (exfalso; first | (simp at hc1; done) | (simp only [decide_eq_true_eq, decide_eq_false_iff_not, Bool.not_eq_true', Bool.not_eq_false', Bool.not_eq_true, Bool.not_eq_false] at hc1; omega) | omega)
    all_goals
     try simp only [decide_eq_true_eq, decide_eq_false_iff_not, Bool.not_eq_true', Bool.not_eq_false', Bool.not_eq_true, Bool.not_eq_false, Option.isNone_none, Option.isNone_some, Option.isSome_none, Option.isSome_some, ne_eq, Decidable.not_not] at hc1
     have hnl : ¬ d + mem.length ≤ q := by omega
     have e1 : leftM q d mem = [] := if_neg hnl
     have e2 : leftN q d mem n = n + 1 := if_neg hnl
     rw [e1, e2]
     refine WC.region ?_
     refine WL.val rfl rfl rfl rfl (r_move rfl (ev_t rfl)) ?_
     refine WL.val rfl rfl rfl rfl (r_move rfl (ev_t rfl)) ?_
     refine WL.cons (SO.call (collect0_ok hH hn) rfl body_14 ⟨(ev_t rfl), (ev_t rfl), trivial⟩ rfl rfl rfl rfl ?_)
     rintro v w2 ⟨G', A', c', hH2, hG2, hu2⟩
     have hs2 := hu2.size
     replace hU := hU.transA hu2
     have hH := hH2
     refine WL.nil ?_
     refine WX.keep [(0, _), (1, _)] ⟨rfl, rfl, trivial⟩ ?_
     refine WX.next ?_
     refine WC.seq ?_
     refine WC.draws' (fun u0_ u1_ => Upd No u0_ u1_) (fun j => [0, 0, 0, 0, 0, 0, 0, 0, 1, 0, 0, 0, 0].getD j 0) (.calm 0 (.calm 1 (.calm 2 (.calm 3 (.calm 5 (.calm 6 (.calm 7 (.held 4 (.one 8 (.calm 9 (.calm 10 (.calm 11 (.calm 12 (.done)))))))))))))) mixed (by kernel_rfl) (by repeat (first | with_reducible exact Deaf.body | with_reducible apply Deaf.then | with_reducible apply Deaf.block)) ?_
     intro w3 hu3
     have hz3 := congrArg Array.size hu3.2.2.2
     replace hu3 := Upd.of_draw hu3
     have hs3 := hu3.size
     replace hU := hU.transA hu3
     replace hH := hH.upd hu3 (fun k hk hl hS => by first | exact (show False from hS).elim)
     have hS3 := Upd.refl No w3
     refine WN.calm _ rfl rfl rfl rfl rfl (fun _ => r_move rfl (ev_t rfl)) ?_
     refine WN.calm _ rfl rfl rfl rfl rfl (fun _ => r_move rfl (ev_t rfl)) ?_
     refine WN.calm _ rfl rfl rfl rfl rfl (fun _ => r_nilCheck rfl (ev_t rfl)) ?_
     first | refine WN.calm _ rfl rfl rfl rfl rfl (fun _ => r_field0 rfl (ev_t rfl) fld_79_1) ?_ | refine WN.calm _ rfl rfl rfl rfl rfl (fun _ => r_fieldAt rfl (ev_t rfl) fld_79_1) ?_
     refine WN.calm _ rfl rfl rfl rfl rfl (fun _ => r_move rfl (ev_t rfl)) ?_
     refine WN.calm _ rfl rfl rfl rfl rfl (fun _ => r_nilCheck rfl (ev_t rfl)) ?_
     first | refine WN.calm _ rfl rfl rfl rfl rfl (fun _ => r_field0 rfl (ev_t rfl) fld_79_0) ?_ | refine WN.calm _ rfl rfl rfl rfl rfl (fun _ => r_fieldAt rfl (ev_t rfl) fld_79_0) ?_
     first | refine WN.held _ rfl rfl rfl rfl rfl hS3 (fun w' hS => r_load rfl (ev_t rfl) flat_3 (Blk.cell (hH.hd.upd hS (fun h => h)) rfl)) ?_ | refine WN.held _ rfl rfl rfl rfl rfl hS3 (fun w' hS => r_load rfl (ev_t rfl) flat_3 (Blk.cell hH.hd rfl)) ?_
     first | refine WN.step _ rfl (SO.val rfl rfl rfl rfl (r_load rfl (ev_t rfl) flat_30 (Blk.cell (hH.hd.upd hS (fun h => h)) rfl)) ?_) | refine WN.step _ rfl (SO.val rfl rfl rfl rfl (r_load rfl (ev_t rfl) flat_30 (Blk.cell hH.hd rfl)) ?_)
     refine ⟨hS3, ?_⟩
     refine WN.calm _ rfl rfl rfl rfl rfl (fun _ => r_lenSlice (ts := #[]) rfl (ev_t rfl) elem_30) ?_
     first | refine WN.calm _ rfl rfl rfl rfl rfl (fun _ => r_subN rfl (ev_t rfl) (ev_t rfl) (by simp only [inK]; omega)) ?_ | refine WN.calm _ rfl rfl rfl rfl rfl (fun _ => r_sub rfl (ev_t rfl) (ev_t rfl)) ?_
     refine WN.calm _ rfl rfl rfl rfl rfl (fun _ => r_leq rfl (ev_t rfl) (ev_t rfl)) ?_
     refine WN.calm _ rfl rfl rfl rfl rfl (fun _ => r_assign rfl (ev_t rfl)) ?_
     refine WN.done ?_
     refine WX.keep [(6, _)] ⟨rfl, trivial⟩ ?_
     refine WX.next ?_
     refine WC.ret ?_
     refine WX.retE1 rfl rfl ?_
     first
       | exact ⟨G, _, _, congrArg Value.bool (decide_eq_decide.2 (by omega)), hH, fun k h => .inl h, hU⟩
       | exact ⟨G', _, _, congrArg Value.bool (decide_eq_decide.2 (by rw [wrap_i64]; simp only [List.length_nil]; split <;> omega)), hH, fun k h => .inr (by have := hG2 k h; omega), hU⟩
  · try (exfalso; first | (simp at hc1; done) | (simp only [decide_eq_true_eq, decide_eq_false_iff_not, Bool.not_eq_true', Bool.not_eq_false', Bool.not_eq_true, Bool.not_eq_false] at hc1; omega) | omega)
    all_goals
     try simp only [decide_eq_true_eq, decide_eq_false_iff_not, Bool.not_eq_true', Bool.not_eq_false', Bool.not_eq_true, Bool.not_eq_false, Option.isNone_none, Option.isNone_some, Option.isSome_none, Option.isSome_some, ne_eq, Decidable.not_not] at hc1
     have hnl : d + mem.length ≤ q := by omega
     have e1 : leftM q d mem = mem := if_pos hnl
     have e2 : leftN q d mem n = n := if_pos hnl
     rw [e1, e2]
     refine WC.skip ?_
     refine WX.next ?_
     refine WC.seq ?_
     refine WC.draws' (fun u0_ u1_ => Upd No u0_ u1_) (fun j => [0, 0, 0, 0, 0, 0, 0, 0, 1, 0, 0, 0, 0].getD j 0) (.calm 0 (.calm 1 (.calm 2 (.calm 3 (.calm 5 (.calm 6 (.calm 7 (.held 4 (.one 8 (.calm 9 (.calm 10 (.calm 11 (.calm 12 (.done)))))))))))))) mixed (by kernel_rfl) (by repeat (first | with_reducible exact Deaf.body | with_reducible apply Deaf.then | with_reducible apply Deaf.block)) ?_
     intro w4 hu4
     have hz4 := congrArg Array.size hu4.2.2.2
     replace hu4 := Upd.of_draw hu4
     have hs4 := hu4.size
     replace hU := hU.transA hu4
     replace hH := hH.upd hu4 (fun k hk hl hS => by first | exact (show False from hS).elim)
     have hS3 := Upd.refl No w4
     refine WN.calm _ rfl rfl rfl rfl rfl (fun _ => r_move rfl (ev_t rfl)) ?_
     refine WN.calm _ rfl rfl rfl rfl rfl (fun _ => r_move rfl (ev_t rfl)) ?_
     refine WN.calm _ rfl rfl rfl rfl rfl (fun _ => r_nilCheck rfl (ev_t rfl)) ?_
     first | refine WN.calm _ rfl rfl rfl rfl rfl (fun _ => r_field0 rfl (ev_t rfl) fld_79_1) ?_ | refine WN.calm _ rfl rfl rfl rfl rfl (fun _ => r_fieldAt rfl (ev_t rfl) fld_79_1) ?_
     refine WN.calm _ rfl rfl rfl rfl rfl (fun _ => r_move rfl (ev_t rfl)) ?_
     refine WN.calm _ rfl rfl rfl rfl rfl (fun _ => r_nilCheck rfl (ev_t rfl)) ?_
     first | refine WN.calm _ rfl rfl rfl rfl rfl (fun _ => r_field0 rfl (ev_t rfl) fld_79_0) ?_ | refine WN.calm _ rfl rfl rfl rfl rfl (fun _ => r_fieldAt rfl (ev_t rfl) fld_79_0) ?_
     first | refine WN.held _ rfl rfl rfl rfl rfl hS3 (fun w' hS => r_load rfl (ev_t rfl) flat_3 (Blk.cell (hH.hd.upd hS (fun h => h)) rfl)) ?_ | refine WN.held _ rfl rfl rfl rfl rfl hS3 (fun w' hS => r_load rfl (ev_t rfl) flat_3 (Blk.cell hH.hd rfl)) ?_
     first | refine WN.step _ rfl (SO.val rfl rfl rfl rfl (r_load rfl (ev_t rfl) flat_30 (Blk.cell (hH.hd.upd hS (fun h => h)) rfl)) ?_) | refine WN.step _ rfl (SO.val rfl rfl rfl rfl (r_load rfl (ev_t rfl) flat_30 (Blk.cell hH.hd rfl)) ?_)
     refine ⟨hS3, ?_⟩
     refine WN.calm _ rfl rfl rfl rfl rfl (fun _ => r_lenSlice (ts := #[]) rfl (ev_t rfl) elem_30) ?_
     first | refine WN.calm _ rfl rfl rfl rfl rfl (fun _ => r_subN rfl (ev_t rfl) (ev_t rfl) (by simp only [inK]; omega)) ?_ | refine WN.calm _ rfl rfl rfl rfl rfl (fun _ => r_sub rfl (ev_t rfl) (ev_t rfl)) ?_
     refine WN.calm _ rfl rfl rfl rfl rfl (fun _ => r_leq rfl (ev_t rfl) (ev_t rfl)) ?_
     refine WN.calm _ rfl rfl rfl rfl rfl (fun _ => r_assign rfl (ev_t rfl)) ?_
     refine WN.done ?_
     refine WX.keep [(6, _)] ⟨rfl, trivial⟩ ?_
     refine WX.next ?_
     refine WC.ret ?_
     refine WX.retE1 rfl rfl ?_
     first
       | exact ⟨G, _, _, congrArg Value.bool (decide_eq_decide.2 (by omega)), hH, fun k h => .inl h, hU⟩
       | exact ⟨G', _, _, congrArg Value.bool (decide_eq_decide.2 (by rw [wrap_i64]; simp only [List.length_nil]; split <;> omega)), hH, fun k h => .inr (by have := hG2 k h; omega), hU⟩
end Go.Proofs.YtdpnnclkkbfihaaDoor
