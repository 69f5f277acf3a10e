/-
  heap: size; the collector's move.
-/
import Derived.Test.YtdpnnclkkbfihaaDoorHeU
namespace Go.Proofs.YtdpnnclkkbfihaaDoor
open Go
set_option linter.unusedSimpArgs false
set_option linter.unusedVariables false

theorem needK_ok {w : World} {k n : Nat} (hk : k < 256) (hn : n ≤ 1000000000000000000) : Ret Tryd.prog 10 #[.int .u8 (k : Int), .int .i64 (n : Int)] w fun v w' => v = .int .i64 ((szO (n * 256 + k) : Nat) : Int) ∧ w = w' := by
  refine enterRet (vs := [_, _]) (N := 13) Tryd.func10 rfl rfl rfl ?_
  refine WC.keep [(0, _), (1, _)] ⟨rfl, rfl, trivial⟩ ?_
  refine WC.seq ?_
  refine WC.region ?_
  refine WL.val rfl rfl rfl rfl (r_assign rfl ev_c) ?_
  refine WL.nil ?_
  refine WX.keep [(0, _), (1, _)] ⟨rfl, rfl, trivial⟩ ?_
  refine WX.next ?_
  refine WC.seq ?_
  refine WC.seq ?_
  refine WC.region ?_
  refine WL.val rfl rfl rfl rfl (r_move rfl (ev_t rfl)) ?_
  refine WL.val rfl rfl rfl rfl (r_eql rfl (ev_t rfl) ev_c) ?_
  refine WL.nil ?_
  refine WX.keep [(1, _), (6, _)] ⟨rfl, rfl, trivial⟩ ?_
  refine WX.next ?_
  refine WC.cond rfl (ev_t rfl) (fun hc1 => ?_) (fun hc1 => ?_)
  · try (exfalso; first | (simp at hc1; done) | (simp only [decide_eq_true_eq, decide_eq_false_iff_not, Bool.not_eq_true', Bool.not_eq_false', Bool.not_eq_true, Bool.not_eq_false] at hc1; omega) | omega)
    all_goals
     try simp only [decide_eq_true_eq, decide_eq_false_iff_not, Bool.not_eq_true', Bool.not_eq_false', Bool.not_eq_true, Bool.not_eq_false, Option.isNone_none, Option.isNone_some, Option.isSome_none, Option.isSome_some, ne_eq, Decidable.not_not] at hc1
     refine WC.seq ?_
     refine WC.region ?_
     refine WL.val rfl rfl rfl rfl (r_move rfl (ev_t rfl)) ?_
     first | refine WL.val rfl rfl rfl rfl (r_addN rfl (ev_t rfl) ev_c (by simp only [inK]; omega)) ?_ | refine WL.val rfl rfl rfl rfl (r_add rfl (ev_t rfl) ev_c) ?_
     first | refine WL.val rfl rfl rfl rfl (r_quoN rfl (ev_t rfl) ev_c (by omega) (by omega) (by simp only [inK]; omega)) ?_ | refine WL.val rfl rfl rfl rfl (r_quo rfl (ev_t rfl) ev_c (by omega)) ?_
     first | refine WL.val rfl rfl rfl rfl (r_addN rfl ev_c (ev_t rfl) (by simp only [inK]; omega)) ?_ | refine WL.val rfl rfl rfl rfl (r_add rfl ev_c (ev_t rfl)) ?_
     refine WL.val rfl rfl rfl rfl (r_assign rfl (ev_t rfl)) ?_
     refine WL.nil ?_
     refine WX.keep [(4, _)] ⟨rfl, trivial⟩ ?_
     refine WX.next ?_
     refine WC.ret ?_
     refine WX.thenRet ?_
     refine WX.retE1 rfl rfl ?_
     refine ⟨?_, rfl⟩
     have hk3 : k = 3 := by omega
     subst hk3
     have e : szO (n * 256 + 3) = 1 + (n + 7) / 8 := by unfold szO; rw [if_pos (by omega)]; omega
     rw [e]
     congr 1
  · try (exfalso; first | (simp at hc1; done) | (simp only [decide_eq_true_eq, decide_eq_false_iff_not, Bool.not_eq_true', Bool.not_eq_false', Bool.not_eq_true, Bool.not_eq_false] at hc1; omega) | omega)
    all_goals
     try simp only [decide_eq_true_eq, decide_eq_false_iff_not, Bool.not_eq_true', Bool.not_eq_false', Bool.not_eq_true, Bool.not_eq_false, Option.isNone_none, Option.isNone_some, Option.isSome_none, Option.isSome_some, ne_eq, Decidable.not_not] at hc1
     refine WC.skip ?_
     refine WX.next ?_
     refine WC.seq ?_
     refine WC.region ?_
     refine WL.val rfl rfl rfl rfl (r_move rfl (ev_t rfl)) ?_
     first | refine WL.val rfl rfl rfl rfl (r_addN rfl ev_c (ev_t rfl) (by simp only [inK]; omega)) ?_ | refine WL.val rfl rfl rfl rfl (r_add rfl ev_c (ev_t rfl)) ?_
     refine WL.val rfl rfl rfl rfl (r_assign rfl (ev_t rfl)) ?_
     refine WL.nil ?_
     refine WX.keep [(4, _)] ⟨rfl, trivial⟩ ?_
     refine WX.next ?_
     refine WC.ret ?_
     refine WX.retE1 rfl rfl ?_
     refine ⟨?_, rfl⟩
     have hk3 : k ≠ 3 := by omega
     have e : szO (n * 256 + k) = 1 + n := by unfold szO; rw [if_neg (by omega)]; omega
     rw [e]
     congr 1
theorem hd_n {x : Nat} (hx : x < 18446744073709551616) : IntKind.i64.wrap ((x : Int) / 2 ^ Int.toNat 8) = ((x / 256 : Nat) : Int) := by
  rw [wrap_i64, show (2 : Int) ^ Int.toNat 8 = 256 by decide]
  split <;> omega
theorem hd_k (x : Nat) : IntKind.u8.wrap (x : Int) = ((x % 256 : Nat) : Int) := by rw [wrap_u8]; omega
theorem size_ok {w : World} {D : Nat → Prop} {v : Value} {l : List Nat} {a x : Nat} (hr : Rd w D v l.length 1 (l.map Wd)) (ha : l[a]? = some x) (hx : x < 18446744073709551616) : Ret Tryd.prog 44 #[v, .int .i64 (a : Int)] w fun v' w' => v' = .int .i64 ((szO x : Nat) : Int) ∧ Upd No w w' := by
  have hal := (List.getElem?_eq_some_iff.1 ha).1
  obtain ⟨A, c, rfl, hc⟩ := hr.slice_form
  obtain ⟨b0, off, rfl, _⟩ := hr.open (by omega)
  have hle := hr.le
  refine enterRet (vs := [_, _]) (N := 17) Tryd.func44 rfl rfl rfl ?_
  have hU := Upd.refl No w
  refine WC.keep [(0, _), (1, _)] ⟨rfl, rfl, trivial⟩ ?_
  refine WC.seq ?_
  refine WC.region ?_
  refine WL.val rfl rfl rfl rfl (r_assign rfl ev_c) ?_
  refine WL.nil ?_
  refine WX.keep [(0, _), (1, _)] ⟨rfl, rfl, trivial⟩ ?_
  refine WX.next ?_
  refine WC.seq ?_
  refine WC.draws' (fun u0_ u1_ => Upd No u0_ u1_) (fun j => [0, 0, 0, 0, 0, 0, 0, 0, 1, 0, 0, 2, 0].getD j 0) (.calm 0 (.calm 1 (.calm 2 (.calm 5 (.calm 6 (.calm 7 (.held 3 (.calm 4 (.one 8 (.calm 9 (.calm 10 (.one 11 (.calm 12 (.done)))))))))))))) mixed (by kernel_rfl) (by repeat (first | with_reducible exact Deaf.body | with_reducible apply Deaf.then | with_reducible apply Deaf.block)) ?_
  intro w1 hu1
  have hz1 := congrArg Array.size hu1.2.2.2
  replace hu1 := Upd.of_draw hu1
  have hs1 := hu1.size
  replace hU := hU.transA hu1
  replace hr := hr.upd hu1 (fun k hk hl hS => (show False from hS).elim)
  have hS1 := Upd.refl No w1
  refine WN.calm _ rfl rfl rfl rfl rfl (fun _ => r_move rfl (ev_t rfl)) ?_
  refine WN.calm _ rfl rfl rfl rfl rfl (fun _ => r_move rfl (ev_t rfl)) ?_
  refine WN.calm _ rfl rfl rfl rfl rfl (fun _ => r_indexAddr rfl (ev_t rfl) (ev_t rfl) elem_30 size_32 (by omega) (by omega)) ?_
  refine WN.calm _ rfl rfl rfl rfl rfl (fun _ => r_move rfl (ev_t rfl)) ?_
  refine WN.calm _ rfl rfl rfl rfl rfl (fun _ => r_move rfl (ev_t rfl)) ?_
  refine WN.calm _ rfl rfl rfl rfl rfl (fun _ => r_indexAddr rfl (ev_t rfl) (ev_t rfl) elem_30 size_32 (by omega) (by omega)) ?_
  refine WN.held _ rfl rfl rfl rfl rfl hS1 (fun w' hS => r_load rfl (ev_t rfl) flat_32 ((hr.upd hS (fun _ _ _ h => h)).cell (j := a) (u := Wd x) (show off + (a : Int).toNat * 1 = off + a by omega) (by rw [List.getElem?_map, ha]; rfl))) ?_
  first | refine WN.calm _ rfl rfl rfl rfl rfl (fun _ => r_convN rfl (ev_t rfl) some_32 int_5 (by simp only [inK]; omega)) ?_ | refine WN.calm _ rfl rfl rfl rfl rfl (fun _ => r_conv rfl (ev_t rfl) some_32 int_5) ?_
  refine WN.step _ rfl (SO.val rfl rfl rfl rfl (r_load rfl (ev_t rfl) flat_32 (hr.cell (j := a) (u := Wd x) (show off + (a : Int).toNat * 1 = off + a by omega) (by rw [List.getElem?_map, ha]; rfl))) ?_)
  refine ⟨hS1, ?_⟩
  refine WN.calm _ rfl rfl rfl rfl rfl (fun _ => r_shr rfl (ev_t rfl) ev_c (by omega) (by simp only [IntKind.bits]; omega)) ?_
  first | refine WN.calm _ rfl rfl rfl rfl rfl (fun _ => r_convN rfl (ev_t rfl) some_32 int_3 (by simp only [inK]; omega)) ?_ | refine WN.calm _ rfl rfl rfl rfl rfl (fun _ => r_conv rfl (ev_t rfl) some_32 int_3) ?_
  rw [hd_n hx, hd_k]
  refine WN.step _ rfl (SO.call (needK_ok (k := x % 256) (n := x / 256) (by omega) (by omega)) rfl body_10 ⟨(ev_t rfl), (ev_t rfl), trivial⟩ rfl rfl rfl rfl ?_)
  rintro v w2 ⟨rfl, rfl⟩
  refine ⟨trivial, ?_⟩
  refine WN.calm _ rfl rfl rfl rfl rfl (fun _ => r_assign rfl (ev_t rfl)) ?_
  refine WN.done ?_
  refine WX.keep [(4, _)] ⟨rfl, trivial⟩ ?_
  refine WX.next ?_
  refine WC.ret ?_
  refine WX.retE1 rfl rfl ?_
  exact ⟨by rw [show x / 256 * 256 + x % 256 = x by omega], hU⟩
end Go.Proofs.YtdpnnclkkbfihaaDoor
