/-
  heap: the collector's move.
-/
import Derived.Test.YtdpnnclkkbfihaaDoorHeo
namespace Go.Proofs.YtdpnnclkkbfihaaDoor
open Go
set_option linter.unusedSimpArgs false
set_option linter.unusedVariables false

theorem mvRow_set {mv : List Nat} {a y : Nat} : ((mv.map Wd).toArray.setIfInBounds a (Wd y)) = ((mv.set a y).map Wd).toArray := by
  rw [List.map_set]; simp
theorem half_u64 {x : Nat} : (x : Int) / 2 ^ Int.toNat 1 = ((x / 2 : Nat) : Int) := by
  rw [show (2 : Int) ^ Int.toNat 1 = 2 by decide]; omega
theorem dbl_or {n : Nat} (h : n ≤ 1048576) : bits .or .u64 (IntKind.u64.wrap ((n : Int) * 2 ^ Int.toNat 1)) 1 = ((2 * n + 1 : Nat) : Int) := by
  have e : IntKind.u64.wrap ((n : Int) * 2 ^ Int.toNat 1) = ((2 * n : Nat) : Int) := by
    rw [wrap_u64, show (2 : Int) ^ Int.toNat 1 = 2 by decide]; omega
  rw [e]
  have h2 := bits_or_u64 (2 * n) 1 (by omega) (by decide)
  rw [or_one] at h2
  exact h2
theorem half_i64 {x : Nat} (h : x < 18446744073709551616) : IntKind.i64.wrap ((x : Int) / 2 ^ Int.toNat 1) = ((x / 2 : Nat) : Int) := by
  rw [half_u64, wrap_i64]; split <;> omega
def BI (p : Prop) (w : World) (b : Nat) (cs : Array Value) (T : TypeId) : Prop := p → Blk w b cs T
theorem BI.upd {p : Prop} {w w' : World} {S : Nat → Prop} {b : Nat} {cs : Array Value} {T : TypeId} (h : BI p w b cs T) (hu : Upd S w w') (hn : p → ¬ S b) : BI p w' b cs T := fun hp => (h hp).upd hu (hn hp)
theorem row_app {cur : Array Value} {to news : List Nat} {n m : Nat} (hcs : cur.size = n) (hct : cur.toList.take to.length = to.map Wd) (hm : news.length = m) (hroom : to.length + m ≤ n) :
    (cur.toList.take to.length ++ news.map Wd ++ cur.toList.drop (to.length + m)).toArray.size = n ∧ (cur.toList.take to.length ++ news.map Wd ++ cur.toList.drop (to.length + m)).toArray.toList.take (to.length + m) = (to ++ news).map Wd := by
  have hl : cur.toList.length = n := by rw [Array.length_toList]; exact hcs
  refine ⟨?_, ?_⟩
  · simp only [List.size_toArray, List.length_append, List.length_take, List.length_map, List.length_drop, hl]; omega
  · rw [hct, ← List.map_append]
    exact List.take_left' (by simp; omega)
theorem Blk.inj {w : World} {b : Nat} {cs cs' : Array Value} {T T' : TypeId} (h : Blk w b cs T) (h' : Blk w b cs' T') : cs = cs' := by
  unfold Blk at h h'
  rw [h] at h'
  injection h' with h'
  injection h'
theorem BI.pick {w : World} {b bt : Nat} {cs cur : Array Value} (h : BI (b ≠ bt) w b cs tWord) (h2 : Blk w bt cur tWord) : Blk w b (if b = bt then cur else cs) tWord := by
  by_cases hb : b = bt
  · rw [if_pos hb, hb]; exact h2
  · rw [if_neg hb]; exact h hb
theorem mvTo_get {old to mv : List Nat} {x o y : Nat} (h : to[o]? = some y) : (mvTo old to mv x)[o]? = some y := by
  unfold mvTo
  split
  · rw [List.getElem?_append_left (List.getElem?_eq_some_iff.1 h).1]; exact h
  · exact h
theorem mvY_spec {old to mv : List Nat} {x : Nat} (hlm : mv.length = old.length) (hto : to.length ≤ old.length ∧ old.length ≤ 1048576) (hir : isR old x)
    (hgo : isR old x → x / 2 + szAt old (x / 2) ≤ old.length ∧ (mv.getD (x / 2) 0 = 0 ∧ to.length + szAt old (x / 2) ≤ old.length ∨ ∃ k, mv.getD (x / 2) 0 = 2 * k + 1 ∧ k < 1152921504606846976)) :
    (∃ k, (mvMv old to mv x)[x / 2]? = some (2 * k + 1) ∧ mvY old to mv x = 2 * k ∧ 2 * k + 1 < 18446744073709551616) ∧ (mvMv old to mv x).length = old.length ∧ (mvTo old to mv x).length ≤ old.length := by
  obtain ⟨hg1, hg2⟩ := hgo hir
  have hal := hir.2
  by_cases hz : mv.getD (x / 2) 0 = 0
  · have hroom : to.length + szAt old (x / 2) ≤ old.length := by
      rcases hg2 with h | ⟨k, h, _⟩
      · exact h.2
      · rw [hz] at h; omega
    have f1 : mvTo old to mv x = to ++ objAt old (x / 2) := if_pos ⟨hir, hz⟩
    have f2 : mvMv old to mv x = mv.set (x / 2) (2 * to.length + 1) := if_pos ⟨hir, hz⟩
    have f3 : mvY old to mv x = 2 * to.length := by unfold mvY; rw [if_pos hir, if_pos hz]
    rw [f1, f2, f3]
    refine ⟨⟨to.length, ?_, rfl, by omega⟩, by rw [List.length_set]; exact hlm, by rw [List.length_append, objAt_len hg1]; exact hroom⟩
    rw [List.getElem?_set]
    simp [hlm, hal]
  · have f1 : mvTo old to mv x = to := if_neg (fun h => hz h.2)
    have f2 : mvMv old to mv x = mv := if_neg (fun h => hz h.2)
    have f3 : mvY old to mv x = mv.getD (x / 2) 0 - 1 := by unfold mvY; rw [if_pos hir, if_neg hz]
    rw [f1, f2, f3]
    rcases hg2 with h | ⟨k, h, hk⟩
    · exact absurd h.1 hz
    · refine ⟨⟨k, ?_, by omega, by omega⟩, hlm, hto.1⟩
      rw [List.getD_eq_getElem?_getD] at h
      rw [List.getElem?_eq_getElem (by omega)] at h ⊢
      exact congrArg some h
set_option maxHeartbeats 2000000 in
theorem move_ok {w : World} {D : Nat → Prop} {co cm ct bm bt b o x : Nat} {vo : Value} {old to mv : List Nat} {cs : Array Value} (hC : CS w D co cm ct bm bt vo old to mv)
    (hb : Blk w b cs tWord) (hx : cs[o]? = some (Wd x)) (hx64 : x < 18446744073709551616) (hbm : b ≠ bm) (hbD : ¬ D b) (hcase : b = bt → o < to.length)
    (hgo : isR old x → x / 2 + szAt old (x / 2) ≤ old.length ∧ (mv.getD (x / 2) 0 = 0 ∧ to.length + szAt old (x / 2) ≤ old.length ∨ ∃ k, mv.getD (x / 2) 0 = 2 * k + 1 ∧ k < 1152921504606846976))
    (hold : ∀ y ∈ old, y < 18446744073709551616) :
    Ret Tryd.prog 43 #[.pointer (some ⟨b, o, none⟩), .pointer (some ⟨co, 0, none⟩), .pointer (some ⟨cm, 0, none⟩), .pointer (some ⟨ct, 0, none⟩)] w fun _ w' => ∃ to2, CS w' D co cm ct bm bt vo old to2 (mvMv old to mv x) ∧
      (b ≠ bt → to2 = mvTo old to mv x ∧ Blk w' b (cs.setIfInBounds o (Wd (mvY old to mv x))) tWord) ∧ (b = bt → to2 = (mvTo old to mv x).set o (mvY old to mv x)) ∧ Upd (fun k => k = ct ∨ k = bm ∨ k = bt ∨ k = b) w w' := by
  obtain ⟨ho, hm, ht, ro, rm, ⟨cur, rt, hcs, hct⟩, hne, hnD, hlm, hle⟩ := hC
  obtain ⟨Ao, ko, rfl, hko⟩ := ro.slice_form
  have q1 := Blk.ne ho rm (by decide)
  have q2 := Blk.ne ho rt (by decide)
  have q3 := Blk.ne hm rm (by decide)
  have q4 := Blk.ne hm rt (by decide)
  have q5 := Blk.ne ht rm (by decide)
  have q6 := Blk.ne ht rt (by decide)
  have q7 := Blk.ne ho hb (by decide)
  have q8 := Blk.ne hm hb (by decide)
  have q9 := Blk.ne ht hb (by decide)
  obtain ⟨n1, n2, n3⟩ := hne
  have hxt : b = bt → to[o]? = some x := fun h => by
    have ecs : cs = cur := by rw [h] at hb; exact hb.inj rt
    have h1 : (to.map Wd)[o]? = some (Wd x) := by
      rw [← hct, List.getElem?_take_of_lt (hcase h), Array.getElem?_toList, ← ecs, hx]
    rw [List.getElem?_map] at h1
    cases h2 : to[o]? with
    | none => rw [h2] at h1; cases h1
    | some y =>
      rw [h2] at h1
      simp [Wd] at h1
      have h3 : y = x := by omega
      rw [h3]
  refine enterRet (vs := [_, _, _, _]) (N := 55) Tryd.func43 rfl rfl rfl ?_
  have hU := Upd.refl (fun k => k = ct ∨ k = bm ∨ k = bt ∨ k = b) w
  refine WC.keep [(0, _), (1, _), (2, _), (3, _)] ⟨rfl, rfl, rfl, rfl, trivial⟩ ?_
  refine WC.seq ?_
  refine WC.seq ?_
  refine WC.draws' (fun u0_ u1_ => Upd No u0_ u1_) (fun j => [0, 0, 1, 1, 0, 0, 0, 0, 0, 1, 0, 0, 0, 0].getD j 0) (.calm 0 (.calm 1 (.one 2 (.one 3 (.calm 4 (.calm 5 (.calm 6 (.held 7 (.calm 8 (.one 9 (.calm 10 (.calm 11 (.calm 12 (.calm 13 (.done))))))))))))))) mixed (by kernel_rfl) (by repeat (first | with_reducible exact Deaf.body | with_reducible apply Deaf.then | with_reducible apply Deaf.block)) ?_
  intro w1 hu1
  have hz1 := congrArg Array.size hu1.2.2.2
  replace hu1 := Upd.of_draw hu1
  have hs1 := hu1.size
  replace hU := hU.trans hu1 (by first | exact (fun _ _ h => h) | exact (fun _ _ h => h.elim) | (intro k hl hk; (try simp only [At, New, Grow, From, No] at hk ⊢); omega) | (intro k hl hk; first | exact (show False from hk).elim | (simp only [At] at hk; simp [hk]; done)))
  replace ho := ho.upd hu1 (fun hS => by first | exact (show False from hS) | (simp only [At] at hS; omega))
  replace hm := hm.upd hu1 (fun hS => by first | exact (show False from hS) | (simp only [At] at hS; omega))
  replace ht := ht.upd hu1 (fun hS => by first | exact (show False from hS) | (simp only [At] at hS; omega))
  replace ro := ro.upd hu1 (fun k hk hl hS => by first | exact (show False from hS).elim | (simp only [At] at hS; subst hS; first | exact hnD.1 hk | exact hnD.2.1 hk | exact hnD.2.2 hk | exact hbD hk))
  replace rm := rm.upd hu1 (fun hS => by first | exact (show False from hS) | (simp only [At] at hS; omega))
  replace rt := rt.upd hu1 (fun hS => by first | exact (show False from hS) | (simp only [At] at hS; omega))
  replace hb := hb.upd hu1 (fun hS => by first | exact (show False from hS) | (simp only [At] at hS; omega))
  have hS0 := Upd.refl No w1
  refine WN.calm _ rfl rfl rfl rfl rfl (fun _ => r_move rfl (ev_t rfl)) ?_
  refine WN.calm _ rfl rfl rfl rfl rfl (fun _ => r_nilCheck rfl (ev_t rfl)) ?_
  refine WN.step _ rfl (SO.val rfl rfl rfl rfl (r_load rfl (ev_t rfl) flat_32 (Blk.cell hb hx)) ?_)
  refine ⟨hS0, ?_⟩
  refine WN.step _ rfl (SO.call (isNum_ok hx64) rfl body_19 ⟨(ev_t rfl), trivial⟩ rfl rfl rfl rfl ?_)
  rintro v w2 ⟨rfl, rfl⟩
  refine ⟨hS0, ?_⟩
  refine WN.calm _ rfl rfl rfl rfl rfl (fun _ => r_move rfl (ev_t rfl)) ?_
  refine WN.cases 10 rfl (fun hb0_4 => ?_) (fun hb0_4 => ?_)
  · try (exfalso; first | (simp at hb0_4; done) | (simp only [decide_eq_true_eq, decide_eq_false_iff_not, Bool.not_eq_true', Bool.not_eq_false', Bool.not_eq_true, Bool.not_eq_false] at hb0_4; omega) | omega)
    all_goals
     try simp only [decide_eq_true_eq, decide_eq_false_iff_not, Bool.not_eq_true', Bool.not_eq_false', Bool.not_eq_true, Bool.not_eq_false, Option.isNone_none, Option.isNone_some, Option.isSome_none, Option.isSome_some, ne_eq, Decidable.not_not] at hb0_4
     refine WN.skip _ rfl rfl rfl rfl ?_
     refine WN.skip _ rfl rfl rfl rfl ?_
     refine WN.heldSkip _ rfl rfl rfl rfl hS0 ?_
     refine WN.skip _ rfl rfl rfl rfl ?_
     refine WN.step _ rfl (SO.skip rfl rfl rfl ?_)
     refine ⟨hS0, ?_⟩
     refine WN.skip _ rfl rfl rfl rfl ?_
     refine WN.skip _ rfl rfl rfl rfl ?_
     refine WN.skip _ rfl rfl rfl rfl ?_
     refine WN.calm _ rfl rfl rfl rfl rfl (fun _ => r_pickT rfl (ev_t rfl) ev_c) ?_
     refine WN.done ?_
     refine WX.keep [(0, _), (1, _), (2, _), (3, _), (19, _)] ⟨rfl, rfl, rfl, rfl, rfl, trivial⟩ ?_
     refine WX.next ?_
     refine WC.cond_true rfl (ev_t rfl) ?_
     refine WC.ret ?_
     refine WX.thenRet ?_
     refine WX.retE (l := []) (vs := []) rfl trivial ?_
     try rw [half_u64] at hc0
     have hnr : ¬ isR old x := by
       unfold isR
       omega
     have e1 : mvTo old to mv x = to := if_neg (fun h => hnr h.1)
     have e2 : mvMv old to mv x = mv := if_neg (fun h => hnr h.1)
     have e3 : mvY old to mv x = x := if_neg hnr
     rw [e1, e2, e3]
     have ho1 : o < cs.size := (Array.getElem?_eq_some_iff.1 hx).1
     have e4 : cs.setIfInBounds o (Wd x) = cs := by
       apply Array.ext_getElem?
       intro i
       rw [Array.getElem?_setIfInBounds]
       split
       · rename_i h; subst h; first | rw [hx] | rw [if_pos ho1, hx]
       · rfl
     refine ⟨to, ⟨ho, hm, ht, ro, rm, ⟨cur, rt, hcs, hct⟩, ⟨n1, n2, n3⟩, hnD, hlm, hle⟩, fun _ => ⟨rfl, by rw [e4]; exact hb⟩, fun h => ?_, hU⟩
     have ho2 := hcase h
     have e5 := hxt h
     apply List.ext_getElem?
     intro i
     rw [List.getElem?_set]
     split
     · rename_i h; subst h; first | rw [e5] | rw [if_pos ho2, e5]
     · rfl
  · try (exfalso; first | (simp at hb0_4; done) | (simp only [decide_eq_true_eq, decide_eq_false_iff_not, Bool.not_eq_true', Bool.not_eq_false', Bool.not_eq_true, Bool.not_eq_false] at hb0_4; omega) | omega)
    all_goals
     try simp only [decide_eq_true_eq, decide_eq_false_iff_not, Bool.not_eq_true', Bool.not_eq_false', Bool.not_eq_true, Bool.not_eq_false, Option.isNone_none, Option.isNone_some, Option.isSome_none, Option.isSome_some, ne_eq, Decidable.not_not] at hb0_4
     refine WN.calm _ rfl rfl rfl rfl rfl (fun _ => r_move rfl (ev_t rfl)) ?_
     refine WN.calm _ rfl rfl rfl rfl rfl (fun _ => r_nilCheck rfl (ev_t rfl)) ?_
     refine WN.held _ rfl rfl rfl rfl rfl hS0 (fun w' hS => r_load rfl (ev_t rfl) flat_32 (Blk.cell (hb.upd hS (fun h => h)) hx)) ?_
     refine WN.calm _ rfl rfl rfl rfl rfl (fun _ => r_shr rfl (ev_t rfl) ev_c (by omega) (by simp only [IntKind.bits]; omega)) ?_
     refine WN.step _ rfl (SO.val rfl rfl rfl rfl (r_load rfl (ev_t rfl) flat_30 (Blk.cell ho rfl)) ?_)
     refine ⟨hS0, ?_⟩
     refine WN.calm _ rfl rfl rfl rfl rfl (fun _ => r_lenSlice (ts := #[]) rfl (ev_t rfl) elem_30) ?_
     first | refine WN.calm _ rfl rfl rfl rfl rfl (fun _ => r_convN rfl (ev_t rfl) some_3 int_32 (by simp only [inK]; omega)) ?_ | refine WN.calm _ rfl rfl rfl rfl rfl (fun _ => r_conv rfl (ev_t rfl) some_3 int_32) ?_
     refine WN.calm _ rfl rfl rfl rfl rfl (fun _ => r_geq rfl (ev_t rfl) (ev_t rfl)) ?_
     refine WN.calm _ rfl rfl rfl rfl rfl (fun _ => r_pickF rfl (ev_t rfl) (ev_t rfl)) ?_
     refine WN.done ?_
     refine WX.keep [(0, _), (1, _), (2, _), (3, _), (19, _)] ⟨rfl, rfl, rfl, rfl, rfl, trivial⟩ ?_
     refine WX.next ?_
     refine WC.cond rfl (ev_t rfl) (fun hc0 => ?_) (fun hc0 => ?_)
     · try (exfalso; first | (simp at hc0; done) | (simp only [decide_eq_true_eq, decide_eq_false_iff_not, Bool.not_eq_true', Bool.not_eq_false', Bool.not_eq_true, Bool.not_eq_false] at hc0; omega) | omega)
       all_goals
        try simp only [decide_eq_true_eq, decide_eq_false_iff_not, Bool.not_eq_true', Bool.not_eq_false', Bool.not_eq_true, Bool.not_eq_false, Option.isNone_none, Option.isNone_some, Option.isSome_none, Option.isSome_some, ne_eq, Decidable.not_not] at hc0
        refine WC.ret ?_
        refine WX.thenRet ?_
        refine WX.retE (l := []) (vs := []) rfl trivial ?_
        try rw [half_u64] at hc0
        have hnr : ¬ isR old x := by
          unfold isR
          omega
        have e1 : mvTo old to mv x = to := if_neg (fun h => hnr h.1)
        have e2 : mvMv old to mv x = mv := if_neg (fun h => hnr h.1)
        have e3 : mvY old to mv x = x := if_neg hnr
        rw [e1, e2, e3]
        have ho1 : o < cs.size := (Array.getElem?_eq_some_iff.1 hx).1
        have e4 : cs.setIfInBounds o (Wd x) = cs := by
          apply Array.ext_getElem?
          intro i
          rw [Array.getElem?_setIfInBounds]
          split
          · rename_i h; subst h; first | rw [hx] | rw [if_pos ho1, hx]
          · rfl
        refine ⟨to, ⟨ho, hm, ht, ro, rm, ⟨cur, rt, hcs, hct⟩, ⟨n1, n2, n3⟩, hnD, hlm, hle⟩, fun _ => ⟨rfl, by rw [e4]; exact hb⟩, fun h => ?_, hU⟩
        have ho2 := hcase h
        have e5 := hxt h
        apply List.ext_getElem?
        intro i
        rw [List.getElem?_set]
        split
        · rename_i h; subst h; first | rw [e5] | rw [if_pos ho2, e5]
        · rfl
     · try (exfalso; first | (simp at hc0; done) | (simp only [decide_eq_true_eq, decide_eq_false_iff_not, Bool.not_eq_true', Bool.not_eq_false', Bool.not_eq_true, Bool.not_eq_false] at hc0; omega) | omega)
       all_goals
        try simp only [decide_eq_true_eq, decide_eq_false_iff_not, Bool.not_eq_true', Bool.not_eq_false', Bool.not_eq_true, Bool.not_eq_false, Option.isNone_none, Option.isNone_some, Option.isSome_none, Option.isSome_some, ne_eq, Decidable.not_not] at hc0
        rw [half_u64] at hc0
        have hir : isR old x := by
          unfold isR
          omega
        obtain ⟨hg1, hg2⟩ := hgo hir
        have hal : x / 2 < old.length := hir.2
        obtain ⟨boo, oo, rfl, _⟩ := ro.open (by omega)
        have hmv : mv[x / 2]? = some (mv.getD (x / 2) 0) := by rw [List.getD_eq_getElem?_getD, List.getElem?_eq_getElem (by omega)]; rfl
        refine WC.skip ?_
        refine WX.next ?_
        refine WC.seq ?_
        refine WC.region ?_
        refine WL.val rfl rfl rfl rfl (r_move rfl (ev_t rfl)) ?_
        refine WL.val rfl rfl rfl rfl (r_nilCheck rfl (ev_t rfl)) ?_
        refine WL.val rfl rfl rfl rfl (r_load rfl (ev_t rfl) flat_32 (Blk.cell hb hx)) ?_
        refine WL.val rfl rfl rfl rfl (r_shr rfl (ev_t rfl) ev_c (by omega) (by simp only [IntKind.bits]; omega)) ?_
        first | refine WL.val rfl rfl rfl rfl (r_convN rfl (ev_t rfl) some_32 int_3 (by simp only [inK]; omega)) ?_ | refine WL.val rfl rfl rfl rfl (r_conv rfl (ev_t rfl) some_32 int_3) ?_
        rw [half_i64 hx64]
        refine WL.val rfl rfl rfl rfl (r_assign rfl (ev_t rfl)) ?_
        refine WL.nil ?_
        refine WX.keep [(0, _), (1, _), (2, _), (3, _), (5, _)] ⟨rfl, rfl, rfl, rfl, rfl, trivial⟩ ?_
        refine WX.next ?_
        -- cut 2: live [0, 2, 5]
        refine WC.cut (fun E wB => ∃ (cur2 cs2 : Array Value), Upd (fun k => k = ct ∨ k = bm ∨ k = bt ∨ k = b) w wB ∧ Blk wB co #[.slice (some ⟨boo, oo, none⟩) old.length ko] 30 ∧ Blk wB cm #[.slice (some ⟨bm, 0, none⟩) old.length old.length] 30 ∧ Blk wB ct #[.slice (some ⟨bt, 0, none⟩) (mvTo old to mv x).length old.length] 30 ∧ Rd wB D (.slice (some ⟨boo, oo, none⟩) old.length ko) old.length 1 (old.map Wd) ∧ Blk wB bm ((mvMv old to mv x).map Wd).toArray tWord ∧ Blk wB bt cur2 tWord ∧ cur2.size = old.length ∧ cur2.toList.take (mvTo old to mv x).length = (mvTo old to mv x).map Wd ∧ Blk wB b cs2 tWord ∧ (b ≠ bt → cs2 = cs) ∧ (b = bt → cs2 = cur2) ∧ E = [(0, .pointer (some ⟨b, o, none⟩)), (2, .pointer (some ⟨cm, 0, none⟩)), (5, .int .i64 ((x / 2 : Nat) : Int))]) ?_ ?_
        · refine WC.seq ?_
          refine WC.region ?_
          refine WL.val rfl rfl rfl rfl (r_load rfl (ev_t rfl) flat_30 (Blk.cell hm rfl)) ?_
          refine WL.val rfl rfl rfl rfl (r_move rfl (ev_t rfl)) ?_
          refine WL.val rfl rfl rfl rfl (r_indexAddr rfl (ev_t rfl) (ev_t rfl) elem_30 size_32 (by omega) (by omega)) ?_
          refine WL.val rfl rfl rfl rfl (r_load rfl (ev_t rfl) flat_32 (Blk.cell rm (by rw [show 0 + ((x / 2 : Nat) : Int).toNat * 1 = x / 2 by omega, List.getElem?_toArray, List.getElem?_map, hmv]; rfl))) ?_
          refine WL.val rfl rfl rfl rfl (r_eql rfl (ev_t rfl) ev_c) ?_
          refine WL.nil ?_
          refine WX.keep [(0, _), (1, _), (2, _), (3, _), (5, _), (29, _)] ⟨rfl, rfl, rfl, rfl, rfl, rfl, trivial⟩ ?_
          refine WX.next ?_
          refine WC.cond rfl (ev_t rfl) (fun hc2 => ?_) (fun hc2 => ?_)
          · try (exfalso; first | (simp at hc2; done) | (simp only [decide_eq_true_eq, decide_eq_false_iff_not, Bool.not_eq_true', Bool.not_eq_false', Bool.not_eq_true, Bool.not_eq_false] at hc2; omega) | omega)
            all_goals
             try simp only [decide_eq_true_eq, decide_eq_false_iff_not, Bool.not_eq_true', Bool.not_eq_false', Bool.not_eq_true, Bool.not_eq_false, Option.isNone_none, Option.isNone_some, Option.isSome_none, Option.isSome_some, ne_eq, Decidable.not_not] at hc2
             have hmz : mv.getD (x / 2) 0 = 0 := by omega
             have hroom : to.length + szAt old (x / 2) ≤ old.length := by
               rcases hg2 with h | ⟨k, h, _⟩
               · exact h.2
               · rw [hmz] at h; omega
             clear hg2 hgo
             have hhd : old[x / 2]? = some (old.getD (x / 2) 0) := by rw [List.getD_eq_getElem?_getD, List.getElem?_eq_getElem hal]; rfl
             have hh64 := hold _ (List.mem_of_getElem? hhd)
             have hszp := szAt_pos old (x / 2)
             have hsz : szAt old (x / 2) = szO (old.getD (x / 2) 0) := rfl
             have hbi : BI (b ≠ bt) _ b cs tWord := fun _ => hb
             refine WC.seq ?_
             refine WC.region ?_
             refine WL.val rfl rfl rfl rfl (r_load rfl (ev_t rfl) flat_30 (Blk.cell hm rfl)) ?_
             refine WL.val rfl rfl rfl rfl (r_move rfl (ev_t rfl)) ?_
             refine WL.val rfl rfl rfl rfl (r_load rfl (ev_t rfl) flat_30 (Blk.cell ht rfl)) ?_
             refine WL.val rfl rfl rfl rfl (r_lenSlice (ts := #[]) rfl (ev_t rfl) elem_30) ?_
             first | refine WL.val rfl rfl rfl rfl (r_convN rfl (ev_t rfl) some_3 int_32 (by simp only [inK]; omega)) ?_ | refine WL.val rfl rfl rfl rfl (r_conv rfl (ev_t rfl) some_3 int_32) ?_
             refine WL.val rfl rfl rfl rfl (r_shl rfl (ev_t rfl) ev_c (by omega) (by simp only [IntKind.bits]; omega)) ?_
             refine WL.val rfl rfl rfl rfl (r_or rfl (ev_t rfl) ev_c) ?_
             rw [dbl_or (n := to.length) (by omega)]
             refine WL.val rfl rfl rfl rfl (r_indexAddr rfl (ev_t rfl) (ev_t rfl) elem_30 size_32 (by omega) (by omega)) ?_
             refine WL.cons (SO.store rfl (ev_t rfl) (ev_t rfl) size_32 rm (by rw [Nat.blt_eq]; simp; omega) rfl rfl rfl rfl ?_)
             intro w3 hu3 rm2 hz3
             rw [show 0 + ((x / 2 : Nat) : Int).toNat * 1 = x / 2 by omega, show Value.int IntKind.u64 ((2 * to.length + 1 : Nat) : Int) = Wd (2 * to.length + 1) from rfl, mvRow_set] at rm2
             have hs3 := hu3.size
             replace hU := hU.trans hu3 (by first | exact (fun _ _ h => h) | exact (fun _ _ h => h.elim) | (intro k hl hk; (try simp only [At, New, Grow, From, No] at hk ⊢); omega) | (intro k hl hk; first | exact (show False from hk).elim | (simp only [At] at hk; simp [hk]; done)))
             replace ho := ho.upd hu3 (fun hS => by first | exact (show False from hS) | (simp only [At] at hS; omega))
             replace hm := hm.upd hu3 (fun hS => by first | exact (show False from hS) | (simp only [At] at hS; omega))
             replace ht := ht.upd hu3 (fun hS => by first | exact (show False from hS) | (simp only [At] at hS; omega))
             replace ro := ro.upd hu3 (fun k hk hl hS => by first | exact (show False from hS).elim | (simp only [At] at hS; subst hS; first | exact hnD.1 hk | exact hnD.2.1 hk | exact hnD.2.2 hk | exact hbD hk))
             replace rt := rt.upd hu3 (fun hS => by first | exact (show False from hS) | (simp only [At] at hS; omega))
             replace hbi := hbi.upd hu3 (fun hp hS => by first | exact (show False from hS) | (simp only [At] at hS; omega))
             have rm := rm2
             refine WL.nil ?_
             refine WX.keep [(0, _), (1, _), (2, _), (3, _), (5, _)] ⟨rfl, rfl, rfl, rfl, rfl, trivial⟩ ?_
             refine WX.next ?_
             refine WC.draws' (fun u0_ u1_ => Upd (fun k => k = bt) u0_ u1_) (fun j => [0, 0, 0, 0, 1, 0, 1, 0, 0, 2, 2].getD j 0) (.calm 2 (.calm 3 (.calm 5 (.held 0 (.held 1 (.one 4 (.one 6 (.calm 7 (.calm 8 (.one 9 (.one 10 (.done)))))))))))) mixed (by kernel_rfl) (by repeat (first | with_reducible exact Deaf.body | with_reducible apply Deaf.then | with_reducible apply Deaf.block)) ?_
             intro w4 hu4
             have hz4 := congrArg Array.size hu4.2.2.2
             replace hu4 := Upd.of_draw hu4
             have hs4 := hu4.size
             replace hU := hU.trans hu4 (by first | exact (fun _ _ h => h) | exact (fun _ _ h => h.elim) | (intro k hl hk; (try simp only [At, New, Grow, From, No] at hk ⊢); omega) | (intro k hl hk; first | exact (show False from hk).elim | (simp only [At] at hk; simp [hk]; done)))
             replace ho := ho.upd hu4 (fun hS => by first | exact (show False from hS) | (simp only [At] at hS; omega))
             replace hm := hm.upd hu4 (fun hS => by first | exact (show False from hS) | (simp only [At] at hS; omega))
             replace ht := ht.upd hu4 (fun hS => by first | exact (show False from hS) | (simp only [At] at hS; omega))
             replace ro := ro.upd hu4 (fun k hk hl hS => by first | exact (show False from hS).elim | (simp only [At] at hS; subst hS; first | exact hnD.1 hk | exact hnD.2.1 hk | exact hnD.2.2 hk | exact hbD hk))
             replace rt := rt.upd hu4 (fun hS => by first | exact (show False from hS) | (simp only [At] at hS; omega))
             replace hbi := hbi.upd hu4 (fun hp hS => by first | exact (show False from hS) | (simp only [At] at hS; omega))
             replace rm := rm.upd hu4 (fun hS => by first | exact (show False from hS) | (simp only [At] at hS; omega))
             have hS4 := Upd.refl (fun k => k = bt) w4
             refine WN.calm _ rfl rfl rfl rfl rfl (fun _ => r_move rfl (ev_t rfl)) ?_
             refine WN.calm _ rfl rfl rfl rfl rfl (fun _ => r_move rfl (ev_t rfl)) ?_
             refine WN.calm _ rfl rfl rfl rfl rfl (fun _ => r_move rfl (ev_t rfl)) ?_
             refine WN.held _ rfl rfl rfl rfl rfl hS4 (fun w' hS => r_load rfl (ev_t rfl) flat_30 (Blk.cell (ht.upd hS (by (try simp only [At, From, No, Grow, New]); omega)) rfl)) ?_
             refine WN.held _ rfl rfl rfl rfl rfl hS4 (fun w' hS => r_load rfl (ev_t rfl) flat_30 (Blk.cell (ho.upd hS (by (try simp only [At, From, No, Grow, New]); omega)) rfl)) ?_
             refine WN.step _ rfl (SO.val rfl rfl rfl rfl (r_load rfl (ev_t rfl) flat_30 (Blk.cell ho rfl)) ?_)
             refine ⟨hS4, ?_⟩
             refine WN.step _ rfl (SO.call (size_ok ro hhd hh64) rfl body_44 ⟨(ev_t rfl), (ev_t rfl), trivial⟩ rfl rfl rfl rfl ?_)
             rintro v w5 ⟨rfl, hu5⟩
             have hs5 := hu5.size
             replace hS4 := Upd.trans hS4 hu5 (by intro k hl hk; first | exact (show False from hk).elim | (simp only [At] at hk; omega))
             replace hU := hU.trans hu5 (by first | exact (fun _ _ h => h) | exact (fun _ _ h => h.elim) | (intro k hl hk; (try simp only [At, New, Grow, From, No] at hk ⊢); omega) | (intro k hl hk; first | exact (show False from hk).elim | (simp only [At] at hk; simp [hk]; done)))
             replace ho := ho.upd hu5 (fun hS => by first | exact (show False from hS) | (simp only [At] at hS; omega))
             replace hm := hm.upd hu5 (fun hS => by first | exact (show False from hS) | (simp only [At] at hS; omega))
             replace ht := ht.upd hu5 (fun hS => by first | exact (show False from hS) | (simp only [At] at hS; omega))
             replace ro := ro.upd hu5 (fun k hk hl hS => by first | exact (show False from hS).elim | (simp only [At] at hS; subst hS; first | exact hnD.1 hk | exact hnD.2.1 hk | exact hnD.2.2 hk | exact hbD hk))
             replace rt := rt.upd hu5 (fun hS => by first | exact (show False from hS) | (simp only [At] at hS; omega))
             replace hbi := hbi.upd hu5 (fun hp hS => by first | exact (show False from hS) | (simp only [At] at hS; omega))
             replace rm := rm.upd hu5 (fun hS => by first | exact (show False from hS) | (simp only [At] at hS; omega))
             refine ⟨hS4, ?_⟩
             first | refine WN.calm _ rfl rfl rfl rfl rfl (fun _ => r_addN rfl (ev_t rfl) (ev_t rfl) (by simp only [inK]; omega)) ?_ | refine WN.calm _ rfl rfl rfl rfl rfl (fun _ => r_add rfl (ev_t rfl) (ev_t rfl)) ?_
             refine WN.calm _ rfl rfl rfl rfl rfl (fun _ => r_slice (l := x / 2) (h := x / 2 + szAt old (x / 2)) rfl (ev_t rfl) elem_30 size_32 (bnd_some (ev_t rfl) (by omega)) (bnd_some (ev_t rfl) (by omega)) (by omega) (by omega) (by omega)) ?_
             have hsl := ro.slice (l := x / 2) (h := x / 2 + szAt old (x / 2)) (by omega) hg1
             rw [Nat.add_sub_cancel_left, Nat.mul_one, Nat.mul_one, ← List.map_drop, ← List.map_take] at hsl
             rw [Nat.add_sub_cancel_left]
             refine WN.step _ rfl (SO.appendRoom (by_ := 8) (z := .int .u64 0) rt hsl row_30 (fun u hu => by obtain ⟨y, _, rfl⟩ := List.mem_map.1 hu; rfl) hroom hcs (by omega) rfl (ev_t rfl) (ev_t rfl) rfl rfl rfl rfl ?_)
             intro w6 hu6 rt2 hz4
             have hs6 := hu6.size
             try replace hS4 := Upd.trans hS4 hu6 (by intro k hl hk; first | exact (show False from hk).elim | (simp only [At] at hk; omega))
             replace hU := hU.trans hu6 (by first | exact (fun _ _ h => h) | exact (fun _ _ h => h.elim) | (intro k hl hk; (try simp only [At, New, Grow, From, No] at hk ⊢); omega) | (intro k hl hk; first | exact (show False from hk).elim | (simp only [At] at hk; simp [hk]; done)))
             replace ho := ho.upd hu6 (fun hS => by first | exact (show False from hS) | (simp only [At] at hS; omega))
             replace hm := hm.upd hu6 (fun hS => by first | exact (show False from hS) | (simp only [At] at hS; omega))
             replace ht := ht.upd hu6 (fun hS => by first | exact (show False from hS) | (simp only [At] at hS; omega))
             replace ro := ro.upd hu6 (fun k hk hl hS => by first | exact (show False from hS).elim | (simp only [At] at hS; subst hS; first | exact hnD.1 hk | exact hnD.2.1 hk | exact hnD.2.2 hk | exact hbD hk))
             replace hbi := hbi.upd hu6 (fun hp hS => by first | exact (show False from hS) | (simp only [At] at hS; omega))
             replace rm := rm.upd hu6 (fun hS => by first | exact (show False from hS) | (simp only [At] at hS; omega))
             clear rt
             refine ⟨trivial, ?_⟩
             refine WN.step _ rfl (SO.store rfl (ev_t rfl) (ev_t rfl) size_30 ht rfl rfl rfl rfl rfl ?_)
             intro w7 hu7 ht hz7
             have hs7 := hu7.size
             try replace hS4 := Upd.trans hS4 hu7 (by intro k hl hk; first | exact (show False from hk).elim | (simp only [At] at hk; omega))
             replace hU := hU.trans hu7 (by first | exact (fun _ _ h => h) | exact (fun _ _ h => h.elim) | (intro k hl hk; (try simp only [At, New, Grow, From, No] at hk ⊢); omega) | (intro k hl hk; first | exact (show False from hk).elim | (simp only [At] at hk; simp [hk]; done)))
             replace ho := ho.upd hu7 (fun hS => by first | exact (show False from hS) | (simp only [At] at hS; omega))
             replace hm := hm.upd hu7 (fun hS => by first | exact (show False from hS) | (simp only [At] at hS; omega))
             replace ro := ro.upd hu7 (fun k hk hl hS => by first | exact (show False from hS).elim | (simp only [At] at hS; subst hS; first | exact hnD.1 hk | exact hnD.2.1 hk | exact hnD.2.2 hk | exact hbD hk))
             replace hbi := hbi.upd hu7 (fun hp hS => by first | exact (show False from hS) | (simp only [At] at hS; omega))
             replace rm := rm.upd hu7 (fun hS => by first | exact (show False from hS) | (simp only [At] at hS; omega))
             replace rt2 := rt2.upd hu7 (fun hS => by first | exact (show False from hS) | (simp only [At] at hS; omega))
             refine ⟨trivial, ?_⟩
             refine WN.done ?_
             refine WX.keep [(0, _), (2, _), (5, _)] ⟨rfl, rfl, rfl, trivial⟩ ?_
             refine WX.meet [(0, _), (2, _), (5, _)] ⟨rfl, rfl, rfl, trivial⟩ ?_
             first
               | (have f1 : mvTo old to mv x = to ++ objAt old (x / 2) := if_pos ⟨hir, hmz⟩
                  have f2 : mvMv old to mv x = mv.set (x / 2) (2 * to.length + 1) := if_pos ⟨hir, hmz⟩
                  obtain ⟨r1, r2⟩ := row_app hcs hct (objAt_len hg1) hroom
                  have eL : (to ++ objAt old (x / 2)).length = to.length + szAt old (x / 2) := by rw [List.length_append, objAt_len hg1]
                  rw [f1, f2, eL]
                  exact ⟨_, _, hU, ho, hm, ht, ro, rm, rt2, r1, r2, hbi.pick rt2, fun h => if_neg h, fun h => if_pos h, rfl⟩)
               | (have hmn : ¬ mv.getD (x / 2) 0 = 0 := by omega
                  have f1 : mvTo old to mv x = to := if_neg (fun h => hmn h.2)
                  have f2 : mvMv old to mv x = mv := if_neg (fun h => hmn h.2)
                  rw [f1, f2]
                  exact ⟨_, _, hU, ho, hm, ht, ro, rm, rt, hcs, hct, hb, fun _ => rfl, fun h => by subst h; exact hb.inj rt, rfl⟩)
          · try (exfalso; first | (simp at hc2; done) | (simp only [decide_eq_true_eq, decide_eq_false_iff_not, Bool.not_eq_true', Bool.not_eq_false', Bool.not_eq_true, Bool.not_eq_false] at hc2; omega) | omega)
            all_goals
             try simp only [decide_eq_true_eq, decide_eq_false_iff_not, Bool.not_eq_true', Bool.not_eq_false', Bool.not_eq_true, Bool.not_eq_false, Option.isNone_none, Option.isNone_some, Option.isSome_none, Option.isSome_some, ne_eq, Decidable.not_not] at hc2
             refine WC.skip ?_
             refine WX.meet [(0, _), (2, _), (5, _)] ⟨rfl, rfl, rfl, trivial⟩ ?_
             first
               | (have f1 : mvTo old to mv x = to ++ objAt old (x / 2) := if_pos ⟨hir, hmz⟩
                  have f2 : mvMv old to mv x = mv.set (x / 2) (2 * to.length + 1) := if_pos ⟨hir, hmz⟩
                  obtain ⟨r1, r2⟩ := row_app hcs hct (objAt_len hg1) hroom
                  have eL : (to ++ objAt old (x / 2)).length = to.length + szAt old (x / 2) := by rw [List.length_append, objAt_len hg1]
                  rw [f1, f2, eL]
                  exact ⟨_, _, hU, ho, hm, ht, ro, rm, rt2, r1, r2, hbi.pick rt2, fun h => if_neg h, fun h => if_pos h, rfl⟩)
               | (have hmn : ¬ mv.getD (x / 2) 0 = 0 := by omega
                  have f1 : mvTo old to mv x = to := if_neg (fun h => hmn h.2)
                  have f2 : mvMv old to mv x = mv := if_neg (fun h => hmn h.2)
                  rw [f1, f2]
                  exact ⟨_, _, hU, ho, hm, ht, ro, rm, rt, hcs, hct, hb, fun _ => rfl, fun h => by subst h; exact hb.inj rt, rfl⟩)
        · clear hU ho hm ht ro rm rt hb hcs hct
          rintro E wB ⟨cur2, cs2, hU, ho, hm, ht, ro, rm, rt, hcs, hct, hb, hb1, hb2, rfl⟩
          obtain ⟨⟨k, hk1, hk2, hk3⟩, hlm2, hlt2⟩ := mvY_spec hlm hle hir hgo
          clear hgo hg2
          have hx2 : cs2[o]? = some (Wd x) := by
            by_cases hbb : b = bt
            · rw [hb2 hbb, ← Array.getElem?_toList]
              have h1 := mvTo_get (old := old) (mv := mv) (x := x) (hxt hbb)
              have h2 : ((mvTo old to mv x).map Wd)[o]? = some (Wd x) := by rw [List.getElem?_map, h1]; rfl
              rw [← hct] at h2
              rw [← h2, List.getElem?_take_of_lt]
              exact (List.getElem?_eq_some_iff.1 h1).1
            · rw [hb1 hbb]; exact hx
          have ho2 : o < cs2.size := (Array.getElem?_eq_some_iff.1 hx2).1
          refine WC.region ?_
          refine WL.val rfl rfl rfl rfl (r_move rfl (ev_t rfl)) ?_
          refine WL.val rfl rfl rfl rfl (r_load rfl (ev_t rfl) flat_30 (Blk.cell hm rfl)) ?_
          refine WL.val rfl rfl rfl rfl (r_move rfl (ev_t rfl)) ?_
          refine WL.val rfl rfl rfl rfl (r_indexAddr rfl (ev_t rfl) (ev_t rfl) elem_30 size_32 (by omega) (by omega)) ?_
          refine WL.val rfl rfl rfl rfl (r_load rfl (ev_t rfl) flat_32 (Blk.cell rm (by rw [show 0 + ((x / 2 : Nat) : Int).toNat * 1 = x / 2 by omega, List.getElem?_toArray, List.getElem?_map, hk1]; rfl))) ?_
          refine WL.val rfl rfl rfl rfl (r_andNot rfl (ev_t rfl) ev_c) ?_
          refine WL.val rfl rfl rfl rfl (r_nilCheck rfl (ev_t rfl)) ?_
          rw [andNot_odd k hk3]
          have hrti : BI (b ≠ bt) _ bt cur2 tWord := fun _ => rt
          refine WL.cons (SO.store rfl (ev_t rfl) (ev_t rfl) size_32 hb (by rw [Nat.blt_eq]; exact ho2) rfl rfl rfl rfl ?_)
          intro w8 hu8 hb3 hz5
          rw [show Value.int IntKind.u64 ((2 * k : Nat) : Int) = Wd (2 * k) from rfl] at hb3
          have hs8 := hu8.size
          replace hU := hU.trans hu8 (by first | exact (fun _ _ h => h) | exact (fun _ _ h => h.elim) | (intro k hl hk; (try simp only [At, New, Grow, From, No] at hk ⊢); omega) | (intro k hl hk; first | exact (show False from hk).elim | (simp only [At] at hk; simp [hk]; done)))
          replace ho := ho.upd hu8 (fun hS => by first | exact (show False from hS) | (simp only [At] at hS; omega))
          replace hm := hm.upd hu8 (fun hS => by first | exact (show False from hS) | (simp only [At] at hS; omega))
          replace ht := ht.upd hu8 (fun hS => by first | exact (show False from hS) | (simp only [At] at hS; omega))
          replace ro := ro.upd hu8 (fun k hk hl hS => by first | exact (show False from hS).elim | (simp only [At] at hS; subst hS; first | exact hnD.1 hk | exact hnD.2.1 hk | exact hnD.2.2 hk | exact hbD hk))
          replace rm := rm.upd hu8 (fun hS => by first | exact (show False from hS) | (simp only [At] at hS; omega))
          replace hrti := hrti.upd hu8 (fun hp hS => by first | exact (show False from hS) | (simp only [At] at hS; omega))
          refine WL.nil ?_
          refine WX.keep [] trivial ?_
          refine WX.endE (l := []) (vs := []) rfl trivial ?_
          by_cases hbb : b = bt
          · refine ⟨(mvTo old to mv x).set o (mvY old to mv x), ⟨ho, hm, by rw [List.length_set]; exact ht, ro, rm, ⟨cs2.setIfInBounds o (Wd (2 * k)), hbb ▸ hb3, ?_, ?_⟩, ⟨n1, n2, n3⟩, hnD, hlm2, by rw [List.length_set]; exact hlt2, hle.2⟩, fun h => absurd hbb h, fun _ => rfl, hU⟩
            · rw [Array.size_setIfInBounds, hb2 hbb]; exact hcs
            · rw [List.length_set, Array.toList_setIfInBounds, List.take_set, hb2 hbb, hct, List.map_set, hk2]
          · refine ⟨_, ⟨ho, hm, ht, ro, rm, ⟨cur2, hrti hbb, hcs, hct⟩, ⟨n1, n2, n3⟩, hnD, hlm2, hlt2, hle.2⟩, fun _ => ⟨rfl, ?_⟩, fun h => absurd h hbb, hU⟩
            rw [hk2, ← hb1 hbb]
            exact hb3
end Go.Proofs.YtdpnnclkkbfihaaDoor
