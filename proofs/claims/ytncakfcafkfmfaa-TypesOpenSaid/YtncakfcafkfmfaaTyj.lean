/-
  types: the reference's Put and Same; the program's Same.
-/
import Derived.Test.YtncakfcafkfmfaaTyi
import Derived.Test.YtncakfcafkfmfaaTyW
namespace Go.Proofs.Ytncakfcafkfmfaa
open Go
set_option linter.unusedSimpArgs false
set_option linter.unusedVariables false

/-- the variables of a list replaced by the types of another one -/
abbrev putS : List Int → List Ty → Int → Ty := putT
theorem putS_hit : ∀ {vs : List Int} {ls : List Ty} {i : Nat} {x : Int} {u : Ty}, vs[i]? = some x → (∀ j, j < i → vs[j]? ≠ some x) → ls[i]? = some u → putS vs ls x = u
  | [], _, i, x, u, h, _, _ => by simp at h
  | v :: vs, [], i, x, u, _, _, h => by simp at h
  | v :: vs, l :: ls, 0, x, u, h, _, h2 => by
    simp only [List.getElem?_cons_zero, Option.some.injEq] at h h2
    subst h h2
    simp [putS, putT]
  | v :: vs, l :: ls, i + 1, x, u, h, hn, h2 => by
    have hv : ¬ v = x := fun e => hn 0 (by omega) (by simp [e])
    simp only [putS, putT, hv, if_false]
    exact putS_hit (by simpa using h) (fun j hj => by have := hn (j + 1) (by omega); simpa using this) (by simpa using h2)
theorem putS_miss : ∀ {vs : List Int} {ls : List Ty} {x : Int}, (∀ j, j < vs.length → vs[j]? ≠ some x) → putS vs ls x = .v x
  | [], _, x, _ => by simp [putS, putT]
  | v :: vs, [], x, _ => by simp [putS, putT]
  | v :: vs, l :: ls, x, hn => by
    have hv : ¬ v = x := fun e => hn 0 (by simp) (by simp [e])
    simp only [putS, putT, hv, if_false]
    exact putS_miss fun j hj => by have := hn (j + 1) (by simp; omega); simpa using this

set_option maxHeartbeats 4000000 in
theorem put_ok {vv lv : Value} {vs : List Int} {ls : List Ty} (hvl : vs.length ≤ ls.length) : ∀ (N : Nat) (F : Nat → Prop) (w : World) (xl : List C3) (a b c : Value) (t : Ty), sz t ≤ N → TV w F (a, b, c) t → Rd w F vv vs.length 1 (vs.map I6) → Rd w F lv ls.length 3 (xl.flatMap c3) → TVs w F xl ls →
    Ret Try.prog 17 #[.agg #[a, b, c], vv, lv] w fun v w' => ∃ a' b' c', v = .agg #[a', b', c'] ∧ TV w' (fun k => F k ∨ New w w' k) (a', b', c') (ext (putS vs ls) t) ∧ Upd No w w' := by
  intro N
  induction N with
  | zero =>
    intro F w xl a b c t hN
    have := sz_pos t
    omega
  | succ N ih =>
    intro F w xl a b c t hN ht hv hl hls
    replace ht := ht.bound
    replace hv := hv.bound
    replace hl := hl.bound
    replace hls := hls.bound
    obtain ⟨Av, kv, rfl, _⟩ := hv.slice_form
    obtain ⟨Al, kl, rfl, _⟩ := hl.slice_form
    have hvm := hv.le
    obtain ⟨m, A0, k0, xk, rfl, rfl, rfl, hm, hr, hlk, hb, hk⟩ := ht.open
    have hks : TVs w (fun k => F k ∧ k < w.heap.size) xk t.kids := ⟨hlk, hk⟩
    refine enterRet (vs := [_, _, _]) (N := 58) Try.func17 rfl rfl rfl ?_
    have hU := Upd.refl No w
    refine WC.keep [(0, _), (1, _), (2, _)] ⟨rfl, rfl, rfl, trivial⟩ ?_
    refine WC.seq ?_
    refine WC.region ?_
    refine WL.cons (SO.alloc rfl rfl rfl rfl (r_boxAgg rfl (ev_t rfl)) ?_)
    intro w1 hu1 hB1 hz1
    have hs1 := hu1.size
    replace hU := hU.trans hu1 (by exact (fun _ _ h => h))
    replace hr := hr.upd hu1 (fun k hk hl hS => by exact (show False from hS).elim)
    replace hks := hks.upd hu1 (fun k hk hl hS => by exact (show False from hS).elim)
    replace hv := hv.upd hu1 (fun k hk hl hS => by exact (show False from hS).elim)
    replace hl := hl.upd hu1 (fun k hk hl hS => by exact (show False from hS).elim)
    replace hls := hls.upd hu1 (fun k hk hl hS => by exact (show False from hS).elim)
    refine WL.cons (SO.alloc rfl rfl rfl rfl (r_alloc rfl zero_28) ?_)
    intro w2 hu2 hB2 hz2
    have hs2 := hu2.size
    replace hU := hU.trans hu2 (by exact (fun _ _ h => h))
    replace hr := hr.upd hu2 (fun k hk hl hS => by exact (show False from hS).elim)
    replace hks := hks.upd hu2 (fun k hk hl hS => by exact (show False from hS).elim)
    replace hv := hv.upd hu2 (fun k hk hl hS => by exact (show False from hS).elim)
    replace hl := hl.upd hu2 (fun k hk hl hS => by exact (show False from hS).elim)
    replace hls := hls.upd hu2 (fun k hk hl hS => by exact (show False from hS).elim)
    replace hB1 := hB1.upd hu2 (by exact (fun h => h))
    refine WL.nil ?_
    refine WX.keep [(1, _), (2, _), (3, _), (6, _)] ⟨rfl, rfl, rfl, rfl, trivial⟩ ?_
    refine WX.next ?_
    refine WC.seq ?_
    refine WC.seq ?_
    refine WC.region ?_
    refine WL.val rfl rfl rfl rfl (r_assign rfl ev_c) ?_
    refine WL.nil ?_
    refine WX.keep [(1, _), (2, _), (3, _), (6, _), (7, _)] ⟨rfl, rfl, rfl, rfl, rfl, trivial⟩ ?_
    refine WX.next ?_
    refine WC.block ?_
    -- loop 1: live [1, 2, 3, 6, 7]
    refine WC.keep [(1, _), (2, _), (3, _), (6, _), (7, _)] ⟨rfl, rfl, rfl, rfl, rfl, trivial⟩ ?_
    refine WC.loop (fun q E w' => ∃ (i : Nat), i ≤ vs.length ∧ q = vs.length - i ∧ Upd No w w' ∧ w.heap.size + 2 ≤ w'.heap.size ∧ Rd w' (fun k => F k ∧ k < w.heap.size) (.slice A0 t.kids.length k0) t.kids.length 3 (xk.flatMap c3) ∧ TVs w' (fun k => F k ∧ k < w.heap.size) xk t.kids ∧ Rd w' (fun k => F k ∧ k < w.heap.size) (.slice Av vs.length kv) vs.length 1 (vs.map I6) ∧ Rd w' (fun k => F k ∧ k < w.heap.size) (.slice Al ls.length kl) ls.length 3 (xl.flatMap c3) ∧ TVs w' (fun k => F k ∧ k < w.heap.size) xl ls ∧   Blk w' w.heap.size #[.string ⟨t.nm.toArray⟩, .int .i64 m, .slice A0 t.kids.length k0] typ ∧ Blk w' w1.heap.size #[.string ⟨#[]⟩, .int .i64 0, .slice none 0 0] typ ∧ (∀ x, t = .v x → ∀ j, j < i → vs[j]? ≠ some x) ∧   E = [(1, .slice Av vs.length kv), (2, .slice Al ls.length kl), (3, .pointer (some ⟨w.heap.size, 0, none⟩)), (6, .pointer (some ⟨w1.heap.size, 0, none⟩)), (7, .int .i64 (i : Int))]) (vs.length) ?_ ?_
    · exact ⟨0, by omega, by omega, hU, by omega, hr, hks, hv, hl, hls, hB1, hB2, fun x _ j h => by omega, rfl⟩
    · clear hU hr hks hv hl hls hB1 hB2
      rintro q E wA ⟨i, hi, rfl, hU, hws0, hr, hks, hv, hl, hls, hB1, hB2, hno, rfl⟩
      have hs0 := hU.size
      refine WC.seq ?_
      refine WC.seq ?_
      refine WC.region ?_
      refine WL.val rfl rfl rfl rfl (r_move rfl (ev_t rfl)) ?_
      refine WL.val rfl rfl rfl rfl (r_move rfl (ev_t rfl)) ?_
      refine WL.val rfl rfl rfl rfl (r_lenSlice (ts := #[]) rfl (ev_t rfl) elem_33) ?_
      refine WL.val rfl rfl rfl rfl (r_lss rfl (ev_t rfl) (ev_t rfl)) ?_
      refine WL.nil ?_
      refine WX.keep [(1, _), (2, _), (3, _), (6, _), (7, _), (13, _)] ⟨rfl, rfl, rfl, rfl, rfl, rfl, trivial⟩ ?_
      refine WX.next ?_
      refine WC.cond rfl (ev_t rfl) (fun hc2 => ?_) (fun hc2 => ?_)
      · try (exfalso; first | (simp at hc2; done) | (simp only [decide_eq_true_eq, decide_eq_false_iff_not, Bool.not_eq_true', Bool.not_eq_false', Bool.not_eq_true, Bool.not_eq_false] at hc2; omega) | omega)
        all_goals
         try simp only [decide_eq_true_eq, decide_eq_false_iff_not, Bool.not_eq_true', Bool.not_eq_false', Bool.not_eq_true, Bool.not_eq_false, Option.isNone_none, Option.isNone_some, Option.isSome_none, Option.isSome_some, ne_eq, Decidable.not_not] at hc2
         have hi' : i < vs.length := by omega
         obtain ⟨bv0, offv, rfl, _⟩ := hv.open (by omega)
         have hvi : vs[i]? = some vs[i] := List.getElem?_eq_getElem hi'
         generalize vs[i] = vi at *
         refine WC.skip ?_
         refine WX.next ?_
         refine WC.seq ?_
         refine WC.block ?_
         refine WC.seq ?_
         refine WC.draws' (fun u0_ u1_ => Upd No u0_ u1_) (fun j => [0, 1, 0, 0, 0, 0, 0, 0, 0, 1, 0, 0].getD j 0) (.calm 0 (.one 1 (.calm 2 (.calm 3 (.calm 4 (.calm 6 (.calm 7 (.calm 8 (.held 5 (.one 9 (.calm 10 (.calm 11 (.done))))))))))))) mixed (by kernel_rfl) (by repeat (first | with_reducible exact Deaf.body | with_reducible apply Deaf.then | with_reducible apply Deaf.block)) ?_
         intro w3 hu3
         have hz3 := congrArg Array.size hu3.2.2.2
         replace hu3 := Upd.of_draw hu3
         have hs3 := hu3.size
         replace hU := hU.trans hu3 (by exact (fun _ _ h => h))
         replace hr := hr.upd hu3 (fun k hk hl hS => by exact (show False from hS).elim)
         replace hks := hks.upd hu3 (fun k hk hl hS => by exact (show False from hS).elim)
         replace hv := hv.upd hu3 (fun k hk hl hS => by exact (show False from hS).elim)
         replace hl := hl.upd hu3 (fun k hk hl hS => by exact (show False from hS).elim)
         replace hls := hls.upd hu3 (fun k hk hl hS => by exact (show False from hS).elim)
         replace hB1 := hB1.upd hu3 (by exact (fun h => h))
         replace hB2 := hB2.upd hu3 (by exact (fun h => h))
         have hS4 := Upd.refl No w3
         first | refine WN.calm _ rfl rfl rfl rfl rfl (fun _ => r_field0 rfl (ev_t rfl) fld_28_0) ?_ | refine WN.calm _ rfl rfl rfl rfl rfl (fun _ => r_fieldAt rfl (ev_t rfl) fld_28_0) ?_
         refine WN.step _ rfl (SO.val rfl rfl rfl rfl (r_load rfl (ev_t rfl) flat_9 (Blk.cell hB1 rfl)) ?_)
         refine ⟨hS4, ?_⟩
         refine WN.calm _ rfl rfl rfl rfl rfl (fun _ => r_eqlStrL rfl (ev_t rfl) ev_c) ?_
         refine WN.calm _ rfl rfl rfl rfl rfl (fun _ => r_move rfl (ev_t rfl)) ?_
         refine WN.cases 19 rfl (fun hb4_3 => ?_) (fun hb4_3 => ?_)
         · try (exfalso; first | (simp at hb4_3; done) | (simp only [decide_eq_true_eq, decide_eq_false_iff_not, Bool.not_eq_true', Bool.not_eq_false', Bool.not_eq_true, Bool.not_eq_false] at hb4_3; omega) | omega)
           all_goals
            try simp only [decide_eq_true_eq, decide_eq_false_iff_not, Bool.not_eq_true', Bool.not_eq_false', Bool.not_eq_true, Bool.not_eq_false, Option.isNone_none, Option.isNone_some, Option.isSome_none, Option.isSome_some, ne_eq, Decidable.not_not] at hb4_3
            obtain ⟨x, rfl⟩ := Ty.nm_nil.1 hb4_3
            obtain rfl := (hm x rfl).symm
            first | refine WN.calm _ rfl rfl rfl rfl rfl (fun _ => r_field0 rfl (ev_t rfl) fld_28_1) ?_ | refine WN.calm _ rfl rfl rfl rfl rfl (fun _ => r_fieldAt rfl (ev_t rfl) fld_28_1) ?_
            refine WN.calm _ rfl rfl rfl rfl rfl (fun _ => r_move rfl (ev_t rfl)) ?_
            refine WN.calm _ rfl rfl rfl rfl rfl (fun _ => r_move rfl (ev_t rfl)) ?_
            refine WN.calm _ rfl rfl rfl rfl rfl (fun _ => r_indexAddr rfl (ev_t rfl) (ev_t rfl) elem_33 size_3 (by omega) (by omega)) ?_
            refine WN.held _ rfl rfl rfl rfl rfl hS4 (fun w' hS => r_load rfl (ev_t rfl) flat_3 (Blk.cell (hB1.upd hS (fun h => h)) rfl)) ?_
            refine WN.step _ rfl (SO.val rfl rfl rfl rfl (r_load rfl (ev_t rfl) flat_3 (Rd.cell hv (j := i) (u := I6 vi) (by omega) (by rw [List.getElem?_map, hvi]; rfl))) ?_)
            refine ⟨hS4, ?_⟩
            refine WN.calm _ rfl rfl rfl rfl rfl (fun _ => r_eql rfl (ev_t rfl) (ev_t rfl)) ?_
            refine WN.calm _ rfl rfl rfl rfl rfl (fun _ => r_pickT rfl (ev_t rfl) (ev_t rfl)) ?_
            refine WN.done ?_
            refine WX.keep [(1, _), (2, _), (3, _), (6, _), (7, _), (27, _)] ⟨rfl, rfl, rfl, rfl, rfl, rfl, trivial⟩ ?_
            refine WX.next ?_
            refine WC.cond rfl (ev_t rfl) (fun hc4 => ?_) (fun hc4 => ?_)
            · try (exfalso; first | (simp at hc4; done) | (simp only [decide_eq_true_eq, decide_eq_false_iff_not, Bool.not_eq_true', Bool.not_eq_false', Bool.not_eq_true, Bool.not_eq_false] at hc4; omega) | omega)
              all_goals
               try simp only [decide_eq_true_eq, decide_eq_false_iff_not, Bool.not_eq_true', Bool.not_eq_false', Bool.not_eq_true, Bool.not_eq_false, Option.isNone_none, Option.isNone_some, Option.isSome_none, Option.isSome_some, ne_eq, Decidable.not_not] at hc4
               obtain rfl : x = vi := by simpa using hc4
               have hil : i < ls.length := by omega
               obtain ⟨bl0, offl, rfl, _⟩ := hl.open (by omega)
               have hlx : i < xl.length := by have := hls.1; omega
               have hxi : xl[i]? = some xl[i] := List.getElem?_eq_getElem hlx
               have hli : ls[i]? = some ls[i] := List.getElem?_eq_getElem hil
               have htl := hls.2 i _ _ hxi hli
               have hput := putS_hit (x := x) hvi (hno x rfl) hli
               generalize xl[i] = ck at *
               generalize ls[i] = lk at *
               obtain ⟨ca, cb, cc⟩ := ck
               obtain ⟨m3, A3, k3, xk3, rfl, rfl, rfl, _⟩ := htl.open
               refine WC.seq ?_
               refine WC.region ?_
               refine WL.val rfl rfl rfl rfl (r_move rfl (ev_t rfl)) ?_
               refine WL.val rfl rfl rfl rfl (r_move rfl (ev_t rfl)) ?_
               refine WL.val rfl rfl rfl rfl (r_indexAddr rfl (ev_t rfl) (ev_t rfl) elem_26 size_28 (by omega) (by omega)) ?_
               refine WL.val rfl rfl rfl rfl (r_loadAgg (vs := [_, _, _]) rfl (ev_t rfl) agg_28 size_28 (kid_cells hl hxi rfl)) ?_
               refine WL.cons (SO.storeAll (us := [_, _, _]) rfl (ev_t rfl) (ev_t rfl) size_28 hB2 rfl rfl rfl rfl rfl ?_)
               intro w4 hu4 hB2 hz4
               have hs4 := hu4.size
               replace hU := hU.trans hu4 (by (intro k hl hk; (try simp only [At, New, Grow, From, No] at hk ⊢); omega))
               replace hr := hr.upd hu4 (fun k hk hl hS => by (simp only [At] at hS; omega))
               replace hks := hks.upd hu4 (fun k hk hl hS => by (simp only [At] at hS; omega))
               replace hv := hv.upd hu4 (fun k hk hl hS => by (simp only [At] at hS; omega))
               replace hl := hl.upd hu4 (fun k hk hl hS => by (simp only [At] at hS; omega))
               replace hls := hls.upd hu4 (fun k hk hl hS => by (simp only [At] at hS; omega))
               replace hB1 := hB1.upd hu4 (by (simp only [At]; omega))
               replace htl := htl.upd hu4 (fun k hk hl hS => by (simp only [At] at hS; omega))
               refine WL.nil ?_
               refine WX.keep [(6, _)] ⟨rfl, trivial⟩ ?_
               refine WX.next ?_
               refine WC.ret ?_
               refine WX.blockRet ?_
               refine WX.thenRet ?_
               refine WX.thenRet ?_
               refine WX.blockRet ?_
               refine WX.thenRet ?_
               refine WX.retC (vs := [_, _, _]) rfl rfl agg_28 size_28 (Blk.cellsL hB2) ?_
               refine ⟨_, _, _, rfl, ?_, hU⟩
               rw [ext_v, hput]
               exact htl.mono fun k hk => .inl hk.1
            · try (exfalso; first | (simp at hc4; done) | (simp only [decide_eq_true_eq, decide_eq_false_iff_not, Bool.not_eq_true', Bool.not_eq_false', Bool.not_eq_true, Bool.not_eq_false] at hc4; omega) | omega)
              all_goals
               try simp only [decide_eq_true_eq, decide_eq_false_iff_not, Bool.not_eq_true', Bool.not_eq_false', Bool.not_eq_true, Bool.not_eq_false, Option.isNone_none, Option.isNone_some, Option.isSome_none, Option.isSome_some, ne_eq, Decidable.not_not] at hc4
               refine WC.skip ?_
               refine WX.blockNormal ?_
               refine WX.next ?_
               refine WC.region ?_
               refine WL.val rfl rfl rfl rfl (r_move rfl (ev_t rfl)) ?_
               first | refine WL.val rfl rfl rfl rfl (r_addN rfl (ev_t rfl) ev_c (by simp only [inK]; omega)) ?_ | refine WL.val rfl rfl rfl rfl (r_add rfl (ev_t rfl) ev_c) ?_
               refine WL.val rfl rfl rfl rfl (r_assign rfl (ev_t rfl)) ?_
               refine WL.nil ?_
               refine WX.keep [(1, _), (2, _), (3, _), (6, _), (7, _)] ⟨rfl, rfl, rfl, rfl, rfl, trivial⟩ ?_
               refine WX.meet [(1, _), (2, _), (3, _), (6, _), (7, _)] ⟨rfl, rfl, rfl, rfl, rfl, trivial⟩ ?_
               refine ⟨vs.length - (i + 1), by omega, i + 1, by omega, rfl, hU, by omega, hr, hks, hv, hl, hls, hB1, hB2, fun x hx j hj => ?_, by simp⟩
               rcases Nat.lt_or_ge j i with h | h
               · exact hno x hx j h
               · obtain rfl : j = i := by omega
                 rw [hvi]
                 intro e
                 injection e with e
                 first
                   | (injection hx with hx; subst hx; subst e; exact absurd hc4 (by simp))
                   | (subst hx; exact absurd rfl hb4_3)
         · try (exfalso; first | (simp at hb4_3; done) | (simp only [decide_eq_true_eq, decide_eq_false_iff_not, Bool.not_eq_true', Bool.not_eq_false', Bool.not_eq_true, Bool.not_eq_false] at hb4_3; omega) | omega)
           all_goals
            try simp only [decide_eq_true_eq, decide_eq_false_iff_not, Bool.not_eq_true', Bool.not_eq_false', Bool.not_eq_true, Bool.not_eq_false, Option.isNone_none, Option.isNone_some, Option.isSome_none, Option.isSome_some, ne_eq, Decidable.not_not] at hb4_3
            refine WN.skip _ rfl rfl rfl rfl ?_
            refine WN.skip _ rfl rfl rfl rfl ?_
            refine WN.skip _ rfl rfl rfl rfl ?_
            refine WN.skip _ rfl rfl rfl rfl ?_
            refine WN.heldSkip _ rfl rfl rfl rfl hS4 ?_
            refine WN.step _ rfl (SO.skip rfl rfl rfl ?_)
            refine ⟨hS4, ?_⟩
            refine WN.skip _ rfl rfl rfl rfl ?_
            refine WN.calm _ rfl rfl rfl rfl rfl (fun _ => r_pickF rfl (ev_t rfl) ev_c) ?_
            refine WN.done ?_
            refine WX.keep [(1, _), (2, _), (3, _), (6, _), (7, _), (27, _)] ⟨rfl, rfl, rfl, rfl, rfl, rfl, trivial⟩ ?_
            refine WX.next ?_
            refine WC.cond_false rfl (ev_t rfl) ?_
            refine WC.skip ?_
            refine WX.blockNormal ?_
            refine WX.next ?_
            refine WC.region ?_
            refine WL.val rfl rfl rfl rfl (r_move rfl (ev_t rfl)) ?_
            first | refine WL.val rfl rfl rfl rfl (r_addN rfl (ev_t rfl) ev_c (by simp only [inK]; omega)) ?_ | refine WL.val rfl rfl rfl rfl (r_add rfl (ev_t rfl) ev_c) ?_
            refine WL.val rfl rfl rfl rfl (r_assign rfl (ev_t rfl)) ?_
            refine WL.nil ?_
            refine WX.keep [(1, _), (2, _), (3, _), (6, _), (7, _)] ⟨rfl, rfl, rfl, rfl, rfl, trivial⟩ ?_
            refine WX.meet [(1, _), (2, _), (3, _), (6, _), (7, _)] ⟨rfl, rfl, rfl, rfl, rfl, trivial⟩ ?_
            refine ⟨vs.length - (i + 1), by omega, i + 1, by omega, rfl, hU, by omega, hr, hks, hv, hl, hls, hB1, hB2, fun x hx j hj => ?_, by simp⟩
            rcases Nat.lt_or_ge j i with h | h
            · exact hno x hx j h
            · obtain rfl : j = i := by omega
              rw [hvi]
              intro e
              injection e with e
              first
                | (injection hx with hx; subst hx; subst e; exact absurd hc4 (by simp))
                | (subst hx; exact absurd rfl hb4_3)
      · try (exfalso; first | (simp at hc2; done) | (simp only [decide_eq_true_eq, decide_eq_false_iff_not, Bool.not_eq_true', Bool.not_eq_false', Bool.not_eq_true, Bool.not_eq_false] at hc2; omega) | omega)
        all_goals
         try simp only [decide_eq_true_eq, decide_eq_false_iff_not, Bool.not_eq_true', Bool.not_eq_false', Bool.not_eq_true, Bool.not_eq_false, Option.isNone_none, Option.isNone_some, Option.isSome_none, Option.isSome_some, ne_eq, Decidable.not_not] at hc2
         obtain rfl : i = vs.length := by omega
         have hmiss : ∀ x, t = .v x → putS vs ls x = .v x := fun x hx => putS_miss (hno x hx)
         have e1 : (ext (putS vs ls) t).nm = t.nm ∧ (ext (putS vs ls) t).kids = t.kids.map (ext (putS vs ls)) ∧ ∀ x, ext (putS vs ls) t = .v x → t = .v x := by
           cases t with
           | v x => rw [ext_v, hmiss x rfl]; exact ⟨rfl, rfl, fun y e => e⟩
           | c f ks => rw [ext_c]; exact ⟨rfl, rfl, fun y e => by cases e⟩
         obtain ⟨e1, e2, e3⟩ := e1
         refine WC.exit ?_
         refine WX.thenExit ?_
         refine WX.thenExit ?_
         refine WX.blockHere ?_
         refine WX.next ?_
         refine WC.seq ?_
         refine WC.region ?_
         first | refine WL.val rfl rfl rfl rfl (r_field0 rfl (ev_t rfl) fld_28_0) ?_ | refine WL.val rfl rfl rfl rfl (r_fieldAt rfl (ev_t rfl) fld_28_0) ?_
         refine WL.val rfl rfl rfl rfl (r_load rfl (ev_t rfl) flat_9 (Blk.cell hB1 rfl)) ?_
         first | refine WL.val rfl rfl rfl rfl (r_field0 rfl (ev_t rfl) fld_28_1) ?_ | refine WL.val rfl rfl rfl rfl (r_fieldAt rfl (ev_t rfl) fld_28_1) ?_
         refine WL.val rfl rfl rfl rfl (r_load rfl (ev_t rfl) flat_3 (Blk.cell hB1 rfl)) ?_
         refine WL.val rfl rfl rfl rfl (r_build (cs := #[_, _, _]) (vs := [(0, _), (1, _)]) rfl ⟨⟨rfl, (ev_t rfl)⟩, ⟨rfl, (ev_t rfl)⟩, trivial⟩ plc_28 zero_28 rfl) ?_
         refine WL.cons (SO.alloc rfl rfl rfl rfl (r_alloc rfl zero_28) ?_)
         intro w5 hu5 hB5 hz5
         have hs5 := hu5.size
         replace hU := hU.trans hu5 (by exact (fun _ _ h => h))
         replace hr := hr.upd hu5 (fun k hk hl hS => by exact (show False from hS).elim)
         replace hks := hks.upd hu5 (fun k hk hl hS => by exact (show False from hS).elim)
         replace hv := hv.upd hu5 (fun k hk hl hS => by exact (show False from hS).elim)
         replace hl := hl.upd hu5 (fun k hk hl hS => by exact (show False from hS).elim)
         replace hls := hls.upd hu5 (fun k hk hl hS => by exact (show False from hS).elim)
         replace hB1 := hB1.upd hu5 (by exact (fun h => h))
         replace hB2 := hB2.upd hu5 (by exact (fun h => h))
         refine WL.cons (SO.storeAll (us := [_, _, _]) rfl (ev_t rfl) (ev_t rfl) size_28 hB5 rfl rfl rfl rfl rfl ?_)
         intro w6 hu6 hB5 hz6
         have hs6 := hu6.size
         replace hU := hU.trans hu6 (by (intro k hl hk; (try simp only [At, New, Grow, From, No] at hk ⊢); omega))
         replace hr := hr.upd hu6 (fun k hk hl hS => by (simp only [At] at hS; omega))
         replace hks := hks.upd hu6 (fun k hk hl hS => by (simp only [At] at hS; omega))
         replace hv := hv.upd hu6 (fun k hk hl hS => by (simp only [At] at hS; omega))
         replace hl := hl.upd hu6 (fun k hk hl hS => by (simp only [At] at hS; omega))
         replace hls := hls.upd hu6 (fun k hk hl hS => by (simp only [At] at hS; omega))
         replace hB1 := hB1.upd hu6 (by (simp only [At]; omega))
         replace hB2 := hB2.upd hu6 (by (simp only [At]; omega))
         refine WL.nil ?_
         refine WX.keep [(1, _), (2, _), (3, _), (6, _), (8, _)] ⟨rfl, rfl, rfl, rfl, rfl, trivial⟩ ?_
         refine WX.next ?_
         refine WC.seq ?_
         refine WC.seq ?_
         refine WC.region ?_
         refine WL.val rfl rfl rfl rfl (r_assign rfl ev_c) ?_
         refine WL.nil ?_
         refine WX.keep [(1, _), (2, _), (3, _), (6, _), (8, _), (9, _)] ⟨rfl, rfl, rfl, rfl, rfl, rfl, trivial⟩ ?_
         refine WX.next ?_
         refine WC.block ?_
         -- loop 2: live [1, 2, 3, 6, 8, 9]
         refine WC.keep [(1, _), (2, _), (3, _), (6, _), (8, _), (9, _)] ⟨rfl, rfl, rfl, rfl, rfl, rfl, trivial⟩ ?_
         refine WC.loop (fun q E w' => ∃ (i : Nat) (A5 : Option Addr) (c5 : Nat) (ys : List C3) (G T : Nat → Prop), i ≤ t.kids.length ∧ q = t.kids.length - i ∧ Upd No w w' ∧ wA.heap.size + 1 ≤ w'.heap.size ∧ Rd w' (fun k => F k ∧ k < w.heap.size) (.slice A0 t.kids.length k0) t.kids.length 3 (xk.flatMap c3) ∧ TVs w' (fun k => F k ∧ k < w.heap.size) xk t.kids ∧ Rd w' (fun k => F k ∧ k < w.heap.size) (.slice Av vs.length kv) vs.length 1 (vs.map I6) ∧ Rd w' (fun k => F k ∧ k < w.heap.size) (.slice Al ls.length kl) ls.length 3 (xl.flatMap c3) ∧ TVs w' (fun k => F k ∧ k < w.heap.size) xl ls ∧   Blk w' w.heap.size #[.string ⟨t.nm.toArray⟩, .int .i64 m, .slice A0 t.kids.length k0] typ ∧ Blk w' w1.heap.size #[.string ⟨#[]⟩, .int .i64 0, .slice none 0 0] typ ∧ Blk w' wA.heap.size #[.string ⟨t.nm.toArray⟩, .int .i64 m, .slice A5 i c5] typ ∧ Own w' G typ 3 (.slice A5 i c5) i (ys.flatMap c3) ∧ TVs w' T ys ((t.kids.take i).map (ext (putS vs ls))) ∧ (∀ k, G k → wA.heap.size + 1 ≤ k ∧ k < w'.heap.size) ∧ (∀ k, T k → (F k ∧ k < w.heap.size ∨ wA.heap.size + 1 ≤ k) ∧ k < w'.heap.size ∧ ¬ G k) ∧   E = [(1, .slice Av vs.length kv), (2, .slice Al ls.length kl), (3, .pointer (some ⟨w.heap.size, 0, none⟩)), (6, .pointer (some ⟨w1.heap.size, 0, none⟩)), (8, .pointer (some ⟨wA.heap.size, 0, none⟩)), (9, .int .i64 (i : Int))]) (t.kids.length) ?_ ?_
         · exact ⟨0, none, 0, [], fun _ => False, fun _ => False, by omega, by omega, hU, by omega, hr, hks, hv, hl, hls, hB1, hB2, hB5, Own.nil _ _ _ _, TVs.nil _ _, fun k h => h.elim, fun k h => h.elim, rfl⟩
         · clear hU hr hks hv hl hls hB1 hB2
           rintro q E w' ⟨i, A5, c5, ys, G, T, hi, rfl, hU, hws, hr, hks, hv, hl, hls, hB1, hB2, hb8, ho, hys, hG, hT, rfl⟩
           have hs0 := hU.size
           refine WC.seq ?_
           refine WC.seq ?_
           refine WC.region ?_
           refine WL.val rfl rfl rfl rfl (r_move rfl (ev_t rfl)) ?_
           first | refine WL.val rfl rfl rfl rfl (r_field0 rfl (ev_t rfl) fld_28_2) ?_ | refine WL.val rfl rfl rfl rfl (r_fieldAt rfl (ev_t rfl) fld_28_2) ?_
           refine WL.val rfl rfl rfl rfl (r_load rfl (ev_t rfl) flat_26 (Blk.cell hB1 rfl)) ?_
           refine WL.val rfl rfl rfl rfl (r_lenSlice (ts := #[]) rfl (ev_t rfl) elem_26) ?_
           refine WL.val rfl rfl rfl rfl (r_lss rfl (ev_t rfl) (ev_t rfl)) ?_
           refine WL.nil ?_
           refine WX.keep [(1, _), (2, _), (3, _), (6, _), (8, _), (9, _), (41, _)] ⟨rfl, rfl, rfl, rfl, rfl, rfl, rfl, trivial⟩ ?_
           refine WX.next ?_
           refine WC.cond rfl (ev_t rfl) (fun hc8 => ?_) (fun hc8 => ?_)
           · try (exfalso; first | (simp at hc8; done) | (simp only [decide_eq_true_eq, decide_eq_false_iff_not, Bool.not_eq_true', Bool.not_eq_false', Bool.not_eq_true, Bool.not_eq_false] at hc8; omega) | omega)
             all_goals
              try simp only [decide_eq_true_eq, decide_eq_false_iff_not, Bool.not_eq_true', Bool.not_eq_false', Bool.not_eq_true, Bool.not_eq_false, Option.isNone_none, Option.isNone_some, Option.isSome_none, Option.isSome_some, ne_eq, Decidable.not_not] at hc8
              have hi' : i < t.kids.length := by omega
              obtain ⟨b0, off, rfl, _⟩ := hr.open (by omega)
              have hlx : i < xk.length := by have := hks.1; omega
              have hxi : xk[i]? = some xk[i] := List.getElem?_eq_getElem hlx
              have hki : t.kids[i]? = some t.kids[i] := List.getElem?_eq_getElem hi'
              have htk := hks.2 i _ _ hxi hki
              have htake := take_map_snoc (f := ext (putS vs ls)) hi'
              have hkl : sz t.kids[i] < sz t := by
                cases t with
                | v x => simp [Ty.kids] at hi'
                | c f ks => exact sz_kid (n := f) (List.getElem_mem hi')
              generalize xk[i] = ck at *
              generalize t.kids[i] = kk at *
              obtain ⟨ca, cb, cc⟩ := ck
              refine WC.skip ?_
              refine WX.next ?_
              refine WC.seq ?_
              refine WC.block ?_
              refine WC.draws' (fun u0_ u1_ => Upd No u0_ u1_) (fun j => [0, 0, 0, 1, 0, 0, 1, 0, 0, 1, 1, 2, 0, 2].getD j 0) (.calm 0 (.calm 2 (.calm 4 (.calm 7 (.calm 8 (.held 1 (.one 3 (.calm 5 (.one 6 (.one 9 (.one 10 (.one 11 (.calm 12 (.one 13 (.done))))))))))))))) mixed (by kernel_rfl) (by repeat (first | with_reducible exact Deaf.body | with_reducible apply Deaf.then | with_reducible apply Deaf.block)) ?_
              intro w7 hu7
              have hz7 := congrArg Array.size hu7.2.2.2
              replace hu7 := Upd.of_draw hu7
              have hs7 := hu7.size
              replace hU := hU.trans hu7 (by exact (fun _ _ h => h))
              replace hr := hr.upd hu7 (fun k hk hl hS => by exact (show False from hS).elim)
              replace hks := hks.upd hu7 (fun k hk hl hS => by exact (show False from hS).elim)
              replace hv := hv.upd hu7 (fun k hk hl hS => by exact (show False from hS).elim)
              replace hl := hl.upd hu7 (fun k hk hl hS => by exact (show False from hS).elim)
              replace hls := hls.upd hu7 (fun k hk hl hS => by exact (show False from hS).elim)
              replace hB1 := hB1.upd hu7 (by exact (fun h => h))
              replace hB2 := hB2.upd hu7 (by exact (fun h => h))
              replace hb8 := hb8.upd hu7 (by exact (fun h => h))
              replace ho := ho.upd hu7 (fun k hk hl hS => by exact (show False from hS).elim)
              replace hys := hys.upd hu7 (fun k hk hl hS => by have := hT k hk; exact (show False from hS).elim)
              replace htk := htk.upd hu7 (fun k hk hl hS => by exact (show False from hS).elim)
              have hS10 := Upd.refl No w7
              first | refine WN.calm _ rfl rfl rfl rfl rfl (fun _ => r_field0 rfl (ev_t rfl) fld_28_2) ?_ | refine WN.calm _ rfl rfl rfl rfl rfl (fun _ => r_fieldAt rfl (ev_t rfl) fld_28_2) ?_
              first | refine WN.calm _ rfl rfl rfl rfl rfl (fun _ => r_field0 rfl (ev_t rfl) fld_28_2) ?_ | refine WN.calm _ rfl rfl rfl rfl rfl (fun _ => r_fieldAt rfl (ev_t rfl) fld_28_2) ?_
              refine WN.calm _ rfl rfl rfl rfl rfl (fun _ => r_move rfl (ev_t rfl)) ?_
              refine WN.calm _ rfl rfl rfl rfl rfl (fun _ => r_move rfl (ev_t rfl)) ?_
              refine WN.calm _ rfl rfl rfl rfl rfl (fun _ => r_move rfl (ev_t rfl)) ?_
              refine WN.held _ rfl rfl rfl rfl rfl hS10 (fun w' hS => r_load rfl (ev_t rfl) flat_26 (Blk.cell (hb8.upd hS (fun h => h)) rfl)) ?_
              refine WN.step _ rfl (SO.val rfl rfl rfl rfl (r_load rfl (ev_t rfl) flat_26 (Blk.cell hB1 rfl)) ?_)
              refine ⟨hS10, ?_⟩
              refine WN.calm _ rfl rfl rfl rfl rfl (fun _ => r_indexAddr rfl (ev_t rfl) (ev_t rfl) elem_26 size_28 (by omega) (by omega)) ?_
              refine WN.step _ rfl (SO.val rfl rfl rfl rfl (r_loadAgg (vs := [_, _, _]) rfl (ev_t rfl) agg_28 size_28 (kid_cells hr hxi rfl)) ?_)
              refine ⟨hS10, ?_⟩
              refine WN.step _ rfl (SO.call (ih _ _ _ _ _ _ kk (by omega) htk hv hl hls) rfl body_17 ⟨(ev_t rfl), (ev_t rfl), (ev_t rfl), trivial⟩ rfl rfl rfl rfl ?_)
              rintro v w8 ⟨a8, b8, c8, rfl, ht8, hu8⟩
              obtain ⟨m8, A8, k8, xk8, rfl, rfl, rfl, _⟩ := ht8.open
              have hs8 := hu8.size
              have hs8 := hu8.size
              replace hS10 := Upd.transA hS10 hu8
              replace hU := hU.trans hu8 (by exact (fun _ _ h => h))
              replace hr := hr.upd hu8 (fun k hk hl hS => by exact (show False from hS).elim)
              replace hks := hks.upd hu8 (fun k hk hl hS => by exact (show False from hS).elim)
              replace hv := hv.upd hu8 (fun k hk hl hS => by exact (show False from hS).elim)
              replace hl := hl.upd hu8 (fun k hk hl hS => by exact (show False from hS).elim)
              replace hls := hls.upd hu8 (fun k hk hl hS => by exact (show False from hS).elim)
              replace hB1 := hB1.upd hu8 (by exact (fun h => h))
              replace hB2 := hB2.upd hu8 (by exact (fun h => h))
              replace hb8 := hb8.upd hu8 (by exact (fun h => h))
              replace ho := ho.upd hu8 (fun k hk hl hS => by exact (show False from hS).elim)
              replace hys := hys.upd hu8 (fun k hk hl hS => by have := hT k hk; exact (show False from hS).elim)
              replace htk := htk.upd hu8 (fun k hk hl hS => by exact (show False from hS).elim)
              have hys2 := (hys.mono (F' := fun k => T k ∨ (F k ∧ k < w.heap.size) ∨ New w7 w8 k) (fun k h => .inl h)).snoc (ht8.mono (F' := fun k => T k ∨ (F k ∧ k < w.heap.size) ∨ New w7 w8 k) (fun k h => .inr h))
              rw [← htake] at hys2
              refine ⟨hS10, ?_⟩
              refine WN.step _ rfl (SO.alloc rfl rfl rfl rfl (r_buildSlice (cs := #[_, _, _]) (vs := [(0, _)]) rfl ⟨⟨rfl, (ev_t rfl)⟩, trivial⟩ row_26 rfl rfl) ?_)
              intro w9 hu9 hB9 hz9
              have hs9 := hu9.size
              replace hS10 := Upd.transA hS10 hu9
              replace hU := hU.trans hu9 (by exact (fun _ _ h => h))
              replace hr := hr.upd hu9 (fun k hk hl hS => by exact (show False from hS).elim)
              replace hks := hks.upd hu9 (fun k hk hl hS => by exact (show False from hS).elim)
              replace hv := hv.upd hu9 (fun k hk hl hS => by exact (show False from hS).elim)
              replace hl := hl.upd hu9 (fun k hk hl hS => by exact (show False from hS).elim)
              replace hls := hls.upd hu9 (fun k hk hl hS => by exact (show False from hS).elim)
              replace hB1 := hB1.upd hu9 (by exact (fun h => h))
              replace hB2 := hB2.upd hu9 (by exact (fun h => h))
              replace hb8 := hb8.upd hu9 (by exact (fun h => h))
              replace ho := ho.upd hu9 (fun k hk hl hS => by exact (show False from hS).elim)
              replace hys2 := hys2.upd hu9 (fun k hk hl hS => by exact (show False from hS).elim)
              refine ⟨hS10, ?_⟩
              refine WN.step _ rfl (SO.append ho (show Rd _ _ _ 1 3 [Value.string ⟨(ext (putS vs ls) kk).nm.toArray⟩, .int .i64 m8, .slice A8 (ext (putS vs ls) kk).kids.length k8] from rd_one hB9) row_26 one_c3 (le_maxLen (by omega)) (by omega) rfl (ev_t rfl) (ev_t rfl) rfl rfl rfl rfl ?_)
              intro v10 w10 ho hu10
              have hs10 := hu10.size
              try replace hS10 := Upd.transA hS10 hu10
              replace hU := hU.trans hu10 (by (intro k hl hk; have := hG k hk; omega))
              replace hr := hr.upd hu10 (fun k hk hl hS => by (have := hG k hS; omega))
              replace hks := hks.upd hu10 (fun k hk hl hS => by (have := hG k hS; omega))
              replace hv := hv.upd hu10 (fun k hk hl hS => by (have := hG k hS; omega))
              replace hl := hl.upd hu10 (fun k hk hl hS => by (have := hG k hS; omega))
              replace hls := hls.upd hu10 (fun k hk hl hS => by (have := hG k hS; omega))
              replace hB1 := hB1.upd hu10 (by (intro hS; have := hG _ hS; omega))
              replace hB2 := hB2.upd hu10 (by (intro hS; have := hG _ hS; omega))
              replace hb8 := hb8.upd hu10 (by (intro hS; have := hG _ hS; omega))
              replace hys2 := hys2.upd hu10 (fun k hk hl hS => by (rcases hk with hk | hk | hk <;> first | exact (hT k hk).2.2 hS | (have := hT k hk; simp only [At] at hS; omega) | (simp only [New] at hk; have := hG k hS; omega) | (have := hG k hS; omega) | (simp only [New, At] at *; omega)))
              refine ⟨trivial, ?_⟩
              obtain ⟨A10, c10, rfl, hc10⟩ := Own.form ho
              rw [← flat_snoc] at ho
              first | refine WN.calm _ rfl rfl rfl rfl rfl (fun _ => r_field0 rfl (ev_t rfl) fld_28_2) ?_ | refine WN.calm _ rfl rfl rfl rfl rfl (fun _ => r_fieldAt rfl (ev_t rfl) fld_28_2) ?_
              refine WN.step _ rfl (SO.store rfl (ev_t rfl) (ev_t rfl) size_26 hb8 rfl rfl rfl rfl rfl ?_)
              intro w11 hu11 hb8 hz11
              have hs11 := hu11.size
              try replace hS10 := Upd.transA hS10 hu11
              replace hU := hU.trans hu11 (by (intro k hl hk; (try simp only [At, New, Grow, From, No] at hk ⊢); omega))
              replace hr := hr.upd hu11 (fun k hk hl hS => by (simp only [At] at hS; omega))
              replace hks := hks.upd hu11 (fun k hk hl hS => by (simp only [At] at hS; omega))
              replace hv := hv.upd hu11 (fun k hk hl hS => by (simp only [At] at hS; omega))
              replace hl := hl.upd hu11 (fun k hk hl hS => by (simp only [At] at hS; omega))
              replace hls := hls.upd hu11 (fun k hk hl hS => by (simp only [At] at hS; omega))
              replace hB1 := hB1.upd hu11 (by (simp only [At]; omega))
              replace hB2 := hB2.upd hu11 (by (simp only [At]; omega))
              replace ho := ho.upd hu11 (fun k hk hl hS => by (simp only [At] at hS; first | (have := hG k hk; omega) | (rcases hk with hk | hk <;> first | (have := hG k hk; omega) | omega)))
              replace hys2 := hys2.upd hu11 (fun k hk hl hS => by (rcases hk with hk | hk | hk <;> first | exact (hT k hk).2.2 hS | (have := hT k hk; simp only [At] at hS; omega) | (simp only [New] at hk; have := hG k hS; omega) | (have := hG k hS; omega) | (simp only [New, At] at *; omega)))
              refine ⟨trivial, ?_⟩
              refine WN.done ?_
              refine WX.keep [(1, _), (2, _), (3, _), (6, _), (8, _), (9, _)] ⟨rfl, rfl, rfl, rfl, rfl, rfl, trivial⟩ ?_
              refine WX.blockNormal ?_
              refine WX.next ?_
              refine WC.region ?_
              refine WL.val rfl rfl rfl rfl (r_move rfl (ev_t rfl)) ?_
              first | refine WL.val rfl rfl rfl rfl (r_addN rfl (ev_t rfl) ev_c (by simp only [inK]; omega)) ?_ | refine WL.val rfl rfl rfl rfl (r_add rfl (ev_t rfl) ev_c) ?_
              refine WL.val rfl rfl rfl rfl (r_assign rfl (ev_t rfl)) ?_
              refine WL.nil ?_
              refine WX.keep [(1, _), (2, _), (3, _), (6, _), (8, _), (9, _)] ⟨rfl, rfl, rfl, rfl, rfl, rfl, trivial⟩ ?_
              refine WX.meet [(1, _), (2, _), (3, _), (6, _), (8, _), (9, _)] ⟨rfl, rfl, rfl, rfl, rfl, rfl, trivial⟩ ?_
              refine ⟨t.kids.length - (i + 1), by omega, i + 1, _, _, _, _, _, by omega, rfl, hU, by omega, hr, hks, hv, hl, hls, hB1, hB2, hb8, ho, hys2, fun k hk => ?_, fun k hk => ?_, by simp⟩
              · rcases hk with hk | hk
                · have := hG k hk; omega
                · omega
              · rcases hk with hk | hk | hk
                · have h9 := hT k hk
                  refine ⟨h9.1, by omega, fun h => ?_⟩
                  rcases h with h | h
                  · exact h9.2.2 h
                  · omega
                · refine ⟨.inl hk, by omega, fun h => ?_⟩
                  rcases h with h | h
                  · have := hG k h; omega
                  · omega
                · simp only [New] at hk
                  refine ⟨.inr (by omega), by omega, fun h => ?_⟩
                  rcases h with h | h
                  · have := hG k h; omega
                  · omega
           · try (exfalso; first | (simp at hc8; done) | (simp only [decide_eq_true_eq, decide_eq_false_iff_not, Bool.not_eq_true', Bool.not_eq_false', Bool.not_eq_true, Bool.not_eq_false] at hc8; omega) | omega)
             all_goals
              try simp only [decide_eq_true_eq, decide_eq_false_iff_not, Bool.not_eq_true', Bool.not_eq_false', Bool.not_eq_true, Bool.not_eq_false, Option.isNone_none, Option.isNone_some, Option.isSome_none, Option.isSome_some, ne_eq, Decidable.not_not] at hc8
              refine WC.exit ?_
              refine WX.thenExit ?_
              refine WX.thenExit ?_
              refine WX.blockHere ?_
              refine WX.next ?_
              refine WC.seq ?_
              refine WC.region ?_
              refine WL.val rfl rfl rfl rfl (r_loadAgg (vs := [_, _, _]) rfl (ev_t rfl) agg_28 size_28 (Blk.cellsL hb8)) ?_
              refine WL.cons (SO.storeAll (us := [_, _, _]) rfl (ev_t rfl) (ev_t rfl) size_28 hB2 rfl rfl rfl rfl rfl ?_)
              intro w12 hu12 hB2 hz12
              have hs12 := hu12.size
              replace hU := hU.trans hu12 (by (intro k hl hk; (try simp only [At, New, Grow, From, No] at hk ⊢); omega))
              replace hr := hr.upd hu12 (fun k hk hl hS => by (simp only [At] at hS; omega))
              replace hks := hks.upd hu12 (fun k hk hl hS => by (simp only [At] at hS; omega))
              replace hv := hv.upd hu12 (fun k hk hl hS => by (simp only [At] at hS; omega))
              replace hl := hl.upd hu12 (fun k hk hl hS => by (simp only [At] at hS; omega))
              replace hls := hls.upd hu12 (fun k hk hl hS => by (simp only [At] at hS; omega))
              replace hB1 := hB1.upd hu12 (by (simp only [At]; omega))
              replace hb8 := hb8.upd hu12 (by (simp only [At]; omega))
              replace ho := ho.upd hu12 (fun k hk hl hS => by (simp only [At] at hS; first | (have := hG k hk; omega) | (rcases hk with hk | hk <;> first | (have := hG k hk; omega) | omega)))
              replace hys := hys.upd hu12 (fun k hk hl hS => by have := hT k hk; (simp only [At] at hS; omega))
              refine WL.nil ?_
              refine WX.keep [(6, _)] ⟨rfl, trivial⟩ ?_
              refine WX.next ?_
              refine WC.ret ?_
              refine WX.retC (vs := [_, _, _]) rfl rfl agg_28 size_28 (Blk.cellsL hB2) ?_
              obtain rfl : i = t.kids.length := by omega
              rw [List.take_of_length_le (Nat.le_refl _), ← e2] at hys
              have e4 : (ext (putS vs ls) t).kids.length = t.kids.length := by rw [e2, List.length_map]
              refine ⟨_, _, _, rfl, ?_, hU⟩
              rw [← e1]
              refine TV.kids (xs := ys) (fun x e => hm x (e3 x e)) ?_ (by omega) (hys.mono fun k hk => ?_)
              · rw [e4]
                exact (ho.rd (by omega)).mono fun k hk => by have := hG k hk; simp only [New]; exact .inr (by omega)
              · have h9 := hT k hk
                rcases h9.1 with h | h
                · exact .inl h.1
                · exact .inr ⟨by omega, by have := h9.2.1; omega⟩
end Go.Proofs.Ytncakfcafkfmfaa
