/-
  types: the reference's Has, Vars, Close; law 06: alike.
-/
import Derived.Test.YtncakfcafkfmfaaTyl
import Derived.Test.YtncakfcafkfmfaaTyV
namespace Go.Proofs.Ytncakfcafkfmfaa
open Go
set_option linter.unusedSimpArgs false
set_option linter.unusedVariables false

theorem has_ok {w : World} {F : Nat → Prop} {A : Option Addr} {c : Nat} {l : List Int} {x : Int} (hr : Rd w F (.slice A l.length c) l.length 1 (l.map I6)) :
    Ret Try.prog 30 #[.slice A l.length c, .int .i64 x] w fun v w' => v = .bool (decide (x ∈ l)) ∧ w = w' := by
  have hm := hr.le
  refine enterRet (vs := [_, _]) (N := 18) Try.func30 rfl rfl rfl ?_
  refine WC.keep [(0, _), (1, _)] ⟨rfl, rfl, trivial⟩ ?_
  refine WC.seq ?_
  refine WC.region ?_
  refine WL.val rfl rfl rfl rfl (r_assign rfl ev_c) ?_
  refine WL.nil ?_
  refine WX.keep [(0, _), (1, _)] ⟨rfl, rfl, trivial⟩ ?_
  refine WX.next ?_
  refine WC.seq ?_
  refine WC.seq ?_
  refine WC.region ?_
  refine WL.val rfl rfl rfl rfl (r_assign rfl ev_c) ?_
  refine WL.nil ?_
  refine WX.keep [(0, _), (1, _), (5, _)] ⟨rfl, rfl, rfl, trivial⟩ ?_
  refine WX.next ?_
  refine WC.block ?_
  -- loop 1: live [0, 1, 5]
  refine WC.keep [(0, _), (1, _), (5, _)] ⟨rfl, rfl, rfl, trivial⟩ ?_
  refine WC.loop (fun q E w' => ∃ (i : Nat), w = w' ∧ i ≤ l.length ∧ q = l.length - i ∧ (∀ j, j < i → l[j]? ≠ some x) ∧ E = [(0, .slice A l.length c), (1, .int .i64 x), (5, .int .i64 (i : Int))]) (l.length) ?_ ?_
  · exact ⟨0, rfl, by omega, by omega, fun j h => by omega, rfl⟩
  · rintro q E w' ⟨i, rfl, hi, rfl, hn, rfl⟩
    refine WC.seq ?_
    refine WC.seq ?_
    refine WC.region ?_
    refine WL.val rfl rfl rfl rfl (r_move rfl (ev_t rfl)) ?_
    refine WL.val rfl rfl rfl rfl (r_move rfl (ev_t rfl)) ?_
    refine WL.val rfl rfl rfl rfl (r_lenSlice (ts := #[]) rfl (ev_t rfl) elem_33) ?_
    refine WL.val rfl rfl rfl rfl (r_lss rfl (ev_t rfl) (ev_t rfl)) ?_
    refine WL.nil ?_
    refine WX.keep [(0, _), (1, _), (5, _), (9, _)] ⟨rfl, rfl, rfl, rfl, trivial⟩ ?_
    refine WX.next ?_
    refine WC.cond rfl (ev_t rfl) (fun hc2 => ?_) (fun hc2 => ?_)
    · try (exfalso; first | (simp at hc2; done) | (simp only [decide_eq_true_eq, decide_eq_false_iff_not, Bool.not_eq_true', Bool.not_eq_false', Bool.not_eq_true, Bool.not_eq_false] at hc2; omega) | omega)
      all_goals
       try simp only [decide_eq_true_eq, decide_eq_false_iff_not, Bool.not_eq_true', Bool.not_eq_false', Bool.not_eq_true, Bool.not_eq_false, Option.isNone_none, Option.isNone_some, Option.isSome_none, Option.isSome_some, ne_eq, Decidable.not_not] at hc2
       have hi' : i < l.length := by omega
       obtain ⟨b0, off, rfl, _⟩ := hr.open (by omega)
       have hxi : l[i]? = some l[i] := List.getElem?_eq_getElem hi'
       generalize l[i] = y at *
       refine WC.skip ?_
       refine WX.next ?_
       refine WC.seq ?_
       refine WC.block ?_
       refine WC.seq ?_
       refine WC.region ?_
       refine WL.val rfl rfl rfl rfl (r_move rfl (ev_t rfl)) ?_
       refine WL.val rfl rfl rfl rfl (r_move rfl (ev_t rfl)) ?_
       refine WL.val rfl rfl rfl rfl (r_indexAddr rfl (ev_t rfl) (ev_t rfl) elem_33 size_3 (by omega) (by omega)) ?_
       refine WL.val rfl rfl rfl rfl (r_load rfl (ev_t rfl) flat_3 (hr.cell (j := i) (u := I6 y) (by omega) (by rw [List.getElem?_map, hxi]; rfl))) ?_
       refine WL.val rfl rfl rfl rfl (r_move rfl (ev_t rfl)) ?_
       refine WL.val rfl rfl rfl rfl (r_eql rfl (ev_t rfl) (ev_t rfl)) ?_
       refine WL.nil ?_
       refine WX.keep [(0, _), (1, _), (5, _), (17, _)] ⟨rfl, rfl, rfl, rfl, trivial⟩ ?_
       refine WX.next ?_
       refine WC.cond rfl (ev_t rfl) (fun hc4 => ?_) (fun hc4 => ?_)
       · try (exfalso; first | (simp at hc4; done) | (simp only [decide_eq_true_eq, decide_eq_false_iff_not, Bool.not_eq_true', Bool.not_eq_false', Bool.not_eq_true, Bool.not_eq_false] at hc4; omega) | omega)
         all_goals
          try simp only [decide_eq_true_eq, decide_eq_false_iff_not, Bool.not_eq_true', Bool.not_eq_false', Bool.not_eq_true, Bool.not_eq_false, Option.isNone_none, Option.isNone_some, Option.isSome_none, Option.isSome_some, ne_eq, Decidable.not_not] at hc4
          refine WC.seq ?_
          refine WC.region ?_
          refine WL.val rfl rfl rfl rfl (r_assign rfl ev_c) ?_
          refine WL.nil ?_
          refine WX.keep [(4, _)] ⟨rfl, trivial⟩ ?_
          refine WX.next ?_
          refine WC.ret ?_
          refine WX.blockRet ?_
          refine WX.thenRet ?_
          refine WX.thenRet ?_
          refine WX.blockRet ?_
          refine WX.thenRet ?_
          refine WX.retE1 rfl rfl ?_
          refine ⟨?_, rfl⟩
          congr 1
          exact (decide_eq_true (List.mem_of_getElem? (by rw [hxi, hc4]))).symm
       · try (exfalso; first | (simp at hc4; done) | (simp only [decide_eq_true_eq, decide_eq_false_iff_not, Bool.not_eq_true', Bool.not_eq_false', Bool.not_eq_true, Bool.not_eq_false] at hc4; omega) | omega)
         all_goals
          try simp only [decide_eq_true_eq, decide_eq_false_iff_not, Bool.not_eq_true', Bool.not_eq_false', Bool.not_eq_true, Bool.not_eq_false, Option.isNone_none, Option.isNone_some, Option.isSome_none, Option.isSome_some, ne_eq, Decidable.not_not] at hc4
          refine WC.skip ?_
          refine WX.blockNormal ?_
          refine WX.next ?_
          refine WC.region ?_
          refine WL.val rfl rfl rfl rfl (r_move rfl (ev_t rfl)) ?_
          first | refine WL.val rfl rfl rfl rfl (r_addN rfl (ev_t rfl) ev_c (by simp only [inK]; omega)) ?_ | refine WL.val rfl rfl rfl rfl (r_add rfl (ev_t rfl) ev_c) ?_
          refine WL.val rfl rfl rfl rfl (r_assign rfl (ev_t rfl)) ?_
          refine WL.nil ?_
          refine WX.keep [(0, _), (1, _), (5, _)] ⟨rfl, rfl, rfl, trivial⟩ ?_
          refine WX.meet [(0, _), (1, _), (5, _)] ⟨rfl, rfl, rfl, trivial⟩ ?_
          refine ⟨l.length - (i + 1), by omega, i + 1, rfl, by omega, rfl, fun j hj => ?_, rfl⟩
          rcases Nat.lt_or_ge j i with h | h
          · exact hn j h
          · obtain rfl : j = i := by omega
            rw [hxi]
            intro e
            injection e with e
            exact hc4 e
    · try (exfalso; first | (simp at hc2; done) | (simp only [decide_eq_true_eq, decide_eq_false_iff_not, Bool.not_eq_true', Bool.not_eq_false', Bool.not_eq_true, Bool.not_eq_false] at hc2; omega) | omega)
      all_goals
       try simp only [decide_eq_true_eq, decide_eq_false_iff_not, Bool.not_eq_true', Bool.not_eq_false', Bool.not_eq_true, Bool.not_eq_false, Option.isNone_none, Option.isNone_some, Option.isSome_none, Option.isSome_some, ne_eq, Decidable.not_not] at hc2
       refine WC.exit ?_
       refine WX.thenExit ?_
       refine WX.thenExit ?_
       refine WX.blockHere ?_
       refine WX.next ?_
       refine WC.seq ?_
       refine WC.region ?_
       refine WL.val rfl rfl rfl rfl (r_assign rfl ev_c) ?_
       refine WL.nil ?_
       refine WX.keep [(4, _)] ⟨rfl, trivial⟩ ?_
       refine WX.next ?_
       refine WC.ret ?_
       refine WX.retE1 rfl rfl ?_
       refine ⟨?_, rfl⟩
       congr 1
       refine (decide_eq_false fun hx => ?_).symm
       obtain ⟨j, hj, e⟩ := List.getElem_of_mem hx
       exact hn j (by omega) (by rw [List.getElem?_eq_getElem hj, e])

def topv : Ty → List Int
  | .v x => [x]
  | .c _ _ => []
theorem vars_top (t : Ty) : vars t = topv t ++ (t.kids.map vars).flatten := by
  cases t with
  | v x => rw [vars_v]; rfl
  | c f ks => rw [vars_c]; rfl
theorem take_flat_succ {l : List Ty} {i : Nat} (h : i < l.length) : ((l.take (i + 1)).map vars).flatten = ((l.take i).map vars).flatten ++ vars l[i] := by
  rw [List.take_succ_eq_append_getElem h, List.map_append, List.flatten_append]
  simp
theorem flat_len_le {l : List Ty} {i : Nat} (h : i < l.length) : ((l.take i).map vars).flatten.length + (vars l[i]).length ≤ ((l.map vars).flatten).length := by
  have e : l.map vars = (l.take (i + 1)).map vars ++ (l.drop (i + 1)).map vars := by rw [← List.map_append, List.take_append_drop]
  rw [e, List.flatten_append, take_flat_succ h, List.length_append, List.length_append]
  omega

set_option maxHeartbeats 2000000 in
theorem rvars_ok : ∀ (N : Nat) (F G : Nat → Prop) (w : World) (l : List Int) (A : Option Addr) (c : Nat) (a1 a2 a3 : Value) (t : Ty), sz t ≤ N → Own w G 3 1 (.slice A l.length c) l.length (l.map I6) → TV w F (a1, a2, a3) t → (∀ k, F k → ¬ G k) → l.length + (vars t).length ≤ 1000000000 →
    Ret Try.prog 45 #[.slice A l.length c, .agg #[a1, a2, a3]] w fun v w' => ∃ A' c', v = .slice A' (nubA l (vars t)).length c' ∧ Own w' (Grow G w w') 3 1 (.slice A' (nubA l (vars t)).length c') (nubA l (vars t)).length ((nubA l (vars t)).map I6) ∧ Upd G w w' := by
  intro N
  induction N with
  | zero =>
    intro F G w l A c a1 a2 a3 t hN
    have := sz_pos t
    omega
  | succ N ih =>
    intro F G w l A c a1 a2 a3 t hN ho ht hFG hlen
    replace ht := ht.bound
    replace ho := ho.bound
    obtain ⟨G0, hG0⟩ : ∃ G0 : Nat → Prop, G0 = fun k => G k ∧ k < w.heap.size := ⟨_, rfl⟩
    rw [← hG0] at ho
    have hG0' : ∀ k, G0 k → G k ∧ k < w.heap.size := fun k hk => by rw [hG0] at hk; exact hk
    obtain ⟨m, A0, k0, xk, rfl, rfl, rfl, hm, hr, hl, hb, hk⟩ := ht.open
    have hks : TVs w (fun k => F k ∧ k < w.heap.size) xk t.kids := ⟨hl, hk⟩
    have hvt := vars_top t
    refine enterRet (vs := [_, _]) (N := 36) Try.func45 rfl rfl rfl ?_
    have hU := Upd.refl G w
    refine WC.keep [(0, _), (1, _)] ⟨rfl, rfl, trivial⟩ ?_
    refine WC.seq ?_
    refine WC.region ?_
    refine WL.cons (SO.alloc rfl rfl rfl rfl (r_boxAgg rfl (ev_t rfl)) ?_)
    intro w1 hu1 hB1 hz1
    have hs1 := hu1.size
    replace hU := hU.trans hu1 (by first | exact (fun _ _ h => h) | exact (fun _ _ h => h.elim) | (intro k hl hk; (try simp only [At, New, Grow, From, No] at hk ⊢); omega) | (intro k hl hk; first | (exact (hG1 k hk).2.elim (fun h => h) (fun h => (by omega))) | exact (hG0' k hk).1))
    replace hr := hr.upd hu1 (fun k hk hl hS => by first | exact (show False from hS).elim | (simp only [At] at hS; omega) | exact hFG k hk.1 (hG0' k hS).1 | (rcases (hG1 k hS).2 with h | h; exact hFG k hk.1 h; have := hk.2; omega))
    replace hks := hks.upd hu1 (fun k hk hl hS => by first | exact (show False from hS).elim | (simp only [At] at hS; omega) | exact hFG k hk.1 (hG0' k hS).1 | (rcases (hG1 k hS).2 with h | h; exact hFG k hk.1 h; have := hk.2; omega))
    replace ho := ho.upd hu1 (fun k hk hl hS => by first | exact (show False from hS).elim | (simp only [At] at hS; have := hG0' k hk; omega))
    refine WL.val rfl rfl rfl rfl (r_assign rfl ev_c) ?_
    refine WL.nil ?_
    refine WX.keep [(0, _), (3, _)] ⟨rfl, rfl, trivial⟩ ?_
    refine WX.next ?_
    -- cut 1: live [0, 3]
    refine WC.cut (fun E wA => ∃ (G1 : Nat → Prop) (A1 : Option Addr) (c1 : Nat), Upd G w wA ∧ w.heap.size < wA.heap.size ∧ (∀ k, G1 k → (k < wA.heap.size ∧ k ≠ w.heap.size) ∧ (G k ∨ w.heap.size ≤ k)) ∧ Own wA G1 3 1 (.slice A1 (nubA l (topv t)).length c1) (nubA l (topv t)).length ((nubA l (topv t)).map I6) ∧ Blk wA w.heap.size #[.string ⟨t.nm.toArray⟩, .int .i64 m, .slice A0 t.kids.length k0] typ ∧ Rd wA (fun k => F k ∧ k < w.heap.size) (.slice A0 t.kids.length k0) t.kids.length 3 (xk.flatMap c3) ∧ TVs wA (fun k => F k ∧ k < w.heap.size) xk t.kids ∧   E = [(0, .slice A1 (nubA l (topv t)).length c1), (3, .pointer (some ⟨w.heap.size, 0, none⟩))]) ?_ ?_
    · refine WC.seq ?_
      refine WC.region ?_
      first | refine WL.val rfl rfl rfl rfl (r_field0 rfl (ev_t rfl) fld_28_0) ?_ | refine WL.val rfl rfl rfl rfl (r_fieldAt rfl (ev_t rfl) fld_28_0) ?_
      refine WL.val rfl rfl rfl rfl (r_load rfl (ev_t rfl) flat_9 (Blk.cell hB1 rfl)) ?_
      refine WL.val rfl rfl rfl rfl (r_eqlStrL rfl (ev_t rfl) ev_c) ?_
      refine WL.val rfl rfl rfl rfl (r_move rfl (ev_t rfl)) ?_
      refine WL.cases 9 rfl (fun hb1_3 => ?_) (fun hb1_3 => ?_)
      · try (exfalso; first | (simp at hb1_3; done) | (simp only [decide_eq_true_eq, decide_eq_false_iff_not, Bool.not_eq_true', Bool.not_eq_false', Bool.not_eq_true, Bool.not_eq_false] at hb1_3; omega) | omega)
        all_goals
         try simp only [decide_eq_true_eq, decide_eq_false_iff_not, Bool.not_eq_true', Bool.not_eq_false', Bool.not_eq_true, Bool.not_eq_false, Option.isNone_none, Option.isNone_some, Option.isSome_none, Option.isSome_some, ne_eq, Decidable.not_not] at hb1_3
         obtain ⟨x, rfl⟩ := Ty.nm_nil.1 hb1_3
         obtain rfl := (hm x rfl).symm
         refine WL.val rfl rfl rfl rfl (r_move rfl (ev_t rfl)) ?_
         first | refine WL.val rfl rfl rfl rfl (r_field0 rfl (ev_t rfl) fld_28_1) ?_ | refine WL.val rfl rfl rfl rfl (r_fieldAt rfl (ev_t rfl) fld_28_1) ?_
         refine WL.val rfl rfl rfl rfl (r_load rfl (ev_t rfl) flat_3 (Blk.cell hB1 rfl)) ?_
         refine WL.cons (SO.call (has_ok (ho.rd (by omega))) rfl body_30 ⟨(ev_t rfl), (ev_t rfl), trivial⟩ rfl rfl rfl rfl ?_)
         rintro v w2 ⟨rfl, he⟩
         obtain rfl := he.symm
         refine WL.val rfl rfl rfl rfl (r_not rfl (ev_t rfl)) ?_
         refine WL.val rfl rfl rfl rfl (r_pickT rfl (ev_t rfl) (ev_t rfl)) ?_
         refine WL.nil ?_
         refine WX.keep [(0, _), (3, _), (15, _)] ⟨rfl, rfl, rfl, trivial⟩ ?_
         refine WX.next ?_
         refine WC.cond rfl (ev_t rfl) (fun hc1 => ?_) (fun hc1 => ?_)
         · try (exfalso; first | (simp at hc1; done) | (simp only [decide_eq_true_eq, decide_eq_false_iff_not, Bool.not_eq_true', Bool.not_eq_false', Bool.not_eq_true, Bool.not_eq_false] at hc1; omega) | omega)
           all_goals
            try simp only [decide_eq_true_eq, decide_eq_false_iff_not, Bool.not_eq_true', Bool.not_eq_false', Bool.not_eq_true, Bool.not_eq_false, Option.isNone_none, Option.isNone_some, Option.isSome_none, Option.isSome_some, ne_eq, Decidable.not_not] at hc1
            have hx : x ∉ l := by simpa using hc1
            have hnub : nubA l (topv (.v x)) = l ++ [x] := by show nubA l [x] = _; rw [nubA_cons, if_neg hx]; rfl
            refine WC.region ?_
            refine WL.val rfl rfl rfl rfl (r_move rfl (ev_t rfl)) ?_
            first | refine WL.val rfl rfl rfl rfl (r_field0 rfl (ev_t rfl) fld_28_1) ?_ | refine WL.val rfl rfl rfl rfl (r_fieldAt rfl (ev_t rfl) fld_28_1) ?_
            refine WL.val rfl rfl rfl rfl (r_load rfl (ev_t rfl) flat_3 (Blk.cell hB1 rfl)) ?_
            refine WL.cons (SO.alloc rfl rfl rfl rfl (r_buildSlice1 (vs := [_]) rfl ⟨(ev_t rfl), trivial⟩ rfl row_33 rfl rfl) ?_)
            intro w3 hu3 hB3 hz3
            have hs3 := hu3.size
            replace hU := hU.trans hu3 (by first | exact (fun _ _ h => h) | exact (fun _ _ h => h.elim) | (intro k hl hk; (try simp only [At, New, Grow, From, No] at hk ⊢); omega) | (intro k hl hk; first | (exact (hG1 k hk).2.elim (fun h => h) (fun h => (by omega))) | exact (hG0' k hk).1))
            replace hr := hr.upd hu3 (fun k hk hl hS => by first | exact (show False from hS).elim | (simp only [At] at hS; omega) | exact hFG k hk.1 (hG0' k hS).1 | (rcases (hG1 k hS).2 with h | h; exact hFG k hk.1 h; have := hk.2; omega))
            replace hks := hks.upd hu3 (fun k hk hl hS => by first | exact (show False from hS).elim | (simp only [At] at hS; omega) | exact hFG k hk.1 (hG0' k hS).1 | (rcases (hG1 k hS).2 with h | h; exact hFG k hk.1 h; have := hk.2; omega))
            replace ho := ho.upd hu3 (fun k hk hl hS => by first | exact (show False from hS).elim | (simp only [At] at hS; have := hG0' k hk; omega))
            replace hB1 := hB1.upd hu3 (by first | exact (fun h => h) | (simp only [At]; omega) | (intro hS; have := hG0' _ hS; omega) | (intro hS; have := (hG1 _ hS); omega))
            refine WL.cons (SO.append ho (show Rd _ _ _ 1 1 [I6 x] from Rd.of_blk (F := At _) (n := 1) (sz := 1) hB3 rfl rfl (by omega)) row_33 (fun u hu => by simp at hu; subst hu; rfl) (le_maxLen (by omega)) (by omega) rfl (ev_t rfl) (ev_t rfl) rfl rfl rfl rfl ?_)
            intro v4 w4 ho hu4
            have hs4 := hu4.size
            replace hU := hU.trans hu4 (by first | exact (fun _ _ h => h) | exact (fun _ _ h => h.elim) | (intro k hl hk; (try simp only [At, New, Grow, From, No] at hk ⊢); omega) | (intro k hl hk; first | (exact (hG1 k hk).2.elim (fun h => h) (fun h => (by omega))) | exact (hG0' k hk).1))
            replace hr := hr.upd hu4 (fun k hk hl hS => by first | exact (show False from hS).elim | (simp only [At] at hS; omega) | exact hFG k hk.1 (hG0' k hS).1 | (rcases (hG1 k hS).2 with h | h; exact hFG k hk.1 h; have := hk.2; omega))
            replace hks := hks.upd hu4 (fun k hk hl hS => by first | exact (show False from hS).elim | (simp only [At] at hS; omega) | exact hFG k hk.1 (hG0' k hS).1 | (rcases (hG1 k hS).2 with h | h; exact hFG k hk.1 h; have := hk.2; omega))
            replace hB1 := hB1.upd hu4 (by first | exact (fun h => h) | (simp only [At]; omega) | (intro hS; have := hG0' _ hS; omega) | (intro hS; have := (hG1 _ hS); omega))
            obtain ⟨A4, c4, rfl, hc4⟩ := Own.form ho
            refine WL.val rfl rfl rfl rfl (r_assign rfl (ev_t rfl)) ?_
            refine WL.nil ?_
            refine WX.keep [(0, _), (3, _)] ⟨rfl, rfl, trivial⟩ ?_
            refine WX.meet [(0, _), (3, _)] ⟨rfl, rfl, trivial⟩ ?_
            first
              | (have e : nubA l (topv (.c f ks)) = l := rfl; rw [e]; exact ⟨G0, _, _, hU, by omega, fun k hk => ⟨⟨by have := hG0' k hk; omega, by have := hG0' k hk; omega⟩, .inl (hG0' k hk).1⟩, ho, hB1, hr, hks, rfl⟩)
              | (rw [hnub]; exact ⟨G0, _, _, hU, by omega, fun k hk => ⟨⟨by have := hG0' k hk; omega, by have := hG0' k hk; omega⟩, .inl (hG0' k hk).1⟩, ho, hB1, hr, hks, rfl⟩)
              | (rw [hnub, List.length_append, List.map_append]; exact ⟨_, _, _, hU, by omega, fun k hk => (by rcases hk with hk | hk; have := hG0' k hk; exact ⟨⟨by omega, by omega⟩, .inl this.1⟩; exact ⟨⟨by omega, by omega⟩, .inr (by omega)⟩), ho, hB1, hr, hks, rfl⟩)
         · try (exfalso; first | (simp at hc1; done) | (simp only [decide_eq_true_eq, decide_eq_false_iff_not, Bool.not_eq_true', Bool.not_eq_false', Bool.not_eq_true, Bool.not_eq_false] at hc1; omega) | omega)
           all_goals
            try simp only [decide_eq_true_eq, decide_eq_false_iff_not, Bool.not_eq_true', Bool.not_eq_false', Bool.not_eq_true, Bool.not_eq_false, Option.isNone_none, Option.isNone_some, Option.isSome_none, Option.isSome_some, ne_eq, Decidable.not_not] at hc1
            have hx : x ∈ l := by simpa using hc1
            have hnub : nubA l (topv (.v x)) = l := by show nubA l [x] = _; rw [nubA_cons, if_pos hx]; rfl
            refine WC.skip ?_
            refine WX.meet [(0, _), (3, _)] ⟨rfl, rfl, trivial⟩ ?_
            first
              | (have e : nubA l (topv (.c f ks)) = l := rfl; rw [e]; exact ⟨G0, _, _, hU, by omega, fun k hk => ⟨⟨by have := hG0' k hk; omega, by have := hG0' k hk; omega⟩, .inl (hG0' k hk).1⟩, ho, hB1, hr, hks, rfl⟩)
              | (rw [hnub]; exact ⟨G0, _, _, hU, by omega, fun k hk => ⟨⟨by have := hG0' k hk; omega, by have := hG0' k hk; omega⟩, .inl (hG0' k hk).1⟩, ho, hB1, hr, hks, rfl⟩)
              | (rw [hnub, List.length_append, List.map_append]; exact ⟨_, _, _, hU, by omega, fun k hk => (by rcases hk with hk | hk; have := hG0' k hk; exact ⟨⟨by omega, by omega⟩, .inl this.1⟩; exact ⟨⟨by omega, by omega⟩, .inr (by omega)⟩), ho, hB1, hr, hks, rfl⟩)
      · try (exfalso; first | (simp at hb1_3; done) | (simp only [decide_eq_true_eq, decide_eq_false_iff_not, Bool.not_eq_true', Bool.not_eq_false', Bool.not_eq_true, Bool.not_eq_false] at hb1_3; omega) | omega)
        all_goals
         try simp only [decide_eq_true_eq, decide_eq_false_iff_not, Bool.not_eq_true', Bool.not_eq_false', Bool.not_eq_true, Bool.not_eq_false, Option.isNone_none, Option.isNone_some, Option.isSome_none, Option.isSome_some, ne_eq, Decidable.not_not] at hb1_3
         obtain ⟨f, ks, rfl⟩ := nm_c hb1_3
         refine WL.skip rfl rfl rfl ?_
         refine WL.skip rfl rfl rfl ?_
         refine WL.skip rfl rfl rfl ?_
         refine WL.skip rfl rfl rfl ?_
         refine WL.skip rfl rfl rfl ?_
         refine WL.val rfl rfl rfl rfl (r_pickF rfl (ev_t rfl) ev_c) ?_
         refine WL.nil ?_
         refine WX.keep [(0, _), (3, _), (15, _)] ⟨rfl, rfl, rfl, trivial⟩ ?_
         refine WX.next ?_
         refine WC.cond_false rfl (ev_t rfl) ?_
         refine WC.skip ?_
         refine WX.meet [(0, _), (3, _)] ⟨rfl, rfl, trivial⟩ ?_
         first
           | (have e : nubA l (topv (.c f ks)) = l := rfl; rw [e]; exact ⟨G0, _, _, hU, by omega, fun k hk => ⟨⟨by have := hG0' k hk; omega, by have := hG0' k hk; omega⟩, .inl (hG0' k hk).1⟩, ho, hB1, hr, hks, rfl⟩)
           | (rw [hnub]; exact ⟨G0, _, _, hU, by omega, fun k hk => ⟨⟨by have := hG0' k hk; omega, by have := hG0' k hk; omega⟩, .inl (hG0' k hk).1⟩, ho, hB1, hr, hks, rfl⟩)
           | (rw [hnub, List.length_append, List.map_append]; exact ⟨_, _, _, hU, by omega, fun k hk => (by rcases hk with hk | hk; have := hG0' k hk; exact ⟨⟨by omega, by omega⟩, .inl this.1⟩; exact ⟨⟨by omega, by omega⟩, .inr (by omega)⟩), ho, hB1, hr, hks, rfl⟩)
    · clear hU hr hks ho hB1
      rintro E wA ⟨G1, A1, c1, hU, hsz1, hG1, ho, hB1, hr, hks, rfl⟩
      refine WC.seq ?_
      refine WC.seq ?_
      refine WC.region ?_
      refine WL.val rfl rfl rfl rfl (r_assign rfl ev_c) ?_
      refine WL.nil ?_
      refine WX.keep [(0, _), (3, _), (5, _)] ⟨rfl, rfl, rfl, trivial⟩ ?_
      refine WX.next ?_
      refine WC.block ?_
      -- loop 1: live [0, 3, 5]
      refine WC.keep [(0, _), (3, _), (5, _)] ⟨rfl, rfl, rfl, trivial⟩ ?_
      refine WC.loop (fun q E wB => ∃ (i : Nat) (G1 : Nat → Prop) (A1 : Option Addr) (c1 : Nat) (lc : List Int), i ≤ t.kids.length ∧ q = t.kids.length - i ∧ lc = nubA l (topv t ++ ((t.kids.take i).map vars).flatten) ∧ Upd G w wB ∧ w.heap.size < wB.heap.size ∧ (∀ k, G1 k → (k < wB.heap.size ∧ k ≠ w.heap.size) ∧ (G k ∨ w.heap.size ≤ k)) ∧ Own wB G1 3 1 (.slice A1 lc.length c1) lc.length (lc.map I6) ∧ Blk wB w.heap.size #[.string ⟨t.nm.toArray⟩, .int .i64 m, .slice A0 t.kids.length k0] typ ∧ Rd wB (fun k => F k ∧ k < w.heap.size) (.slice A0 t.kids.length k0) t.kids.length 3 (xk.flatMap c3) ∧ TVs wB (fun k => F k ∧ k < w.heap.size) xk t.kids ∧   E = [(0, .slice A1 lc.length c1), (3, .pointer (some ⟨w.heap.size, 0, none⟩)), (5, .int .i64 (i : Int))]) (t.kids.length) ?_ ?_
      · exact ⟨0, G1, A1, c1, _, by omega, by omega, by rw [List.take_zero]; simp, hU, hsz1, hG1, ho, hB1, hr, hks, rfl⟩
      · clear hU hr hks ho hB1 hG1
        rintro q E wB ⟨i, G1, A1, c1, lc, hi, rfl, hlc, hU, hsz1, hG1, ho, hB1, hr, hks, rfl⟩
        refine WC.seq ?_
        refine WC.seq ?_
        refine WC.region ?_
        refine WL.val rfl rfl rfl rfl (r_move rfl (ev_t rfl)) ?_
        first | refine WL.val rfl rfl rfl rfl (r_field0 rfl (ev_t rfl) fld_28_2) ?_ | refine WL.val rfl rfl rfl rfl (r_fieldAt rfl (ev_t rfl) fld_28_2) ?_
        refine WL.val rfl rfl rfl rfl (r_load rfl (ev_t rfl) flat_26 (Blk.cell hB1 rfl)) ?_
        refine WL.val rfl rfl rfl rfl (r_lenSlice (ts := #[]) rfl (ev_t rfl) elem_26) ?_
        refine WL.val rfl rfl rfl rfl (r_lss rfl (ev_t rfl) (ev_t rfl)) ?_
        refine WL.nil ?_
        refine WX.keep [(0, _), (3, _), (5, _), (25, _)] ⟨rfl, rfl, rfl, rfl, trivial⟩ ?_
        refine WX.next ?_
        refine WC.cond rfl (ev_t rfl) (fun hc4 => ?_) (fun hc4 => ?_)
        · try (exfalso; first | (simp at hc4; done) | (simp only [decide_eq_true_eq, decide_eq_false_iff_not, Bool.not_eq_true', Bool.not_eq_false', Bool.not_eq_true, Bool.not_eq_false] at hc4; omega) | omega)
          all_goals
           try simp only [decide_eq_true_eq, decide_eq_false_iff_not, Bool.not_eq_true', Bool.not_eq_false', Bool.not_eq_true, Bool.not_eq_false, Option.isNone_none, Option.isNone_some, Option.isSome_none, Option.isSome_some, ne_eq, Decidable.not_not] at hc4
           have hi' : i < t.kids.length := by omega
           obtain ⟨b0, off, rfl, _⟩ := hr.open (by omega)
           have hlx : i < xk.length := by have := hks.1; omega
           have hxi : xk[i]? = some xk[i] := List.getElem?_eq_getElem hlx
           have hki : t.kids[i]? = some t.kids[i] := List.getElem?_eq_getElem hi'
           have htk := hks.2 i _ _ hxi hki
           have hfs := take_flat_succ hi'
           have hfl := flat_len_le hi'
           have hkl : sz t.kids[i] < sz t := by
             cases t with
             | v x => simp [Ty.kids] at hi'
             | c f ks => exact sz_kid (n := f) (List.getElem_mem hi')
           have hll := (nubA_len (topv t ++ ((t.kids.take i).map vars).flatten) l).2
           rw [← hlc] at hll
           generalize xk[i] = ck at *
           generalize t.kids[i] = kk at *
           obtain ⟨ca, cb, cc⟩ := ck
           have hvl : (vars t).length = (topv t).length + ((t.kids.map vars).flatten).length := by rw [hvt, List.length_append]
           rw [List.length_append] at hll
           refine WC.skip ?_
           refine WX.next ?_
           refine WC.seq ?_
           refine WC.block ?_
           refine WC.region ?_
           refine WL.val rfl rfl rfl rfl (r_move rfl (ev_t rfl)) ?_
           first | refine WL.val rfl rfl rfl rfl (r_field0 rfl (ev_t rfl) fld_28_2) ?_ | refine WL.val rfl rfl rfl rfl (r_fieldAt rfl (ev_t rfl) fld_28_2) ?_
           refine WL.val rfl rfl rfl rfl (r_load rfl (ev_t rfl) flat_26 (Blk.cell hB1 rfl)) ?_
           refine WL.val rfl rfl rfl rfl (r_move rfl (ev_t rfl)) ?_
           refine WL.val rfl rfl rfl rfl (r_indexAddr rfl (ev_t rfl) (ev_t rfl) elem_26 size_28 (by omega) (by omega)) ?_
           refine WL.val rfl rfl rfl rfl (r_loadAgg (vs := [_, _, _]) rfl (ev_t rfl) agg_28 size_28 (kid_cells hr hxi rfl)) ?_
           refine WL.cons (SO.call (ih _ G1 _ lc _ _ _ _ _ kk (by omega) ho htk (fun k hk hg => by rcases (hG1 k hg).2 with h | h; exact hFG k hk.1 h; have := hk.2; omega) (by omega)) rfl body_45 ⟨(ev_t rfl), (ev_t rfl), trivial⟩ rfl rfl rfl rfl ?_)
           rintro v w5 ⟨A2, c2, rfl, ho2, hu5⟩
           have hs8 := hu5.size
           have hs5 := hu5.size
           replace hU := hU.trans hu5 (by first | exact (fun _ _ h => h) | exact (fun _ _ h => h.elim) | (intro k hl hk; (try simp only [At, New, Grow, From, No] at hk ⊢); omega) | (intro k hl hk; first | (exact (hG1 k hk).2.elim (fun h => h) (fun h => (by omega))) | exact (hG0' k hk).1))
           replace hr := hr.upd hu5 (fun k hk hl hS => by first | exact (show False from hS).elim | (simp only [At] at hS; omega) | exact hFG k hk.1 (hG0' k hS).1 | (rcases (hG1 k hS).2 with h | h; exact hFG k hk.1 h; have := hk.2; omega))
           replace hks := hks.upd hu5 (fun k hk hl hS => by first | exact (show False from hS).elim | (simp only [At] at hS; omega) | exact hFG k hk.1 (hG0' k hS).1 | (rcases (hG1 k hS).2 with h | h; exact hFG k hk.1 h; have := hk.2; omega))
           replace hB1 := hB1.upd hu5 (by first | exact (fun h => h) | (simp only [At]; omega) | (intro hS; have := hG0' _ hS; omega) | (intro hS; have := (hG1 _ hS); omega))
           refine WL.val rfl rfl rfl rfl (r_assign rfl (ev_t rfl)) ?_
           refine WL.nil ?_
           refine WX.keep [(0, _), (3, _), (5, _)] ⟨rfl, rfl, rfl, trivial⟩ ?_
           refine WX.blockNormal ?_
           refine WX.next ?_
           refine WC.region ?_
           refine WL.val rfl rfl rfl rfl (r_move rfl (ev_t rfl)) ?_
           first | refine WL.val rfl rfl rfl rfl (r_addN rfl (ev_t rfl) ev_c (by simp only [inK]; omega)) ?_ | refine WL.val rfl rfl rfl rfl (r_add rfl (ev_t rfl) ev_c) ?_
           refine WL.val rfl rfl rfl rfl (r_assign rfl (ev_t rfl)) ?_
           refine WL.nil ?_
           refine WX.keep [(0, _), (3, _), (5, _)] ⟨rfl, rfl, rfl, trivial⟩ ?_
           refine WX.meet [(0, _), (3, _), (5, _)] ⟨rfl, rfl, rfl, trivial⟩ ?_
           refine ⟨t.kids.length - (i + 1), by omega, i + 1, _, _, _, _, by omega, rfl, ?_, hU, by omega, fun k hk => ?_, ho2, hB1, hr, hks, by simp⟩
           · rw [hfs, ← List.append_assoc, nubA_append, ← hlc]
           · rcases hk with hk | hk
             · have := hG1 k hk; exact ⟨⟨by omega, this.1.2⟩, this.2⟩
             · exact ⟨⟨by omega, by omega⟩, .inr (by omega)⟩
        · try (exfalso; first | (simp at hc4; done) | (simp only [decide_eq_true_eq, decide_eq_false_iff_not, Bool.not_eq_true', Bool.not_eq_false', Bool.not_eq_true, Bool.not_eq_false] at hc4; omega) | omega)
          all_goals
           try simp only [decide_eq_true_eq, decide_eq_false_iff_not, Bool.not_eq_true', Bool.not_eq_false', Bool.not_eq_true, Bool.not_eq_false, Option.isNone_none, Option.isNone_some, Option.isSome_none, Option.isSome_some, ne_eq, Decidable.not_not] at hc4
           refine WC.exit ?_
           refine WX.thenExit ?_
           refine WX.thenExit ?_
           refine WX.blockHere ?_
           refine WX.next ?_
           refine WC.seq ?_
           refine WC.region ?_
           refine WL.val rfl rfl rfl rfl (r_move rfl (ev_t rfl)) ?_
           refine WL.val rfl rfl rfl rfl (r_assign rfl (ev_t rfl)) ?_
           refine WL.nil ?_
           refine WX.keep [(4, _)] ⟨rfl, trivial⟩ ?_
           refine WX.next ?_
           refine WC.ret ?_
           refine WX.retE1 rfl rfl ?_
           obtain rfl : i = t.kids.length := by omega
           rw [List.take_of_length_le (Nat.le_refl _), ← hvt] at hlc
           subst hlc
           exact ⟨_, _, rfl, ho.mono fun k hk => by have := hG1 k hk; rcases this.2 with h | h; exact .inl h; exact .inr ⟨h, this.1.1⟩, hU⟩
end Go.Proofs.Ytncakfcafkfmfaa
