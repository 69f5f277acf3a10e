/-
  The store: Save.
-/
import Derived.Test.YtejlmcdmoghmaaaSu
namespace Go.Proofs.Ytejlmcdmoghmaaa
open Go
set_option linter.unusedSimpArgs false
set_option linter.unusedVariables false

theorem write_now {D0 : DS} {i : Nat} {t : Trk} (hi : D0.l[i]? = some t) (hoff : D0.off = false) (hm : 0 ≤ D0.most) : (D0.write i []).1.l[i]? = some ⟨t.sure, [], true⟩ := by
  have hlt : i < D0.l.length := (List.getElem?_eq_some_iff.1 hi).1
  have hw : D0.write (i : Int) [] = (D0.begin.setT i ⟨t.sure, [], true⟩, D0.begin.code) := by
    unfold DS.write
    rw [look_of hlt hoff, if_neg (by simp), if_neg (by simp; omega)]
    simp [track_eq hi]
  rw [hw]
  simp only [DS.setT, DS.begin]
  rw [List.getElem?_set_self hlt]
theorem rowCells_size (n : Nat) : (rowCells (.int .u8 0) n).size = n := by simp [rowCells, List.length_flatten, List.map_replicate, List.sum_replicate_nat, Value.cells]

set_option maxHeartbeats 2000000 in
theorem Save_ok {w : World} {F G H : Nat → Prop} {t p : Nat} {D : DS} {T : SS} {x : Sn} {dv : Value} {n : Nat} (hs : IsS w F t p 1 T) (hd : IsD w G p D) (hFG : ∀ k, F k → ¬ G k)
    (hr : Rd w H dv n 1 (x.data.map U8)) (hH : ∀ k, H k → k < w.heap.size → ¬ F k ∧ ¬ G k) (hFb : ∀ k, F k → k < w.heap.size) (hGb : ∀ k, G k → k < w.heap.size) (hx : x.ok) (hlen : D.l.length = 3) (hoff : D.off = false) (hside : T.side < 2) (harm : 0 ≤ D.armed) :
    Ret Try.prog 28 #[.pointer (some ⟨t, 0, none⟩), .agg #[.int .u64 (x.idx : Int), .int .u64 (x.term : Int), dv]] w fun v w' =>
      v = .int .i64 ((SS.save D 1 T x).2.2 : Int) ∧ Upd (fun k => F k ∨ G k) w w' ∧ ∃ F' G', IsS w' F' t p 1 (SS.save D 1 T x).2.1 ∧ IsD w' G' p (SS.save D 1 T x).1 ∧ (∀ k, F' k → ¬ G' k) ∧ (∀ k, F' k → Grow F w w' k) ∧ ∀ k, G' k → Grow G w w' k := by
  obtain ⟨sv, FD, hbt, hdr, hFDt, hFt, hFD⟩ := hs
  have hwf := hd.wf
  have hmo := hwf.most
  have htl := hbt.lt
  have hGt := hFG t hFt
  have hlay := layB_len hx
  have hx2 := hx.2.2
  have ei : (1 : Int) + 1 - (T.side : Int) = ((2 - T.side : Nat) : Int) := by omega
  obtain ⟨i, hi⟩ : ∃ i, i = 2 - T.side := ⟨_, rfl⟩
  have hlook := look_of (D := D) (i := i) (by omega) hoff
  obtain ⟨B0, hB0⟩ : ∃ B0, D.l[i]? = some B0 := ⟨_, List.getElem?_eq_getElem (by omega)⟩
  obtain ⟨P, hP⟩ : ∃ P, P = layB x := ⟨_, rfl⟩
  obtain ⟨As, cs, rfl, hcs⟩ := hdr.slice_form
  obtain ⟨Ax, cx, rfl, hcx⟩ := hr.slice_form
  have hxn := hr.lenB
  subst hxn
  have hxm := hr.le
  have hsv : SS.save D 1 T x = if x.idx ≤ T.s.idx then (D, T, 16) else if D.most < P.length then (D, T, 13) else if (saveD D i P).2 = 0 then ((saveD D i P).1, ⟨1 - T.side, x⟩, 0) else ((saveD D i P).1, T, (saveD D i P).2) := by
    unfold SS.save
    rw [ei, ← hi, ← hP]
  have hkeep : ∀ {w' : World}, Blk w' t (hdS p 1 T (.slice As T.s.data.length cs)) 89 → Rd w' FD (.slice As T.s.data.length cs) T.s.data.length 1 (T.s.data.map U8) → w.heap.size ≤ w'.heap.size → IsS w' F t p 1 T := fun hb hr hsz => ⟨_, FD, hb, hr, hFDt, hFt, fun k hk => ⟨(hFD k hk).1, by have := (hFD k hk).2; omega⟩⟩
  have hsep : ∀ {wa w' : World}, w.heap.size ≤ wa.heap.size → ∀ k, F k → ¬ Grow G wa w' k := fun hle k hk hg => by
    rcases hg with hg | hg
    · exact hFG k hk hg
    · have := hFb k hk; omega
  replace hd := hd.mono (F' := Grow G w w) (fun k hk _ => .inl hk)
  refine enterRet (vs := [_, _]) (N := 106) Try.func28 rfl rfl rfl ?_
  have hU := Upd.refl (fun k => F k ∨ G k) w
  replace hr := hr.bound
  refine WC.keep [(0, _), (1, _)] ⟨rfl, rfl, trivial⟩ ?_
  refine WC.seq ?_
  refine WC.region ?_
  refine WL.cons (SO.alloc rfl rfl rfl rfl (r_boxAgg rfl (ev_t rfl)) ?_)
  intro w1 hu1 hB1 hz1
  have hs1 := hu1.size
  replace hU := hU.trans hu1 (by first | exact (fun _ _ h => h) | exact (fun _ _ h => h.elim) | (intro k hl hk; (try simp only [At, New, Grow, From, No] at hk ⊢); omega) | (intro k hl hk; first | exact .inr hk | (rcases hk with hk | hk; exact .inr hk; omega) | (simp only [At] at hk; subst hk; exact .inl hFt) | (simp only [At] at hk; omega)))
  replace hd := hd.upd hu1 (by first | exact (fun _ _ _ h => h) | (intro k hk hl hS; simp only [At] at hS; subst hS; rcases hk with hk | hk; (first | exact hGt hk | (have := hGb _ hk; omega)); omega))
  replace hbt := hbt.upd hu1 (by first | exact (fun h => h) | (intro h; rcases h with h | h; exact hGt h; omega) | (simp only [At]; omega))
  replace hdr := hdr.upd hu1 (by first | exact (fun _ _ _ h => h) | (intro k hk hl hS; have hk' := hFD k hk; first | (rcases hS with hS | hS; exact hFG k hk'.1 hS; omega) | (simp only [At] at hS; omega) | (simp only [At] at hS; subst hS; exact hFDt hk)))
  replace hr := hr.upd hu1 (by first | exact (fun _ _ _ h => h) | (intro k hk hl hS; have hk' := hk.2; first | (rcases hS with hS | hS; exact (hH k hk.1 hk.2).2 hS; omega) | (simp only [At] at hS; omega) | (simp only [At] at hS; subst hS; exact (hH _ hk.1 hk.2).1 hFt)))
  refine WL.val rfl rfl rfl rfl (r_assign rfl ev_c) ?_
  refine WL.nil ?_
  refine WX.keep [(0, _), (3, _)] ⟨rfl, rfl, trivial⟩ ?_
  refine WX.next ?_
  refine WC.seq ?_
  refine WC.block ?_
  refine WC.seq ?_
  refine WC.region ?_
  refine WL.val rfl rfl rfl rfl (r_move rfl (ev_t rfl)) ?_
  refine WL.val rfl rfl rfl rfl (r_eqlPtrNil rfl (ev_t rfl) ev_c ptr_44) ?_
  refine WL.val rfl rfl rfl rfl (r_assign rfl (ev_t rfl)) ?_
  refine WL.nil ?_
  refine WX.keep [(0, _), (3, _), (10, _)] ⟨rfl, rfl, rfl, trivial⟩ ?_
  refine WX.next ?_
  refine WC.cond rfl (ev_t rfl) (fun hc1 => ?_) (fun hc1 => ?_)
  · try (exfalso; first | (simp at hc1; done) | (simp only [decide_eq_true_eq, decide_eq_false_iff_not, Bool.not_eq_true', Bool.not_eq_false', Bool.not_eq_true, Bool.not_eq_false] at hc1; omega) | omega)
    all_goals
     try simp only [decide_eq_true_eq, decide_eq_false_iff_not, Bool.not_eq_true', Bool.not_eq_false', Bool.not_eq_true, Bool.not_eq_false, Option.isNone_none, Option.isNone_some, Option.isSome_none, Option.isSome_some, ne_eq, Decidable.not_not] at hc1
     refine WC.seq ?_
     refine WC.region ?_
     refine WL.val rfl rfl rfl rfl (r_assign rfl ev_c) ?_
     refine WL.nil ?_
     refine WX.keep [(4, _)] ⟨rfl, trivial⟩ ?_
     refine WX.next ?_
     refine WC.ret ?_
     refine WX.blockRet ?_
     refine WX.thenRet ?_
     refine WX.retE1 rfl rfl ?_
     fail
  · try (exfalso; first | (simp at hc1; done) | (simp only [decide_eq_true_eq, decide_eq_false_iff_not, Bool.not_eq_true', Bool.not_eq_false', Bool.not_eq_true, Bool.not_eq_false] at hc1; omega) | omega)
    all_goals
     try simp only [decide_eq_true_eq, decide_eq_false_iff_not, Bool.not_eq_true', Bool.not_eq_false', Bool.not_eq_true, Bool.not_eq_false, Option.isNone_none, Option.isNone_some, Option.isSome_none, Option.isSome_some, ne_eq, Decidable.not_not] at hc1
     refine WC.seq ?_
     refine WC.draws' (fun u0_ u1_ => Upd No u0_ u1_) (fun j => [0, 0, 0, 0, 0, 0, 1, 0, 0].getD j 0) (.calm 0 (.calm 2 (.calm 3 (.calm 4 (.calm 5 (.held 1 (.one 6 (.calm 7 (.calm 8 (.done)))))))))) mixed (by kernel_rfl) (by repeat (first | with_reducible exact Deaf.body | with_reducible apply Deaf.then | with_reducible apply Deaf.block)) ?_
     intro w2 hu2
     have hz2 := congrArg Array.size hu2.2.2.2
     replace hu2 := Upd.of_draw hu2
     have hs2 := hu2.size
     replace hU := hU.trans hu2 (by first | exact (fun _ _ h => h) | exact (fun _ _ h => h.elim) | (intro k hl hk; (try simp only [At, New, Grow, From, No] at hk ⊢); omega) | (intro k hl hk; first | exact .inr hk | (rcases hk with hk | hk; exact .inr hk; omega) | (simp only [At] at hk; subst hk; exact .inl hFt) | (simp only [At] at hk; omega)))
     replace hd := hd.upd hu2 (by first | exact (fun _ _ _ h => h) | (intro k hk hl hS; simp only [At] at hS; subst hS; rcases hk with hk | hk; (first | exact hGt hk | (have := hGb _ hk; omega)); omega))
     replace hbt := hbt.upd hu2 (by first | exact (fun h => h) | (intro h; rcases h with h | h; exact hGt h; omega) | (simp only [At]; omega))
     replace hdr := hdr.upd hu2 (by first | exact (fun _ _ _ h => h) | (intro k hk hl hS; have hk' := hFD k hk; first | (rcases hS with hS | hS; exact hFG k hk'.1 hS; omega) | (simp only [At] at hS; omega) | (simp only [At] at hS; subst hS; exact hFDt hk)))
     replace hr := hr.upd hu2 (by first | exact (fun _ _ _ h => h) | (intro k hk hl hS; have hk' := hk.2; first | (rcases hS with hS | hS; exact (hH k hk.1 hk.2).2 hS; omega) | (simp only [At] at hS; omega) | (simp only [At] at hS; subst hS; exact (hH _ hk.1 hk.2).1 hFt)))
     replace hB1 := hB1.upd hu2 (by first | exact (fun h => h) | (simp only [At]; omega) | (intro h; rcases h with h | h; (have := hGb _ h; omega); omega))
     have hS3 := Upd.refl No w2
     first | refine WN.calm _ rfl rfl rfl rfl rfl (fun _ => r_field0 rfl (ev_t rfl) fld_50_0) ?_ | refine WN.calm _ rfl rfl rfl rfl rfl (fun _ => r_fieldAt rfl (ev_t rfl) fld_50_0) ?_
     refine WN.calm _ rfl rfl rfl rfl rfl (fun _ => r_move rfl (ev_t rfl)) ?_
     refine WN.calm _ rfl rfl rfl rfl rfl (fun _ => r_nilCheck rfl (ev_t rfl)) ?_
     first | refine WN.calm _ rfl rfl rfl rfl rfl (fun _ => r_field0 rfl (ev_t rfl) fld_89_3) ?_ | refine WN.calm _ rfl rfl rfl rfl rfl (fun _ => r_fieldAt rfl (ev_t rfl) fld_89_3) ?_
     first | refine WN.calm _ rfl rfl rfl rfl rfl (fun _ => r_field0 rfl (ev_t rfl) fld_50_0) ?_ | refine WN.calm _ rfl rfl rfl rfl rfl (fun _ => r_fieldAt rfl (ev_t rfl) fld_50_0) ?_
     refine WN.held _ rfl rfl rfl rfl rfl hS3 (fun w' hS => r_load rfl (ev_t rfl) flat_48 (Blk.cell (hB1.upd hS (fun h => h)) rfl)) ?_
     refine WN.step _ rfl (SO.val rfl rfl rfl rfl (r_load rfl (ev_t rfl) flat_48 (Blk.cell hbt rfl)) ?_)
     refine ⟨hS3, ?_⟩
     refine WN.calm _ rfl rfl rfl rfl rfl (fun _ => r_leq rfl (ev_t rfl) (ev_t rfl)) ?_
     refine WN.calm _ rfl rfl rfl rfl rfl (fun _ => r_assign rfl (ev_t rfl)) ?_
     refine WN.done ?_
     refine WX.keep [(0, _), (3, _), (13, _)] ⟨rfl, rfl, rfl, trivial⟩ ?_
     refine WX.next ?_
     refine WC.cond rfl (ev_t rfl) (fun hc3 => ?_) (fun hc3 => ?_)
     · try (exfalso; first | (simp at hc3; done) | (simp only [decide_eq_true_eq, decide_eq_false_iff_not, Bool.not_eq_true', Bool.not_eq_false', Bool.not_eq_true, Bool.not_eq_false] at hc3; omega) | omega)
       all_goals
        try simp only [decide_eq_true_eq, decide_eq_false_iff_not, Bool.not_eq_true', Bool.not_eq_false', Bool.not_eq_true, Bool.not_eq_false, Option.isNone_none, Option.isNone_some, Option.isSome_none, Option.isSome_some, ne_eq, Decidable.not_not] at hc3
        refine WC.seq ?_
        refine WC.region ?_
        refine WL.val rfl rfl rfl rfl (r_assign rfl ev_c) ?_
        refine WL.nil ?_
        refine WX.keep [(4, _)] ⟨rfl, trivial⟩ ?_
        refine WX.next ?_
        refine WC.ret ?_
        refine WX.blockRet ?_
        refine WX.thenRet ?_
        refine WX.retE1 rfl rfl ?_
        have e1 : SS.save D 1 T x = (D, T, 16) := by rw [hsv, if_pos (by omega)]
        rw [e1]
        exact ⟨rfl, hU, F, Grow G w w, hkeep hbt hdr hU.size, hd, hsep (Nat.le_refl _), fun k hk => .inl hk, fun k hk => Grow.le hU.size hk⟩
     · try (exfalso; first | (simp at hc3; done) | (simp only [decide_eq_true_eq, decide_eq_false_iff_not, Bool.not_eq_true', Bool.not_eq_false', Bool.not_eq_true, Bool.not_eq_false] at hc3; omega) | omega)
       all_goals
        try simp only [decide_eq_true_eq, decide_eq_false_iff_not, Bool.not_eq_true', Bool.not_eq_false', Bool.not_eq_true, Bool.not_eq_false, Option.isNone_none, Option.isNone_some, Option.isSome_none, Option.isSome_some, ne_eq, Decidable.not_not] at hc3
        refine WC.skip ?_
        refine WX.blockNormal ?_
        refine WX.next ?_
        refine WC.seq ?_
        refine WC.draws' (fun u0_ u1_ => Upd No u0_ u1_) (fun j => [0, 0, 0, 0, 0, 0, 0, 0, 1, 0, 0].getD j 0) (.calm 0 (.calm 1 (.calm 2 (.calm 5 (.calm 6 (.calm 7 (.held 3 (.calm 4 (.one 8 (.calm 9 (.calm 10 (.done)))))))))))) mixed (by kernel_rfl) (by repeat (first | with_reducible exact Deaf.body | with_reducible apply Deaf.then | with_reducible apply Deaf.block)) ?_
        intro w3 hu3
        have hz3 := congrArg Array.size hu3.2.2.2
        replace hu3 := Upd.of_draw hu3
        have hs3 := hu3.size
        replace hU := hU.trans hu3 (by first | exact (fun _ _ h => h) | exact (fun _ _ h => h.elim) | (intro k hl hk; (try simp only [At, New, Grow, From, No] at hk ⊢); omega) | (intro k hl hk; first | exact .inr hk | (rcases hk with hk | hk; exact .inr hk; omega) | (simp only [At] at hk; subst hk; exact .inl hFt) | (simp only [At] at hk; omega)))
        replace hd := hd.upd hu3 (by first | exact (fun _ _ _ h => h) | (intro k hk hl hS; simp only [At] at hS; subst hS; rcases hk with hk | hk; (first | exact hGt hk | (have := hGb _ hk; omega)); omega))
        replace hbt := hbt.upd hu3 (by first | exact (fun h => h) | (intro h; rcases h with h | h; exact hGt h; omega) | (simp only [At]; omega))
        replace hdr := hdr.upd hu3 (by first | exact (fun _ _ _ h => h) | (intro k hk hl hS; have hk' := hFD k hk; first | (rcases hS with hS | hS; exact hFG k hk'.1 hS; omega) | (simp only [At] at hS; omega) | (simp only [At] at hS; subst hS; exact hFDt hk)))
        replace hr := hr.upd hu3 (by first | exact (fun _ _ _ h => h) | (intro k hk hl hS; have hk' := hk.2; first | (rcases hS with hS | hS; exact (hH k hk.1 hk.2).2 hS; omega) | (simp only [At] at hS; omega) | (simp only [At] at hS; subst hS; exact (hH _ hk.1 hk.2).1 hFt)))
        replace hB1 := hB1.upd hu3 (by first | exact (fun h => h) | (simp only [At]; omega) | (intro h; rcases h with h | h; (have := hGb _ h; omega); omega))
        have hS5 := Upd.refl No w3
        refine WN.calm _ rfl rfl rfl rfl rfl (fun _ => r_move rfl (ev_t rfl)) ?_
        refine WN.calm _ rfl rfl rfl rfl rfl (fun _ => r_nilCheck rfl (ev_t rfl)) ?_
        first | refine WN.calm _ rfl rfl rfl rfl rfl (fun _ => r_field0 rfl (ev_t rfl) fld_89_1) ?_ | refine WN.calm _ rfl rfl rfl rfl rfl (fun _ => r_fieldAt rfl (ev_t rfl) fld_89_1) ?_
        refine WN.calm _ rfl rfl rfl rfl rfl (fun _ => r_move rfl (ev_t rfl)) ?_
        refine WN.calm _ rfl rfl rfl rfl rfl (fun _ => r_nilCheck rfl (ev_t rfl)) ?_
        first | refine WN.calm _ rfl rfl rfl rfl rfl (fun _ => r_field0 rfl (ev_t rfl) fld_89_2) ?_ | refine WN.calm _ rfl rfl rfl rfl rfl (fun _ => r_fieldAt rfl (ev_t rfl) fld_89_2) ?_
        refine WN.held _ rfl rfl rfl rfl rfl hS5 (fun w' hS => r_load rfl (ev_t rfl) flat_3 (Blk.cell (hbt.upd hS (fun h => h)) rfl)) ?_
        first | refine WN.calm _ rfl rfl rfl rfl rfl (fun _ => r_addN rfl (ev_t rfl) ev_c (by simp only [inK]; omega)) ?_ | refine WN.calm _ rfl rfl rfl rfl rfl (fun _ => r_add rfl (ev_t rfl) ev_c) ?_
        refine WN.step _ rfl (SO.val rfl rfl rfl rfl (r_load rfl (ev_t rfl) flat_3 (Blk.cell hbt rfl)) ?_)
        refine ⟨hS5, ?_⟩
        first | refine WN.calm _ rfl rfl rfl rfl rfl (fun _ => r_subN rfl (ev_t rfl) (ev_t rfl) (by simp only [inK]; omega)) ?_ | refine WN.calm _ rfl rfl rfl rfl rfl (fun _ => r_sub rfl (ev_t rfl) (ev_t rfl)) ?_
        refine WN.calm _ rfl rfl rfl rfl rfl (fun _ => r_assign rfl (ev_t rfl)) ?_
        refine WN.done ?_
        refine WX.keep [(0, _), (3, _), (5, _)] ⟨rfl, rfl, rfl, trivial⟩ ?_
        rw [ei, ← hi]
        refine WX.next ?_
        refine WC.seq ?_
        refine WC.region ?_
        refine WL.val rfl rfl rfl rfl (r_loadAgg (vs := [_, _, _]) rfl (ev_t rfl) agg_50 size_50 (Blk.cellsL hB1)) ?_
        refine WL.cons (SO.call (lay_ok hr hx) rfl body_43 ⟨(ev_t rfl), trivial⟩ rfl rfl rfl rfl ?_)
        rintro v w4 ⟨hpl, hu4⟩
        rw [← hP] at hpl
        have hs4 := hu4.size
        replace hU := hU.trans hu4 (by first | exact (fun _ _ h => h) | exact (fun _ _ h => h.elim) | (intro k hl hk; (try simp only [At, New, Grow, From, No] at hk ⊢); omega) | (intro k hl hk; first | exact .inr hk | (rcases hk with hk | hk; exact .inr hk; omega) | (simp only [At] at hk; subst hk; exact .inl hFt) | (simp only [At] at hk; omega)))
        replace hd := hd.upd hu4 (by first | exact (fun _ _ _ h => h) | (intro k hk hl hS; simp only [At] at hS; subst hS; rcases hk with hk | hk; (first | exact hGt hk | (have := hGb _ hk; omega)); omega))
        replace hbt := hbt.upd hu4 (by first | exact (fun h => h) | (intro h; rcases h with h | h; exact hGt h; omega) | (simp only [At]; omega))
        replace hdr := hdr.upd hu4 (by first | exact (fun _ _ _ h => h) | (intro k hk hl hS; have hk' := hFD k hk; first | (rcases hS with hS | hS; exact hFG k hk'.1 hS; omega) | (simp only [At] at hS; omega) | (simp only [At] at hS; subst hS; exact hFDt hk)))
        replace hr := hr.upd hu4 (by first | exact (fun _ _ _ h => h) | (intro k hk hl hS; have hk' := hk.2; first | (rcases hS with hS | hS; exact (hH k hk.1 hk.2).2 hS; omega) | (simp only [At] at hS; omega) | (simp only [At] at hS; subst hS; exact (hH _ hk.1 hk.2).1 hFt)))
        replace hB1 := hB1.upd hu4 (by first | exact (fun h => h) | (simp only [At]; omega) | (intro h; rcases h with h | h; (have := hGb _ h; omega); omega))
        obtain ⟨Ap, cp, rfl, hcp⟩ := Own.form hpl
        replace hpl := hpl.rd (by rw [hP]; omega)
        replace hd := hd.mono (F' := Grow G w4 w4) (fun k hk _ => by rcases hk with hk | hk; exact .inl hk; omega)
        refine WL.val rfl rfl rfl rfl (r_assign rfl (ev_t rfl)) ?_
        refine WL.nil ?_
        refine WX.keep [(0, _), (3, _), (5, _), (6, _)] ⟨rfl, rfl, rfl, rfl, trivial⟩ ?_
        refine WX.next ?_
        refine WC.seq ?_
        refine WC.seq ?_
        refine WC.region ?_
        refine WL.val rfl rfl rfl rfl (r_move rfl (ev_t rfl)) ?_
        refine WL.val rfl rfl rfl rfl (r_lenSlice (ts := #[]) rfl (ev_t rfl) elem_22) ?_
        refine WL.val rfl rfl rfl rfl (r_move rfl (ev_t rfl)) ?_
        refine WL.val rfl rfl rfl rfl (r_nilCheck rfl (ev_t rfl)) ?_
        first | refine WL.val rfl rfl rfl rfl (r_field0 rfl (ev_t rfl) fld_89_0) ?_ | refine WL.val rfl rfl rfl rfl (r_fieldAt rfl (ev_t rfl) fld_89_0) ?_
        refine WL.val rfl rfl rfl rfl (r_load rfl (ev_t rfl) flat_25 (Blk.cell hbt rfl)) ?_
        refine WL.cons (SO.call (Most_ok hd) rfl body_25 ⟨(ev_t rfl), trivial⟩ rfl rfl rfl rfl ?_)
        rintro v _ ⟨rfl, rfl⟩
        refine WL.val rfl rfl rfl rfl (r_gtr rfl (ev_t rfl) (ev_t rfl)) ?_
        refine WL.nil ?_
        refine WX.keep [(0, _), (3, _), (5, _), (6, _), (41, _)] ⟨rfl, rfl, rfl, rfl, rfl, trivial⟩ ?_
        refine WX.next ?_
        refine WC.cond rfl (ev_t rfl) (fun hc7 => ?_) (fun hc7 => ?_)
        · try (exfalso; first | (simp at hc7; done) | (simp only [decide_eq_true_eq, decide_eq_false_iff_not, Bool.not_eq_true', Bool.not_eq_false', Bool.not_eq_true, Bool.not_eq_false] at hc7; omega) | omega)
          all_goals
           try simp only [decide_eq_true_eq, decide_eq_false_iff_not, Bool.not_eq_true', Bool.not_eq_false', Bool.not_eq_true, Bool.not_eq_false, Option.isNone_none, Option.isNone_some, Option.isSome_none, Option.isSome_some, ne_eq, Decidable.not_not] at hc7
           refine WC.seq ?_
           refine WC.region ?_
           refine WL.val rfl rfl rfl rfl (r_assign rfl ev_c) ?_
           refine WL.nil ?_
           refine WX.keep [(4, _)] ⟨rfl, trivial⟩ ?_
           refine WX.next ?_
           refine WC.ret ?_
           refine WX.thenRet ?_
           refine WX.retE1 rfl rfl ?_
           have e1 : SS.save D 1 T x = (D, T, 13) := by rw [hsv, if_neg (by omega), if_pos (by omega)]
           rw [e1]
           exact ⟨rfl, hU, F, Grow G w4 w4, hkeep hbt hdr hU.size, hd, hsep (by omega), fun k hk => .inl hk, fun k hk => hk.elim .inl (fun h => by omega)⟩
        · try (exfalso; first | (simp at hc7; done) | (simp only [decide_eq_true_eq, decide_eq_false_iff_not, Bool.not_eq_true', Bool.not_eq_false', Bool.not_eq_true, Bool.not_eq_false] at hc7; omega) | omega)
          all_goals
           try simp only [decide_eq_true_eq, decide_eq_false_iff_not, Bool.not_eq_true', Bool.not_eq_false', Bool.not_eq_true, Bool.not_eq_false, Option.isNone_none, Option.isNone_some, Option.isSome_none, Option.isSome_some, ne_eq, Decidable.not_not] at hc7
           refine WC.skip ?_
           refine WX.next ?_
           refine WC.seq ?_
           refine WC.region ?_
           refine WL.val rfl rfl rfl rfl (r_move rfl (ev_t rfl)) ?_
           refine WL.val rfl rfl rfl rfl (r_nilCheck rfl (ev_t rfl)) ?_
           first | refine WL.val rfl rfl rfl rfl (r_field0 rfl (ev_t rfl) fld_89_0) ?_ | refine WL.val rfl rfl rfl rfl (r_fieldAt rfl (ev_t rfl) fld_89_0) ?_
           refine WL.val rfl rfl rfl rfl (r_load rfl (ev_t rfl) flat_25 (Blk.cell hbt rfl)) ?_
           refine WL.val rfl rfl rfl rfl (r_move rfl (ev_t rfl)) ?_
           refine WL.cons (SO.call (Write_good (G := No) (m := 0) (q := []) hd hlook (Rd.nil _ _ _) (fun k hk => hk.elim)) rfl body_18 ⟨(ev_t rfl), (ev_t rfl), ev_c, trivial⟩ rfl rfl rfl rfl ?_)
           rintro v w6 ⟨rfl, hd, hu6⟩
           have hs6 := hu6.size
           replace hU := hU.trans hu6 (by first | exact (fun _ _ h => h) | exact (fun _ _ h => h.elim) | (intro k hl hk; (try simp only [At, New, Grow, From, No] at hk ⊢); omega) | (intro k hl hk; first | exact .inr hk | (rcases hk with hk | hk; exact .inr hk; omega) | (simp only [At] at hk; subst hk; exact .inl hFt) | (simp only [At] at hk; omega)))
           replace hbt := hbt.upd hu6 (by first | exact (fun h => h) | (intro h; rcases h with h | h; exact hGt h; omega) | (simp only [At]; omega))
           replace hdr := hdr.upd hu6 (by first | exact (fun _ _ _ h => h) | (intro k hk hl hS; have hk' := hFD k hk; first | (rcases hS with hS | hS; exact hFG k hk'.1 hS; omega) | (simp only [At] at hS; omega) | (simp only [At] at hS; subst hS; exact hFDt hk)))
           replace hr := hr.upd hu6 (by first | exact (fun _ _ _ h => h) | (intro k hk hl hS; have hk' := hk.2; first | (rcases hS with hS | hS; exact (hH k hk.1 hk.2).2 hS; omega) | (simp only [At] at hS; omega) | (simp only [At] at hS; subst hS; exact (hH _ hk.1 hk.2).1 hFt)))
           replace hB1 := hB1.upd hu6 (by first | exact (fun h => h) | (simp only [At]; omega) | (intro h; rcases h with h | h; (have := hGb _ h; omega); omega))
           replace hpl := hpl.upd hu6 (by first | exact (fun _ _ _ h => h) | (intro k hk hl hS; simp only [New] at hk; first | (simp only [At] at hS; omega) | (rcases hS with hS | hS; (have := hGb _ hS; omega); omega)))
           replace hd := hd.mono (F' := Grow G w4 w6) (fun k hk _ => by rcases hk with (hk | hk) | hk; exact .inl hk; omega; exact .inr ⟨by omega, by omega⟩)
           refine WL.val rfl rfl rfl rfl (r_assign rfl (ev_t rfl)) ?_
           refine WL.nil ?_
           refine WX.keep [(0, _), (3, _), (5, _), (6, _), (7, _)] ⟨rfl, rfl, rfl, rfl, rfl, trivial⟩ ?_
           refine WX.next ?_
           refine WC.seq ?_
           refine WC.block ?_
           -- loop 1: live [0, 3, 5, 6, 7]
           refine WC.keep [(0, _), (3, _), (5, _), (6, _), (7, _)] ⟨rfl, rfl, rfl, rfl, rfl, trivial⟩ ?_
           refine WC.loop (fun q E w' => ∃ (k f e L : Nat) (Dk : DS) (A6 : Option Addr) (c6 : Nat), k ≤ P.length ∧ q = P.length - k ∧ L = P.length - k ∧ L ≤ f ∧ putAll P.length (D.write i []).1 i P (D.write i []).2 = putAll f Dk i (P.drop k) e ∧ Wr D i B0.sure P Dk e ∧ (e = 0 → Dk.l[i]? = some ⟨B0.sure, P.take k, true⟩) ∧ Upd (fun k => F k ∨ G k) w w' ∧ w6.heap.size ≤ w'.heap.size ∧   IsD w' (Grow G w4 w') p Dk ∧ Blk w' t (hdS p 1 T (.slice As T.s.data.length cs)) 89 ∧ Rd w' FD (.slice As T.s.data.length cs) T.s.data.length 1 (T.s.data.map U8) ∧ Blk w' w.heap.size #[.int .u64 (x.idx : Int), .int .u64 (x.term : Int), .slice Ax x.data.length cx] 50 ∧ Rd w' (fun k => H k ∧ k < w.heap.size) (.slice Ax x.data.length cx) x.data.length 1 (x.data.map U8) ∧   Rd w' (New w3 w4) (.slice A6 L c6) L 1 ((P.drop k).map U8) ∧   E = [(0, .pointer (some ⟨t, 0, none⟩)), (3, .pointer (some ⟨w.heap.size, 0, none⟩)), (5, .int .i64 (i : Int)), (6, .slice A6 L c6), (7, .int .i64 (e : Int))]) (P.length) ?_ ?_
           · exact ⟨0, P.length, _, P.length, _, Ap, cp, by omega, by omega, by omega, by omega, by rw [List.drop_zero], wr_start hB0 hoff harm (by omega), fun _ => by rw [List.take_zero]; exact write_now hB0 hoff (by omega), hU, by omega, hd, hbt, hdr, hB1, hr, by rw [List.drop_zero]; exact hpl, rfl⟩
           · clear hU hd hbt hdr hB1 hr hpl
             rintro q E w' ⟨k, f, e, L, Dk, A6, c6, hk, rfl, hL, hf, hput, hwr, hnow, hU, hw6, hd, hbt, hdr, hB1, hr, hpl, rfl⟩
             have hs0 := hU.size
             refine WC.seq ?_
             refine WC.seq ?_
             refine WC.region ?_
             refine WL.val rfl rfl rfl rfl (r_move rfl (ev_t rfl)) ?_
             refine WL.val rfl rfl rfl rfl (r_lenSlice (ts := #[]) rfl (ev_t rfl) elem_22) ?_
             refine WL.val rfl rfl rfl rfl (r_gtr rfl (ev_t rfl) ev_c) ?_
             refine WL.val rfl rfl rfl rfl (r_move rfl (ev_t rfl)) ?_
             refine WL.cases 51 rfl (fun hb10_3 => ?_) (fun hb10_3 => ?_)
             · try (exfalso; first | (simp at hb10_3; done) | (simp only [decide_eq_true_eq, decide_eq_false_iff_not, Bool.not_eq_true', Bool.not_eq_false', Bool.not_eq_true, Bool.not_eq_false] at hb10_3; omega) | omega)
               all_goals
                try simp only [decide_eq_true_eq, decide_eq_false_iff_not, Bool.not_eq_true', Bool.not_eq_false', Bool.not_eq_true, Bool.not_eq_false, Option.isNone_none, Option.isNone_some, Option.isSome_none, Option.isSome_some, ne_eq, Decidable.not_not] at hb10_3
                refine WL.val rfl rfl rfl rfl (r_move rfl (ev_t rfl)) ?_
                refine WL.val rfl rfl rfl rfl (r_eql rfl (ev_t rfl) ev_c) ?_
                refine WL.val rfl rfl rfl rfl (r_pickT rfl (ev_t rfl) (ev_t rfl)) ?_
                refine WL.nil ?_
                refine WX.keep [(0, _), (3, _), (5, _), (6, _), (7, _), (54, _)] ⟨rfl, rfl, rfl, rfl, rfl, rfl, trivial⟩ ?_
                refine WX.next ?_
                refine WC.cond rfl (ev_t rfl) (fun hc10 => ?_) (fun hc10 => ?_)
                · try (exfalso; first | (simp at hc10; done) | (simp only [decide_eq_true_eq, decide_eq_false_iff_not, Bool.not_eq_true', Bool.not_eq_false', Bool.not_eq_true, Bool.not_eq_false] at hc10; omega) | omega)
                  all_goals
                   try simp only [decide_eq_true_eq, decide_eq_false_iff_not, Bool.not_eq_true', Bool.not_eq_false', Bool.not_eq_true, Bool.not_eq_false, Option.isNone_none, Option.isNone_some, Option.isSome_none, Option.isSome_some, ne_eq, Decidable.not_not] at hc10
                   obtain rfl : e = 0 := by omega
                   have hkl : k < P.length := by omega
                   have hc6 := hpl.cap
                   have hnow0 := hnow rfl
                   have hoff' : Dk.off = false := by rcases hwr.code with hc | hc; exact hc.2; omega
                   have hlook' := look_of (D := Dk) (i := i) (by rw [hwr.len]; omega) hoff'
                   have hPm : (P.length : Int) ≤ D.most := by omega
                   obtain ⟨hwr2, m, hm, hn2⟩ := wr_append hwr hPm hk hnow0
                   obtain ⟨f', rfl⟩ : ∃ f', f = f' + 1 := ⟨f - 1, by omega⟩
                   have hpd : P.drop k ≠ [] := fun h => by have := congrArg List.length h; rw [List.length_drop, List.length_nil] at this; omega
                   rw [putAll_step hpd rfl] at hput
                   refine WC.skip ?_
                   refine WX.next ?_
                   refine WC.block ?_
                   refine WC.seq ?_
                   refine WC.region ?_
                   refine WL.val rfl rfl rfl rfl (r_move rfl (ev_t rfl)) ?_
                   refine WL.val rfl rfl rfl rfl (r_lenSlice (ts := #[]) rfl (ev_t rfl) elem_22) ?_
                   refine WL.val rfl rfl rfl rfl (r_min rfl (ev_t rfl) ev_c) ?_
                   refine WL.val rfl rfl rfl rfl (r_assign rfl (ev_t rfl)) ?_
                   refine WL.nil ?_
                   refine WX.keep [(0, _), (3, _), (5, _), (6, _), (8, _)] ⟨rfl, rfl, rfl, rfl, rfl, trivial⟩ ?_
                   obtain ⟨nn, hnn, hn3⟩ : ∃ nn : Nat, (if (500 : Int) < (L : Int) then 500 else (L : Int)) = (nn : Int) ∧ nn = min 500 L := by
                     split
                     · exact ⟨500, rfl, by omega⟩
                     · exact ⟨L, rfl, by omega⟩
                   rw [hnn]
                   refine WX.next ?_
                   refine WC.seq ?_
                   refine WC.draws' (fun u0_ u1_ => Upd No u0_ u1_) (fun j => [0, 0, 0, 2, 0, 0, 0, 0, 2, 0].getD j 0) (.calm 0 (.calm 1 (.calm 2 (.calm 4 (.calm 5 (.calm 6 (.calm 7 (.one 3 (.one 8 (.calm 9 (.done))))))))))) mixed (by kernel_rfl) (by repeat (first | with_reducible exact Deaf.body | with_reducible apply Deaf.then | with_reducible apply Deaf.block)) ?_
                   intro w7 hu7
                   have hz7 := congrArg Array.size hu7.2.2.2
                   replace hu7 := Upd.of_draw hu7
                   have hs7 := hu7.size
                   replace hU := hU.trans hu7 (by first | exact (fun _ _ h => h) | exact (fun _ _ h => h.elim) | (intro k hl hk; (try simp only [At, New, Grow, From, No] at hk ⊢); omega) | (intro k hl hk; first | exact .inr hk | (rcases hk with hk | hk; exact .inr hk; omega) | (simp only [At] at hk; subst hk; exact .inl hFt) | (simp only [At] at hk; omega)))
                   replace hd := hd.upd hu7 (by first | exact (fun _ _ _ h => h) | (intro k hk hl hS; simp only [At] at hS; subst hS; rcases hk with hk | hk; (first | exact hGt hk | (have := hGb _ hk; omega)); omega))
                   replace hbt := hbt.upd hu7 (by first | exact (fun h => h) | (intro h; rcases h with h | h; exact hGt h; omega) | (simp only [At]; omega))
                   replace hdr := hdr.upd hu7 (by first | exact (fun _ _ _ h => h) | (intro k hk hl hS; have hk' := hFD k hk; first | (rcases hS with hS | hS; exact hFG k hk'.1 hS; omega) | (simp only [At] at hS; omega) | (simp only [At] at hS; subst hS; exact hFDt hk)))
                   replace hr := hr.upd hu7 (by first | exact (fun _ _ _ h => h) | (intro k hk hl hS; have hk' := hk.2; first | (rcases hS with hS | hS; exact (hH k hk.1 hk.2).2 hS; omega) | (simp only [At] at hS; omega) | (simp only [At] at hS; subst hS; exact (hH _ hk.1 hk.2).1 hFt)))
                   replace hB1 := hB1.upd hu7 (by first | exact (fun h => h) | (simp only [At]; omega) | (intro h; rcases h with h | h; (have := hGb _ h; omega); omega))
                   replace hpl := hpl.upd hu7 (by first | exact (fun _ _ _ h => h) | (intro k hk hl hS; simp only [New] at hk; first | (simp only [At] at hS; omega) | (rcases hS with hS | hS; (have := hGb _ hS; omega); omega)))
                   refine WN.calm _ rfl rfl rfl rfl rfl (fun _ => r_move rfl (ev_t rfl)) ?_
                   refine WN.calm _ rfl rfl rfl rfl rfl (fun _ => r_nilCheck rfl (ev_t rfl)) ?_
                   first | refine WN.calm _ rfl rfl rfl rfl rfl (fun _ => r_field0 rfl (ev_t rfl) fld_89_0) ?_ | refine WN.calm _ rfl rfl rfl rfl rfl (fun _ => r_fieldAt rfl (ev_t rfl) fld_89_0) ?_
                   refine WN.calm _ rfl rfl rfl rfl rfl (fun _ => r_move rfl (ev_t rfl)) ?_
                   refine WN.calm _ rfl rfl rfl rfl rfl (fun _ => r_move rfl (ev_t rfl)) ?_
                   refine WN.calm _ rfl rfl rfl rfl rfl (fun _ => r_move rfl (ev_t rfl)) ?_
                   refine WN.calm _ rfl rfl rfl rfl rfl (fun _ => r_slice (l := 0) (h := nn) rfl (ev_t rfl) elem_22 size_5 bnd_none (bnd_some (ev_t rfl) (by omega)) (by omega) (by omega) (by omega)) ?_
                   refine WN.step _ rfl (SO.val rfl rfl rfl rfl (r_load rfl (ev_t rfl) flat_25 (Blk.cell hbt rfl)) ?_)
                   refine ⟨trivial, ?_⟩
                   refine WN.step _ rfl (SO.call (Append_good hd hlook' (hpl.sliceB (lo := 0) (h := nn) (by omega) (by omega)) (fun k hk hl hg => by simp only [New] at hk; rcases hg with hg | hg; (have := hGb _ hg; omega); omega)) rfl body_16 ⟨(ev_t rfl), (ev_t rfl), (ev_t rfl), trivial⟩ rfl rfl rfl rfl ?_)
                   rintro v w8 ⟨rfl, hd, hu8⟩
                   rw [show ((P.drop k).drop 0).take (nn - 0) = (P.drop k).take 500 by rw [List.drop_zero, Nat.sub_zero]; exact take_same (by rw [List.length_drop]; omega)] at hd ⊢
                   have hs8 := hu8.size
                   replace hU := hU.trans hu8 (by first | exact (fun _ _ h => h) | exact (fun _ _ h => h.elim) | (intro k hl hk; (try simp only [At, New, Grow, From, No] at hk ⊢); omega) | (intro k hl hk; first | exact .inr hk | (rcases hk with hk | hk; exact .inr hk; omega) | (simp only [At] at hk; subst hk; exact .inl hFt) | (simp only [At] at hk; omega)))
                   replace hbt := hbt.upd hu8 (by first | exact (fun h => h) | (intro h; rcases h with h | h; exact hGt h; omega) | (simp only [At]; omega))
                   replace hdr := hdr.upd hu8 (by first | exact (fun _ _ _ h => h) | (intro k hk hl hS; have hk' := hFD k hk; first | (rcases hS with hS | hS; exact hFG k hk'.1 hS; omega) | (simp only [At] at hS; omega) | (simp only [At] at hS; subst hS; exact hFDt hk)))
                   replace hr := hr.upd hu8 (by first | exact (fun _ _ _ h => h) | (intro k hk hl hS; have hk' := hk.2; first | (rcases hS with hS | hS; exact (hH k hk.1 hk.2).2 hS; omega) | (simp only [At] at hS; omega) | (simp only [At] at hS; subst hS; exact (hH _ hk.1 hk.2).1 hFt)))
                   replace hB1 := hB1.upd hu8 (by first | exact (fun h => h) | (simp only [At]; omega) | (intro h; rcases h with h | h; (have := hGb _ h; omega); omega))
                   replace hpl := hpl.upd hu8 (by first | exact (fun _ _ _ h => h) | (intro k hk hl hS; simp only [New] at hk; first | (simp only [At] at hS; omega) | (rcases hS with hS | hS; (have := hGb _ hS; omega); omega)))
                   replace hd := hd.mono (F' := Grow G w4 w8) (fun k hk _ => by rcases hk with (hk | hk) | hk; exact .inl hk; exact .inr ⟨by omega, by omega⟩; exact .inr ⟨by omega, by omega⟩)
                   refine ⟨trivial, ?_⟩
                   refine WN.calm _ rfl rfl rfl rfl rfl (fun _ => r_assign rfl (ev_t rfl)) ?_
                   refine WN.done ?_
                   refine WX.keep [(0, _), (3, _), (5, _), (6, _), (7, _), (8, _)] ⟨rfl, rfl, rfl, rfl, rfl, rfl, trivial⟩ ?_
                   refine WX.next ?_
                   refine WC.region ?_
                   refine WL.val rfl rfl rfl rfl (r_move rfl (ev_t rfl)) ?_
                   refine WL.val rfl rfl rfl rfl (r_move rfl (ev_t rfl)) ?_
                   refine WL.val rfl rfl rfl rfl (r_slice (l := nn) (h := L) rfl (ev_t rfl) elem_22 size_5 (bnd_some (ev_t rfl) (by omega)) bnd_none (by omega) (by omega) (by omega)) ?_
                   refine WL.val rfl rfl rfl rfl (r_assign rfl (ev_t rfl)) ?_
                   refine WL.nil ?_
                   refine WX.keep [(0, _), (3, _), (5, _), (6, _), (7, _)] ⟨rfl, rfl, rfl, rfl, rfl, trivial⟩ ?_
                   have hp2 := hpl.sliceB (lo := nn) (h := L) (by omega) (by omega)
                   have ed : ((P.drop k).drop nn).take (L - nn) = P.drop m := by
                     rw [List.drop_drop, show k + nn = m by omega, List.take_of_length_le (by rw [List.length_drop]; omega)]
                   rw [ed] at hp2
                   have e5 : (P.drop k).drop 500 = P.drop m := by
                     rw [List.drop_drop]
                     by_cases h5 : k + 500 ≤ P.length
                     · rw [hm]; congr 1; omega
                     · rw [List.drop_of_length_le (by omega), List.drop_of_length_le (by omega)]
                   rw [e5] at hput
                   refine WX.blockNormal ?_
                   refine WX.meet [(0, _), (3, _), (5, _), (6, _), (7, _)] ⟨rfl, rfl, rfl, rfl, rfl, trivial⟩ ?_
                   exact ⟨P.length - m, by omega, m, f', _, L - nn, _, _, _, by omega, rfl, by omega, by omega, hput, hwr2, fun _ => hn2, hU, by omega, hd, hbt, hdr, hB1, hr, hp2, rfl⟩
                · try (exfalso; first | (simp at hc10; done) | (simp only [decide_eq_true_eq, decide_eq_false_iff_not, Bool.not_eq_true', Bool.not_eq_false', Bool.not_eq_true, Bool.not_eq_false] at hc10; omega) | omega)
                  all_goals
                   try simp only [decide_eq_true_eq, decide_eq_false_iff_not, Bool.not_eq_true', Bool.not_eq_false', Bool.not_eq_true, Bool.not_eq_false, Option.isNone_none, Option.isNone_some, Option.isSome_none, Option.isSome_some, ne_eq, Decidable.not_not] at hc10
                   have hdone : P.drop k = [] ∨ e ≠ 0 := by
                     by_cases h0 : e = 0
                     · exact .inl (List.drop_of_length_le (by omega))
                     · exact .inr h0
                   rw [putAll_done hdone] at hput
                   refine WC.exit ?_
                   refine WX.thenExit ?_
                   refine WX.thenExit ?_
                   refine WX.blockHere ?_
                   refine WX.next ?_
                   refine WC.seq ?_
                   refine WC.seq ?_
                   refine WC.region ?_
                   refine WL.val rfl rfl rfl rfl (r_move rfl (ev_t rfl)) ?_
                   refine WL.val rfl rfl rfl rfl (r_eql rfl (ev_t rfl) ev_c) ?_
                   refine WL.nil ?_
                   refine WX.keep [(0, _), (3, _), (5, _), (7, _), (71, _)] ⟨rfl, rfl, rfl, rfl, rfl, trivial⟩ ?_
                   refine WX.next ?_
                   refine WC.cond rfl (ev_t rfl) (fun hc14 => ?_) (fun hc14 => ?_)
                   · try (exfalso; first | (simp at hc14; done) | (simp only [decide_eq_true_eq, decide_eq_false_iff_not, Bool.not_eq_true', Bool.not_eq_false', Bool.not_eq_true, Bool.not_eq_false] at hc14; omega) | omega)
                     all_goals
                      try simp only [decide_eq_true_eq, decide_eq_false_iff_not, Bool.not_eq_true', Bool.not_eq_false', Bool.not_eq_true, Bool.not_eq_false, Option.isNone_none, Option.isNone_some, Option.isSome_none, Option.isSome_some, ne_eq, Decidable.not_not] at hc14
                      obtain rfl : e = 0 := by omega
                      have hoff' : Dk.off = false := by rcases hwr.code with hc | hc; exact hc.2; omega
                      have hlook' := look_of (D := Dk) (i := i) (by rw [hwr.len]; omega) hoff'
                      have hsd : saveD D i P = Dk.sync i := by unfold saveD; rw [hput]; rfl
                      have hPm : (P.length : Int) ≤ D.most := by omega
                      refine WC.region ?_
                      refine WL.val rfl rfl rfl rfl (r_move rfl (ev_t rfl)) ?_
                      refine WL.val rfl rfl rfl rfl (r_nilCheck rfl (ev_t rfl)) ?_
                      first | refine WL.val rfl rfl rfl rfl (r_field0 rfl (ev_t rfl) fld_89_0) ?_ | refine WL.val rfl rfl rfl rfl (r_fieldAt rfl (ev_t rfl) fld_89_0) ?_
                      refine WL.val rfl rfl rfl rfl (r_load rfl (ev_t rfl) flat_25 (Blk.cell hbt rfl)) ?_
                      refine WL.val rfl rfl rfl rfl (r_move rfl (ev_t rfl)) ?_
                      refine WL.cons (SO.call (Sync_good hd hlook') rfl body_17 ⟨(ev_t rfl), (ev_t rfl), trivial⟩ rfl rfl rfl rfl ?_)
                      rintro v w9 ⟨rfl, hd, hu9⟩
                      rw [← hsd] at hd ⊢
                      have hs9 := hu9.size
                      replace hU := hU.trans hu9 (by first | exact (fun _ _ h => h) | exact (fun _ _ h => h.elim) | (intro k hl hk; (try simp only [At, New, Grow, From, No] at hk ⊢); omega) | (intro k hl hk; first | exact .inr hk | (rcases hk with hk | hk; exact .inr hk; omega) | (simp only [At] at hk; subst hk; exact .inl hFt) | (simp only [At] at hk; omega)))
                      replace hbt := hbt.upd hu9 (by first | exact (fun h => h) | (intro h; rcases h with h | h; exact hGt h; omega) | (simp only [At]; omega))
                      replace hdr := hdr.upd hu9 (by first | exact (fun _ _ _ h => h) | (intro k hk hl hS; have hk' := hFD k hk; first | (rcases hS with hS | hS; exact hFG k hk'.1 hS; omega) | (simp only [At] at hS; omega) | (simp only [At] at hS; subst hS; exact hFDt hk)))
                      replace hr := hr.upd hu9 (by first | exact (fun _ _ _ h => h) | (intro k hk hl hS; have hk' := hk.2; first | (rcases hS with hS | hS; exact (hH k hk.1 hk.2).2 hS; omega) | (simp only [At] at hS; omega) | (simp only [At] at hS; subst hS; exact (hH _ hk.1 hk.2).1 hFt)))
                      replace hB1 := hB1.upd hu9 (by first | exact (fun h => h) | (simp only [At]; omega) | (intro h; rcases h with h | h; (have := hGb _ h; omega); omega))
                      replace hpl := hpl.upd hu9 (by first | exact (fun _ _ _ h => h) | (intro k hk hl hS; simp only [New] at hk; first | (simp only [At] at hS; omega) | (rcases hS with hS | hS; (have := hGb _ hS; omega); omega)))
                      replace hd := hd.mono (F' := Grow G w4 w9) (fun k hk _ => by rcases hk with (hk | hk) | hk; exact .inl hk; exact .inr ⟨by omega, by omega⟩; exact .inr ⟨by omega, by omega⟩)
                      refine WL.val rfl rfl rfl rfl (r_assign rfl (ev_t rfl)) ?_
                      refine WL.nil ?_
                      refine WX.keep [(0, _), (3, _), (7, _)] ⟨rfl, rfl, rfl, trivial⟩ ?_
                      refine WX.next ?_
                      refine WC.seq ?_
                      refine WC.seq ?_
                      refine WC.region ?_
                      refine WL.val rfl rfl rfl rfl (r_move rfl (ev_t rfl)) ?_
                      refine WL.val rfl rfl rfl rfl (r_neq rfl (ev_t rfl) ev_c) ?_
                      refine WL.nil ?_
                      refine WX.keep [(0, _), (3, _), (7, _), (79, _)] ⟨rfl, rfl, rfl, rfl, trivial⟩ ?_
                      refine WX.next ?_
                      refine WC.cond rfl (ev_t rfl) (fun hc16 => ?_) (fun hc16 => ?_)
                      · try (exfalso; first | (simp at hc16; done) | (simp only [decide_eq_true_eq, decide_eq_false_iff_not, Bool.not_eq_true', Bool.not_eq_false', Bool.not_eq_true, Bool.not_eq_false] at hc16; omega) | omega)
                        all_goals
                         try simp only [decide_eq_true_eq, decide_eq_false_iff_not, Bool.not_eq_true', Bool.not_eq_false', Bool.not_eq_true, Bool.not_eq_false, Option.isNone_none, Option.isNone_some, Option.isSome_none, Option.isSome_some, ne_eq, Decidable.not_not] at hc16
                         refine WC.seq ?_
                         refine WC.region ?_
                         refine WL.val rfl rfl rfl rfl (r_move rfl (ev_t rfl)) ?_
                         refine WL.val rfl rfl rfl rfl (r_assign rfl (ev_t rfl)) ?_
                         refine WL.nil ?_
                         refine WX.keep [(4, _)] ⟨rfl, trivial⟩ ?_
                         refine WX.next ?_
                         refine WC.ret ?_
                         refine WX.thenRet ?_
                         refine WX.retE1 rfl rfl ?_
                         first
                           | (have hz : (saveD D i P).2 ≠ 0 := by omega
                              have e1 : SS.save D 1 T x = ((saveD D i P).1, T, (saveD D i P).2) := by rw [hsv, if_neg (by omega), if_neg (by omega), if_neg hz]
                              rw [e1]
                              exact ⟨rfl, hU, F, _, hkeep hbt hdr hU.size, hd, hsep (by omega), fun k hk => .inl hk, fun k hk => hk.elim .inl (fun h => .inr ⟨by omega, by omega⟩)⟩)
                           | (have e1 : SS.save D 1 T x = (Dk, T, e) := by rw [hsv, if_neg (by omega), if_neg (by omega), hsd]; simp only; rw [if_neg (by omega)]
                              rw [e1]
                              exact ⟨rfl, hU, F, _, hkeep hbt hdr hU.size, hd, hsep (by omega), fun k hk => .inl hk, fun k hk => hk.elim .inl (fun h => .inr ⟨by omega, by omega⟩)⟩)
                      · try (exfalso; first | (simp at hc16; done) | (simp only [decide_eq_true_eq, decide_eq_false_iff_not, Bool.not_eq_true', Bool.not_eq_false', Bool.not_eq_true, Bool.not_eq_false] at hc16; omega) | omega)
                        all_goals
                         try simp only [decide_eq_true_eq, decide_eq_false_iff_not, Bool.not_eq_true', Bool.not_eq_false', Bool.not_eq_true, Bool.not_eq_false, Option.isNone_none, Option.isNone_some, Option.isSome_none, Option.isSome_some, ne_eq, Decidable.not_not] at hc16
                         refine WC.skip ?_
                         refine WX.next ?_
                         refine WC.seq ?_
                         refine WC.region ?_
                         first | refine WL.val rfl rfl rfl rfl (r_field0 rfl (ev_t rfl) fld_50_2) ?_ | refine WL.val rfl rfl rfl rfl (r_fieldAt rfl (ev_t rfl) fld_50_2) ?_
                         refine WL.val rfl rfl rfl rfl (r_load rfl (ev_t rfl) flat_22 (Blk.cell hB1 rfl)) ?_
                         refine WL.val rfl rfl rfl rfl (r_lenSlice (ts := #[]) rfl (ev_t rfl) elem_22) ?_
                         obtain ⟨wd, hwd⟩ : ∃ wd, wd = w9.heap.size := ⟨_, rfl⟩
                         replace hd := hd.mono (F' := fun k => G k ∨ (w4.heap.size ≤ k ∧ k < wd)) (fun k hk _ => hk.elim .inl (fun h => .inr ⟨h.1, by omega⟩))
                         refine WL.cons (SO.alloc rfl rfl rfl rfl (r_makeSlice (n := x.data.length) rfl (ev_t rfl) (ev_t rfl) row_22 (by omega) (by omega)) ?_)
                         intro w10 hu10 hBd hzd
                         have hs10 := hu10.size
                         replace hU := hU.trans hu10 (by first | exact (fun _ _ h => h) | exact (fun _ _ h => h.elim) | (intro k hl hk; (try simp only [At, New, Grow, From, No] at hk ⊢); omega) | (intro k hl hk; first | exact .inr hk | (rcases hk with hk | hk; exact .inr hk; omega) | (simp only [At] at hk; subst hk; exact .inl hFt) | (simp only [At] at hk; omega)))
                         replace hd := hd.upd hu10 (by first | exact (fun _ _ _ h => h) | (intro k hk hl hS; simp only [At] at hS; subst hS; rcases hk with hk | hk; (first | exact hGt hk | (have := hGb _ hk; omega)); omega))
                         replace hbt := hbt.upd hu10 (by first | exact (fun h => h) | (intro h; rcases h with h | h; exact hGt h; omega) | (simp only [At]; omega))
                         replace hdr := hdr.upd hu10 (by first | exact (fun _ _ _ h => h) | (intro k hk hl hS; have hk' := hFD k hk; first | (rcases hS with hS | hS; exact hFG k hk'.1 hS; omega) | (simp only [At] at hS; omega) | (simp only [At] at hS; subst hS; exact hFDt hk)))
                         replace hr := hr.upd hu10 (by first | exact (fun _ _ _ h => h) | (intro k hk hl hS; have hk' := hk.2; first | (rcases hS with hS | hS; exact (hH k hk.1 hk.2).2 hS; omega) | (simp only [At] at hS; omega) | (simp only [At] at hS; subst hS; exact (hH _ hk.1 hk.2).1 hFt)))
                         replace hB1 := hB1.upd hu10 (by first | exact (fun h => h) | (simp only [At]; omega) | (intro h; rcases h with h | h; (have := hGb _ h; omega); omega))
                         replace hpl := hpl.upd hu10 (by first | exact (fun _ _ _ h => h) | (intro k hk hl hS; simp only [New] at hk; first | (simp only [At] at hS; omega) | (rcases hS with hS | hS; (have := hGb _ hS; omega); omega)))
                         refine WL.val rfl rfl rfl rfl (r_assign rfl (ev_t rfl)) ?_
                         refine WL.nil ?_
                         refine WX.keep [(0, _), (3, _), (9, _)] ⟨rfl, rfl, rfl, trivial⟩ ?_
                         refine WX.next ?_
                         refine WC.seq ?_
                         refine WC.region ?_
                         refine WL.val rfl rfl rfl rfl (r_move rfl (ev_t rfl)) ?_
                         first | refine WL.val rfl rfl rfl rfl (r_field0 rfl (ev_t rfl) fld_50_2) ?_ | refine WL.val rfl rfl rfl rfl (r_fieldAt rfl (ev_t rfl) fld_50_2) ?_
                         refine WL.val rfl rfl rfl rfl (r_load rfl (ev_t rfl) flat_22 (Blk.cell hB1 rfl)) ?_
                         refine WL.cons (SO.copyAll hBd (rowCells_size _) hr (U8_one _) elem_22 size_5 rfl (ev_t rfl) (ev_t rfl) rfl rfl rfl rfl ?_)
                         intro w11 hu11 hBd hzd2
                         have hs11 := hu11.size
                         replace hU := hU.trans hu11 (by first | exact (fun _ _ h => h) | exact (fun _ _ h => h.elim) | (intro k hl hk; (try simp only [At, New, Grow, From, No] at hk ⊢); omega) | (intro k hl hk; first | exact .inr hk | (rcases hk with hk | hk; exact .inr hk; omega) | (simp only [At] at hk; subst hk; exact .inl hFt) | (simp only [At] at hk; omega)))
                         replace hd := hd.upd hu11 (by first | exact (fun _ _ _ h => h) | (intro k hk hl hS; simp only [At] at hS; subst hS; rcases hk with hk | hk; (first | exact hGt hk | (have := hGb _ hk; omega)); omega))
                         replace hbt := hbt.upd hu11 (by first | exact (fun h => h) | (intro h; rcases h with h | h; exact hGt h; omega) | (simp only [At]; omega))
                         replace hdr := hdr.upd hu11 (by first | exact (fun _ _ _ h => h) | (intro k hk hl hS; have hk' := hFD k hk; first | (rcases hS with hS | hS; exact hFG k hk'.1 hS; omega) | (simp only [At] at hS; omega) | (simp only [At] at hS; subst hS; exact hFDt hk)))
                         replace hr := hr.upd hu11 (by first | exact (fun _ _ _ h => h) | (intro k hk hl hS; have hk' := hk.2; first | (rcases hS with hS | hS; exact (hH k hk.1 hk.2).2 hS; omega) | (simp only [At] at hS; omega) | (simp only [At] at hS; subst hS; exact (hH _ hk.1 hk.2).1 hFt)))
                         replace hB1 := hB1.upd hu11 (by first | exact (fun h => h) | (simp only [At]; omega) | (intro h; rcases h with h | h; (have := hGb _ h; omega); omega))
                         refine WL.nil ?_
                         refine WX.keep [(0, _), (3, _), (9, _)] ⟨rfl, rfl, rfl, trivial⟩ ?_
                         refine WX.next ?_
                         refine WC.seq ?_
                         refine WC.draws' (fun u0_ u1_ => Upd (At t) u0_ u1_) (fun j => [0, 0, 0, 0, 0, 1, 0, 0, 0, 0, 0, 0, 0, 0, 0, 1, 0, 0, 2].getD j 0) (.calm 0 (.calm 1 (.calm 2 (.calm 3 (.calm 4 (.calm 7 (.calm 9 (.calm 11 (.held 8 (.held 10 (.calm 12 (.one 5 (.calm 6 (.calm 13 (.calm 14 (.one 15 (.calm 16 (.calm 17 (.one 18 (.done)))))))))))))))))))) mixed (by kernel_rfl) (by repeat (first | with_reducible exact Deaf.body | with_reducible apply Deaf.then | with_reducible apply Deaf.block)) ?_
                         intro w12 hu12
                         have hz12 := congrArg Array.size hu12.2.2.2
                         replace hu12 := Upd.of_draw hu12
                         have hs12 := hu12.size
                         replace hU := hU.trans hu12 (by first | exact (fun _ _ h => h) | exact (fun _ _ h => h.elim) | (intro k hl hk; (try simp only [At, New, Grow, From, No] at hk ⊢); omega) | (intro k hl hk; first | exact .inr hk | (rcases hk with hk | hk; exact .inr hk; omega) | (simp only [At] at hk; subst hk; exact .inl hFt) | (simp only [At] at hk; omega)))
                         replace hd := hd.upd hu12 (by first | exact (fun _ _ _ h => h) | (intro k hk hl hS; simp only [At] at hS; subst hS; rcases hk with hk | hk; (first | exact hGt hk | (have := hGb _ hk; omega)); omega))
                         replace hbt := hbt.upd hu12 (by first | exact (fun h => h) | (intro h; rcases h with h | h; exact hGt h; omega) | (simp only [At]; omega))
                         replace hdr := hdr.upd hu12 (by first | exact (fun _ _ _ h => h) | (intro k hk hl hS; have hk' := hFD k hk; first | (rcases hS with hS | hS; exact hFG k hk'.1 hS; omega) | (simp only [At] at hS; omega) | (simp only [At] at hS; subst hS; exact hFDt hk)))
                         replace hr := hr.upd hu12 (by first | exact (fun _ _ _ h => h) | (intro k hk hl hS; have hk' := hk.2; first | (rcases hS with hS | hS; exact (hH k hk.1 hk.2).2 hS; omega) | (simp only [At] at hS; omega) | (simp only [At] at hS; subst hS; exact (hH _ hk.1 hk.2).1 hFt)))
                         replace hB1 := hB1.upd hu12 (by first | exact (fun h => h) | (simp only [At]; omega) | (intro h; rcases h with h | h; (have := hGb _ h; omega); omega))
                         replace hBd := hBd.upd hu12 (by first | exact (fun h => h) | (simp only [At]; omega))
                         have hS20 := Upd.refl (At t) w12
                         refine WN.calm _ rfl rfl rfl rfl rfl (fun _ => r_move rfl (ev_t rfl)) ?_
                         refine WN.calm _ rfl rfl rfl rfl rfl (fun _ => r_move rfl (ev_t rfl)) ?_
                         refine WN.calm _ rfl rfl rfl rfl rfl (fun _ => r_move rfl (ev_t rfl)) ?_
                         refine WN.calm _ rfl rfl rfl rfl rfl (fun _ => r_nilCheck rfl (ev_t rfl)) ?_
                         first | refine WN.calm _ rfl rfl rfl rfl rfl (fun _ => r_field0 rfl (ev_t rfl) fld_89_2) ?_ | refine WN.calm _ rfl rfl rfl rfl rfl (fun _ => r_fieldAt rfl (ev_t rfl) fld_89_2) ?_
                         first | refine WN.calm _ rfl rfl rfl rfl rfl (fun _ => r_field0 rfl (ev_t rfl) fld_50_0) ?_ | refine WN.calm _ rfl rfl rfl rfl rfl (fun _ => r_fieldAt rfl (ev_t rfl) fld_50_0) ?_
                         first | refine WN.calm _ rfl rfl rfl rfl rfl (fun _ => r_field0 rfl (ev_t rfl) fld_50_1) ?_ | refine WN.calm _ rfl rfl rfl rfl rfl (fun _ => r_fieldAt rfl (ev_t rfl) fld_50_1) ?_
                         refine WN.calm _ rfl rfl rfl rfl rfl (fun _ => r_move rfl (ev_t rfl)) ?_
                         refine WN.held _ rfl rfl rfl rfl rfl hS20 (fun w' hS => r_load rfl (ev_t rfl) flat_48 (Blk.cell (hB1.upd hS (by (try simp only [At, From, No, Grow, New]); omega)) rfl)) ?_
                         refine WN.held _ rfl rfl rfl rfl rfl hS20 (fun w' hS => r_load rfl (ev_t rfl) flat_48 (Blk.cell (hB1.upd hS (by (try simp only [At, From, No, Grow, New]); omega)) rfl)) ?_
                         refine WN.calm _ rfl rfl rfl rfl rfl (fun _ => r_build (cs := #[_, _, _]) (vs := [(0, _), (1, _), (2, _)]) rfl ⟨⟨rfl, (ev_t rfl)⟩, ⟨rfl, (ev_t rfl)⟩, ⟨rfl, (ev_t rfl)⟩, trivial⟩ plc_50 zero_50 rfl) ?_
                         refine WN.step _ rfl (SO.val rfl rfl rfl rfl (r_load rfl (ev_t rfl) flat_3 (Blk.cell hbt rfl)) ?_)
                         refine ⟨hS20, ?_⟩
                         first | refine WN.calm _ rfl rfl rfl rfl rfl (fun _ => r_subN rfl ev_c (ev_t rfl) (by simp only [inK]; omega)) ?_ | refine WN.calm _ rfl rfl rfl rfl rfl (fun _ => r_sub rfl ev_c (ev_t rfl)) ?_
                         refine WN.calm _ rfl rfl rfl rfl rfl (fun _ => r_nilCheck rfl (ev_t rfl)) ?_
                         first | refine WN.calm _ rfl rfl rfl rfl rfl (fun _ => r_field0 rfl (ev_t rfl) fld_89_2) ?_ | refine WN.calm _ rfl rfl rfl rfl rfl (fun _ => r_fieldAt rfl (ev_t rfl) fld_89_2) ?_
                         rw [show (1 : Int) - (T.side : Int) = ((1 - T.side : Nat) : Int) by omega]
                         refine WN.step _ rfl (SO.store rfl (ev_t rfl) (ev_t rfl) size_3 hbt rfl rfl rfl rfl rfl ?_)
                         intro w13 hu13 hbt hz13
                         have hs13 := hu13.size
                         replace hS20 := Upd.transA hS20 hu13
                         replace hU := hU.trans hu13 (by first | exact (fun _ _ h => h) | exact (fun _ _ h => h.elim) | (intro k hl hk; (try simp only [At, New, Grow, From, No] at hk ⊢); omega) | (intro k hl hk; first | exact .inr hk | (rcases hk with hk | hk; exact .inr hk; omega) | (simp only [At] at hk; subst hk; exact .inl hFt) | (simp only [At] at hk; omega)))
                         replace hd := hd.upd hu13 (by first | exact (fun _ _ _ h => h) | (intro k hk hl hS; simp only [At] at hS; subst hS; rcases hk with hk | hk; (first | exact hGt hk | (have := hGb _ hk; omega)); omega))
                         replace hdr := hdr.upd hu13 (by first | exact (fun _ _ _ h => h) | (intro k hk hl hS; have hk' := hFD k hk; first | (rcases hS with hS | hS; exact hFG k hk'.1 hS; omega) | (simp only [At] at hS; omega) | (simp only [At] at hS; subst hS; exact hFDt hk)))
                         replace hr := hr.upd hu13 (by first | exact (fun _ _ _ h => h) | (intro k hk hl hS; have hk' := hk.2; first | (rcases hS with hS | hS; exact (hH k hk.1 hk.2).2 hS; omega) | (simp only [At] at hS; omega) | (simp only [At] at hS; subst hS; exact (hH _ hk.1 hk.2).1 hFt)))
                         replace hB1 := hB1.upd hu13 (by first | exact (fun h => h) | (simp only [At]; omega) | (intro h; rcases h with h | h; (have := hGb _ h; omega); omega))
                         replace hBd := hBd.upd hu13 (by first | exact (fun h => h) | (simp only [At]; omega))
                         refine ⟨hS20, ?_⟩
                         refine WN.calm _ rfl rfl rfl rfl rfl (fun _ => r_nilCheck rfl (ev_t rfl)) ?_
                         first | refine WN.calm _ rfl rfl rfl rfl rfl (fun _ => r_field0 rfl (ev_t rfl) fld_89_3) ?_ | refine WN.calm _ rfl rfl rfl rfl rfl (fun _ => r_fieldAt rfl (ev_t rfl) fld_89_3) ?_
                         refine WN.step _ rfl (SO.storeN (us := [_, _, _]) rfl (ev_t rfl) (ev_t rfl) size_50 hbt (Nat.le_of_ble_eq_true rfl) rfl rfl rfl rfl ?_)
                         intro w14 hu14 hbt hzt
                         have hs14 := hu14.size
                         try replace hS20 := Upd.transA hS20 hu14
                         replace hU := hU.trans hu14 (by first | exact (fun _ _ h => h) | exact (fun _ _ h => h.elim) | (intro k hl hk; (try simp only [At, New, Grow, From, No] at hk ⊢); omega) | (intro k hl hk; first | exact .inr hk | (rcases hk with hk | hk; exact .inr hk; omega) | (simp only [At] at hk; subst hk; exact .inl hFt) | (simp only [At] at hk; omega)))
                         replace hd := hd.upd hu14 (by first | exact (fun _ _ _ h => h) | (intro k hk hl hS; simp only [At] at hS; subst hS; rcases hk with hk | hk; (first | exact hGt hk | (have := hGb _ hk; omega)); omega))
                         replace hdr := hdr.upd hu14 (by first | exact (fun _ _ _ h => h) | (intro k hk hl hS; have hk' := hFD k hk; first | (rcases hS with hS | hS; exact hFG k hk'.1 hS; omega) | (simp only [At] at hS; omega) | (simp only [At] at hS; subst hS; exact hFDt hk)))
                         replace hr := hr.upd hu14 (by first | exact (fun _ _ _ h => h) | (intro k hk hl hS; have hk' := hk.2; first | (rcases hS with hS | hS; exact (hH k hk.1 hk.2).2 hS; omega) | (simp only [At] at hS; omega) | (simp only [At] at hS; subst hS; exact (hH _ hk.1 hk.2).1 hFt)))
                         replace hB1 := hB1.upd hu14 (by first | exact (fun h => h) | (simp only [At]; omega) | (intro h; rcases h with h | h; (have := hGb _ h; omega); omega))
                         replace hBd := hBd.upd hu14 (by first | exact (fun h => h) | (simp only [At]; omega))
                         refine ⟨trivial, ?_⟩
                         refine WN.done ?_
                         refine WX.keep [] trivial ?_
                         refine WX.next ?_
                         refine WC.seq ?_
                         refine WC.region ?_
                         refine WL.val rfl rfl rfl rfl (r_assign rfl ev_c) ?_
                         refine WL.nil ?_
                         refine WX.keep [(4, _)] ⟨rfl, trivial⟩ ?_
                         refine WX.next ?_
                         refine WC.ret ?_
                         refine WX.retE1 rfl rfl ?_
                         have e1 : SS.save D 1 T x = ((saveD D i P).1, ⟨1 - T.side, x⟩, 0) := by rw [hsv, if_neg (by omega), if_neg (by omega), if_pos (by omega)]
                         rw [e1]
                         have hdd := Rd.of_blk (F := At wd) (n := x.data.length) (sz := 1) hBd (by rw [hwd]; exact rfl) (by simp) (by omega)
                         have hbl := hBd.lt
                         refine ⟨rfl, hU, fun k => k = t ∨ k = wd, _, ⟨_, At wd, hbt, hdd, (fun h => by simp only [At] at h; omega), .inl rfl, fun k hk => ⟨.inr hk, by simp only [At] at hk; omega⟩⟩, hd, fun k hk hg => ?_, fun k hk => ?_, fun k hk => ?_⟩
                         · rcases hk with rfl | rfl
                           · rcases hg with hg | hg; exact hGt hg; omega
                           · rcases hg with hg | hg; (have := hGb _ hg; omega); omega
                         · rcases hk with rfl | rfl
                           · exact .inl hFt
                           · exact .inr ⟨by omega, by omega⟩
                         · rcases hk with hk | hk; exact .inl hk; exact .inr ⟨by omega, by omega⟩
                   · try (exfalso; first | (simp at hc14; done) | (simp only [decide_eq_true_eq, decide_eq_false_iff_not, Bool.not_eq_true', Bool.not_eq_false', Bool.not_eq_true, Bool.not_eq_false] at hc14; omega) | omega)
                     all_goals
                      try simp only [decide_eq_true_eq, decide_eq_false_iff_not, Bool.not_eq_true', Bool.not_eq_false', Bool.not_eq_true, Bool.not_eq_false, Option.isNone_none, Option.isNone_some, Option.isSome_none, Option.isSome_some, ne_eq, Decidable.not_not] at hc14
                      have hsd : saveD D i P = (Dk, e) := by unfold saveD; rw [hput]; simp only; rw [if_neg (by omega)]
                      have hPm : (P.length : Int) ≤ D.most := by omega
                      refine WC.skip ?_
                      refine WX.next ?_
                      refine WC.seq ?_
                      refine WC.seq ?_
                      refine WC.region ?_
                      refine WL.val rfl rfl rfl rfl (r_move rfl (ev_t rfl)) ?_
                      refine WL.val rfl rfl rfl rfl (r_neq rfl (ev_t rfl) ev_c) ?_
                      refine WL.nil ?_
                      refine WX.keep [(0, _), (3, _), (7, _), (79, _)] ⟨rfl, rfl, rfl, rfl, trivial⟩ ?_
                      refine WX.next ?_
                      refine WC.cond rfl (ev_t rfl) (fun hc16 => ?_) (fun hc16 => ?_)
                      · try (exfalso; first | (simp at hc16; done) | (simp only [decide_eq_true_eq, decide_eq_false_iff_not, Bool.not_eq_true', Bool.not_eq_false', Bool.not_eq_true, Bool.not_eq_false] at hc16; omega) | omega)
                        all_goals
                         try simp only [decide_eq_true_eq, decide_eq_false_iff_not, Bool.not_eq_true', Bool.not_eq_false', Bool.not_eq_true, Bool.not_eq_false, Option.isNone_none, Option.isNone_some, Option.isSome_none, Option.isSome_some, ne_eq, Decidable.not_not] at hc16
                         refine WC.seq ?_
                         refine WC.region ?_
                         refine WL.val rfl rfl rfl rfl (r_move rfl (ev_t rfl)) ?_
                         refine WL.val rfl rfl rfl rfl (r_assign rfl (ev_t rfl)) ?_
                         refine WL.nil ?_
                         refine WX.keep [(4, _)] ⟨rfl, trivial⟩ ?_
                         refine WX.next ?_
                         refine WC.ret ?_
                         refine WX.thenRet ?_
                         refine WX.retE1 rfl rfl ?_
                         first
                           | (have hz : (saveD D i P).2 ≠ 0 := by omega
                              have e1 : SS.save D 1 T x = ((saveD D i P).1, T, (saveD D i P).2) := by rw [hsv, if_neg (by omega), if_neg (by omega), if_neg hz]
                              rw [e1]
                              exact ⟨rfl, hU, F, _, hkeep hbt hdr hU.size, hd, hsep (by omega), fun k hk => .inl hk, fun k hk => hk.elim .inl (fun h => .inr ⟨by omega, by omega⟩)⟩)
                           | (have e1 : SS.save D 1 T x = (Dk, T, e) := by rw [hsv, if_neg (by omega), if_neg (by omega), hsd]; simp only; rw [if_neg (by omega)]
                              rw [e1]
                              exact ⟨rfl, hU, F, _, hkeep hbt hdr hU.size, hd, hsep (by omega), fun k hk => .inl hk, fun k hk => hk.elim .inl (fun h => .inr ⟨by omega, by omega⟩)⟩)
                      · try (exfalso; first | (simp at hc16; done) | (simp only [decide_eq_true_eq, decide_eq_false_iff_not, Bool.not_eq_true', Bool.not_eq_false', Bool.not_eq_true, Bool.not_eq_false] at hc16; omega) | omega)
                        all_goals
                         try simp only [decide_eq_true_eq, decide_eq_false_iff_not, Bool.not_eq_true', Bool.not_eq_false', Bool.not_eq_true, Bool.not_eq_false, Option.isNone_none, Option.isNone_some, Option.isSome_none, Option.isSome_some, ne_eq, Decidable.not_not] at hc16
                         refine WC.skip ?_
                         refine WX.next ?_
                         refine WC.seq ?_
                         refine WC.region ?_
                         first | refine WL.val rfl rfl rfl rfl (r_field0 rfl (ev_t rfl) fld_50_2) ?_ | refine WL.val rfl rfl rfl rfl (r_fieldAt rfl (ev_t rfl) fld_50_2) ?_
                         refine WL.val rfl rfl rfl rfl (r_load rfl (ev_t rfl) flat_22 (Blk.cell hB1 rfl)) ?_
                         refine WL.val rfl rfl rfl rfl (r_lenSlice (ts := #[]) rfl (ev_t rfl) elem_22) ?_
                         obtain ⟨wd, hwd⟩ : ∃ wd, wd = w'.heap.size := ⟨_, rfl⟩
                         replace hd := hd.mono (F' := fun k => G k ∨ (w4.heap.size ≤ k ∧ k < wd)) (fun k hk _ => hk.elim .inl (fun h => .inr ⟨h.1, by omega⟩))
                         refine WL.cons (SO.alloc rfl rfl rfl rfl (r_makeSlice (n := x.data.length) rfl (ev_t rfl) (ev_t rfl) row_22 (by omega) (by omega)) ?_)
                         intro w15 hu15 hBd hzd
                         have hs15 := hu15.size
                         replace hU := hU.trans hu15 (by first | exact (fun _ _ h => h) | exact (fun _ _ h => h.elim) | (intro k hl hk; (try simp only [At, New, Grow, From, No] at hk ⊢); omega) | (intro k hl hk; first | exact .inr hk | (rcases hk with hk | hk; exact .inr hk; omega) | (simp only [At] at hk; subst hk; exact .inl hFt) | (simp only [At] at hk; omega)))
                         replace hd := hd.upd hu15 (by first | exact (fun _ _ _ h => h) | (intro k hk hl hS; simp only [At] at hS; subst hS; rcases hk with hk | hk; (first | exact hGt hk | (have := hGb _ hk; omega)); omega))
                         replace hbt := hbt.upd hu15 (by first | exact (fun h => h) | (intro h; rcases h with h | h; exact hGt h; omega) | (simp only [At]; omega))
                         replace hdr := hdr.upd hu15 (by first | exact (fun _ _ _ h => h) | (intro k hk hl hS; have hk' := hFD k hk; first | (rcases hS with hS | hS; exact hFG k hk'.1 hS; omega) | (simp only [At] at hS; omega) | (simp only [At] at hS; subst hS; exact hFDt hk)))
                         replace hr := hr.upd hu15 (by first | exact (fun _ _ _ h => h) | (intro k hk hl hS; have hk' := hk.2; first | (rcases hS with hS | hS; exact (hH k hk.1 hk.2).2 hS; omega) | (simp only [At] at hS; omega) | (simp only [At] at hS; subst hS; exact (hH _ hk.1 hk.2).1 hFt)))
                         replace hB1 := hB1.upd hu15 (by first | exact (fun h => h) | (simp only [At]; omega) | (intro h; rcases h with h | h; (have := hGb _ h; omega); omega))
                         replace hpl := hpl.upd hu15 (by first | exact (fun _ _ _ h => h) | (intro k hk hl hS; simp only [New] at hk; first | (simp only [At] at hS; omega) | (rcases hS with hS | hS; (have := hGb _ hS; omega); omega)))
                         refine WL.val rfl rfl rfl rfl (r_assign rfl (ev_t rfl)) ?_
                         refine WL.nil ?_
                         refine WX.keep [(0, _), (3, _), (9, _)] ⟨rfl, rfl, rfl, trivial⟩ ?_
                         refine WX.next ?_
                         refine WC.seq ?_
                         refine WC.region ?_
                         refine WL.val rfl rfl rfl rfl (r_move rfl (ev_t rfl)) ?_
                         first | refine WL.val rfl rfl rfl rfl (r_field0 rfl (ev_t rfl) fld_50_2) ?_ | refine WL.val rfl rfl rfl rfl (r_fieldAt rfl (ev_t rfl) fld_50_2) ?_
                         refine WL.val rfl rfl rfl rfl (r_load rfl (ev_t rfl) flat_22 (Blk.cell hB1 rfl)) ?_
                         refine WL.cons (SO.copyAll hBd (rowCells_size _) hr (U8_one _) elem_22 size_5 rfl (ev_t rfl) (ev_t rfl) rfl rfl rfl rfl ?_)
                         intro w16 hu16 hBd hzd2
                         have hs16 := hu16.size
                         replace hU := hU.trans hu16 (by first | exact (fun _ _ h => h) | exact (fun _ _ h => h.elim) | (intro k hl hk; (try simp only [At, New, Grow, From, No] at hk ⊢); omega) | (intro k hl hk; first | exact .inr hk | (rcases hk with hk | hk; exact .inr hk; omega) | (simp only [At] at hk; subst hk; exact .inl hFt) | (simp only [At] at hk; omega)))
                         replace hd := hd.upd hu16 (by first | exact (fun _ _ _ h => h) | (intro k hk hl hS; simp only [At] at hS; subst hS; rcases hk with hk | hk; (first | exact hGt hk | (have := hGb _ hk; omega)); omega))
                         replace hbt := hbt.upd hu16 (by first | exact (fun h => h) | (intro h; rcases h with h | h; exact hGt h; omega) | (simp only [At]; omega))
                         replace hdr := hdr.upd hu16 (by first | exact (fun _ _ _ h => h) | (intro k hk hl hS; have hk' := hFD k hk; first | (rcases hS with hS | hS; exact hFG k hk'.1 hS; omega) | (simp only [At] at hS; omega) | (simp only [At] at hS; subst hS; exact hFDt hk)))
                         replace hr := hr.upd hu16 (by first | exact (fun _ _ _ h => h) | (intro k hk hl hS; have hk' := hk.2; first | (rcases hS with hS | hS; exact (hH k hk.1 hk.2).2 hS; omega) | (simp only [At] at hS; omega) | (simp only [At] at hS; subst hS; exact (hH _ hk.1 hk.2).1 hFt)))
                         replace hB1 := hB1.upd hu16 (by first | exact (fun h => h) | (simp only [At]; omega) | (intro h; rcases h with h | h; (have := hGb _ h; omega); omega))
                         refine WL.nil ?_
                         refine WX.keep [(0, _), (3, _), (9, _)] ⟨rfl, rfl, rfl, trivial⟩ ?_
                         refine WX.next ?_
                         refine WC.seq ?_
                         refine WC.draws' (fun u0_ u1_ => Upd (At t) u0_ u1_) (fun j => [0, 0, 0, 0, 0, 1, 0, 0, 0, 0, 0, 0, 0, 0, 0, 1, 0, 0, 2].getD j 0) (.calm 0 (.calm 1 (.calm 2 (.calm 3 (.calm 4 (.calm 7 (.calm 9 (.calm 11 (.held 8 (.held 10 (.calm 12 (.one 5 (.calm 6 (.calm 13 (.calm 14 (.one 15 (.calm 16 (.calm 17 (.one 18 (.done)))))))))))))))))))) mixed (by kernel_rfl) (by repeat (first | with_reducible exact Deaf.body | with_reducible apply Deaf.then | with_reducible apply Deaf.block)) ?_
                         intro w17 hu17
                         have hz17 := congrArg Array.size hu17.2.2.2
                         replace hu17 := Upd.of_draw hu17
                         have hs17 := hu17.size
                         replace hU := hU.trans hu17 (by first | exact (fun _ _ h => h) | exact (fun _ _ h => h.elim) | (intro k hl hk; (try simp only [At, New, Grow, From, No] at hk ⊢); omega) | (intro k hl hk; first | exact .inr hk | (rcases hk with hk | hk; exact .inr hk; omega) | (simp only [At] at hk; subst hk; exact .inl hFt) | (simp only [At] at hk; omega)))
                         replace hd := hd.upd hu17 (by first | exact (fun _ _ _ h => h) | (intro k hk hl hS; simp only [At] at hS; subst hS; rcases hk with hk | hk; (first | exact hGt hk | (have := hGb _ hk; omega)); omega))
                         replace hbt := hbt.upd hu17 (by first | exact (fun h => h) | (intro h; rcases h with h | h; exact hGt h; omega) | (simp only [At]; omega))
                         replace hdr := hdr.upd hu17 (by first | exact (fun _ _ _ h => h) | (intro k hk hl hS; have hk' := hFD k hk; first | (rcases hS with hS | hS; exact hFG k hk'.1 hS; omega) | (simp only [At] at hS; omega) | (simp only [At] at hS; subst hS; exact hFDt hk)))
                         replace hr := hr.upd hu17 (by first | exact (fun _ _ _ h => h) | (intro k hk hl hS; have hk' := hk.2; first | (rcases hS with hS | hS; exact (hH k hk.1 hk.2).2 hS; omega) | (simp only [At] at hS; omega) | (simp only [At] at hS; subst hS; exact (hH _ hk.1 hk.2).1 hFt)))
                         replace hB1 := hB1.upd hu17 (by first | exact (fun h => h) | (simp only [At]; omega) | (intro h; rcases h with h | h; (have := hGb _ h; omega); omega))
                         replace hBd := hBd.upd hu17 (by first | exact (fun h => h) | (simp only [At]; omega))
                         have hS20 := Upd.refl (At t) w17
                         refine WN.calm _ rfl rfl rfl rfl rfl (fun _ => r_move rfl (ev_t rfl)) ?_
                         refine WN.calm _ rfl rfl rfl rfl rfl (fun _ => r_move rfl (ev_t rfl)) ?_
                         refine WN.calm _ rfl rfl rfl rfl rfl (fun _ => r_move rfl (ev_t rfl)) ?_
                         refine WN.calm _ rfl rfl rfl rfl rfl (fun _ => r_nilCheck rfl (ev_t rfl)) ?_
                         first | refine WN.calm _ rfl rfl rfl rfl rfl (fun _ => r_field0 rfl (ev_t rfl) fld_89_2) ?_ | refine WN.calm _ rfl rfl rfl rfl rfl (fun _ => r_fieldAt rfl (ev_t rfl) fld_89_2) ?_
                         first | refine WN.calm _ rfl rfl rfl rfl rfl (fun _ => r_field0 rfl (ev_t rfl) fld_50_0) ?_ | refine WN.calm _ rfl rfl rfl rfl rfl (fun _ => r_fieldAt rfl (ev_t rfl) fld_50_0) ?_
                         first | refine WN.calm _ rfl rfl rfl rfl rfl (fun _ => r_field0 rfl (ev_t rfl) fld_50_1) ?_ | refine WN.calm _ rfl rfl rfl rfl rfl (fun _ => r_fieldAt rfl (ev_t rfl) fld_50_1) ?_
                         refine WN.calm _ rfl rfl rfl rfl rfl (fun _ => r_move rfl (ev_t rfl)) ?_
                         refine WN.held _ rfl rfl rfl rfl rfl hS20 (fun w' hS => r_load rfl (ev_t rfl) flat_48 (Blk.cell (hB1.upd hS (by (try simp only [At, From, No, Grow, New]); omega)) rfl)) ?_
                         refine WN.held _ rfl rfl rfl rfl rfl hS20 (fun w' hS => r_load rfl (ev_t rfl) flat_48 (Blk.cell (hB1.upd hS (by (try simp only [At, From, No, Grow, New]); omega)) rfl)) ?_
                         refine WN.calm _ rfl rfl rfl rfl rfl (fun _ => r_build (cs := #[_, _, _]) (vs := [(0, _), (1, _), (2, _)]) rfl ⟨⟨rfl, (ev_t rfl)⟩, ⟨rfl, (ev_t rfl)⟩, ⟨rfl, (ev_t rfl)⟩, trivial⟩ plc_50 zero_50 rfl) ?_
                         refine WN.step _ rfl (SO.val rfl rfl rfl rfl (r_load rfl (ev_t rfl) flat_3 (Blk.cell hbt rfl)) ?_)
                         refine ⟨hS20, ?_⟩
                         first | refine WN.calm _ rfl rfl rfl rfl rfl (fun _ => r_subN rfl ev_c (ev_t rfl) (by simp only [inK]; omega)) ?_ | refine WN.calm _ rfl rfl rfl rfl rfl (fun _ => r_sub rfl ev_c (ev_t rfl)) ?_
                         refine WN.calm _ rfl rfl rfl rfl rfl (fun _ => r_nilCheck rfl (ev_t rfl)) ?_
                         first | refine WN.calm _ rfl rfl rfl rfl rfl (fun _ => r_field0 rfl (ev_t rfl) fld_89_2) ?_ | refine WN.calm _ rfl rfl rfl rfl rfl (fun _ => r_fieldAt rfl (ev_t rfl) fld_89_2) ?_
                         rw [show (1 : Int) - (T.side : Int) = ((1 - T.side : Nat) : Int) by omega]
                         refine WN.step _ rfl (SO.store rfl (ev_t rfl) (ev_t rfl) size_3 hbt rfl rfl rfl rfl rfl ?_)
                         intro w18 hu18 hbt hz18
                         have hs18 := hu18.size
                         replace hS20 := Upd.transA hS20 hu18
                         replace hU := hU.trans hu18 (by first | exact (fun _ _ h => h) | exact (fun _ _ h => h.elim) | (intro k hl hk; (try simp only [At, New, Grow, From, No] at hk ⊢); omega) | (intro k hl hk; first | exact .inr hk | (rcases hk with hk | hk; exact .inr hk; omega) | (simp only [At] at hk; subst hk; exact .inl hFt) | (simp only [At] at hk; omega)))
                         replace hd := hd.upd hu18 (by first | exact (fun _ _ _ h => h) | (intro k hk hl hS; simp only [At] at hS; subst hS; rcases hk with hk | hk; (first | exact hGt hk | (have := hGb _ hk; omega)); omega))
                         replace hdr := hdr.upd hu18 (by first | exact (fun _ _ _ h => h) | (intro k hk hl hS; have hk' := hFD k hk; first | (rcases hS with hS | hS; exact hFG k hk'.1 hS; omega) | (simp only [At] at hS; omega) | (simp only [At] at hS; subst hS; exact hFDt hk)))
                         replace hr := hr.upd hu18 (by first | exact (fun _ _ _ h => h) | (intro k hk hl hS; have hk' := hk.2; first | (rcases hS with hS | hS; exact (hH k hk.1 hk.2).2 hS; omega) | (simp only [At] at hS; omega) | (simp only [At] at hS; subst hS; exact (hH _ hk.1 hk.2).1 hFt)))
                         replace hB1 := hB1.upd hu18 (by first | exact (fun h => h) | (simp only [At]; omega) | (intro h; rcases h with h | h; (have := hGb _ h; omega); omega))
                         replace hBd := hBd.upd hu18 (by first | exact (fun h => h) | (simp only [At]; omega))
                         refine ⟨hS20, ?_⟩
                         refine WN.calm _ rfl rfl rfl rfl rfl (fun _ => r_nilCheck rfl (ev_t rfl)) ?_
                         first | refine WN.calm _ rfl rfl rfl rfl rfl (fun _ => r_field0 rfl (ev_t rfl) fld_89_3) ?_ | refine WN.calm _ rfl rfl rfl rfl rfl (fun _ => r_fieldAt rfl (ev_t rfl) fld_89_3) ?_
                         refine WN.step _ rfl (SO.storeN (us := [_, _, _]) rfl (ev_t rfl) (ev_t rfl) size_50 hbt (Nat.le_of_ble_eq_true rfl) rfl rfl rfl rfl ?_)
                         intro w19 hu19 hbt hzt
                         have hs19 := hu19.size
                         try replace hS20 := Upd.transA hS20 hu19
                         replace hU := hU.trans hu19 (by first | exact (fun _ _ h => h) | exact (fun _ _ h => h.elim) | (intro k hl hk; (try simp only [At, New, Grow, From, No] at hk ⊢); omega) | (intro k hl hk; first | exact .inr hk | (rcases hk with hk | hk; exact .inr hk; omega) | (simp only [At] at hk; subst hk; exact .inl hFt) | (simp only [At] at hk; omega)))
                         replace hd := hd.upd hu19 (by first | exact (fun _ _ _ h => h) | (intro k hk hl hS; simp only [At] at hS; subst hS; rcases hk with hk | hk; (first | exact hGt hk | (have := hGb _ hk; omega)); omega))
                         replace hdr := hdr.upd hu19 (by first | exact (fun _ _ _ h => h) | (intro k hk hl hS; have hk' := hFD k hk; first | (rcases hS with hS | hS; exact hFG k hk'.1 hS; omega) | (simp only [At] at hS; omega) | (simp only [At] at hS; subst hS; exact hFDt hk)))
                         replace hr := hr.upd hu19 (by first | exact (fun _ _ _ h => h) | (intro k hk hl hS; have hk' := hk.2; first | (rcases hS with hS | hS; exact (hH k hk.1 hk.2).2 hS; omega) | (simp only [At] at hS; omega) | (simp only [At] at hS; subst hS; exact (hH _ hk.1 hk.2).1 hFt)))
                         replace hB1 := hB1.upd hu19 (by first | exact (fun h => h) | (simp only [At]; omega) | (intro h; rcases h with h | h; (have := hGb _ h; omega); omega))
                         replace hBd := hBd.upd hu19 (by first | exact (fun h => h) | (simp only [At]; omega))
                         refine ⟨trivial, ?_⟩
                         refine WN.done ?_
                         refine WX.keep [] trivial ?_
                         refine WX.next ?_
                         refine WC.seq ?_
                         refine WC.region ?_
                         refine WL.val rfl rfl rfl rfl (r_assign rfl ev_c) ?_
                         refine WL.nil ?_
                         refine WX.keep [(4, _)] ⟨rfl, trivial⟩ ?_
                         refine WX.next ?_
                         refine WC.ret ?_
                         refine WX.retE1 rfl rfl ?_
                         have e1 : SS.save D 1 T x = ((saveD D i P).1, ⟨1 - T.side, x⟩, 0) := by rw [hsv, if_neg (by omega), if_neg (by omega), if_pos (by omega)]
                         rw [e1]
                         have hdd := Rd.of_blk (F := At wd) (n := x.data.length) (sz := 1) hBd (by rw [hwd]; exact rfl) (by simp) (by omega)
                         have hbl := hBd.lt
                         refine ⟨rfl, hU, fun k => k = t ∨ k = wd, _, ⟨_, At wd, hbt, hdd, (fun h => by simp only [At] at h; omega), .inl rfl, fun k hk => ⟨.inr hk, by simp only [At] at hk; omega⟩⟩, hd, fun k hk hg => ?_, fun k hk => ?_, fun k hk => ?_⟩
                         · rcases hk with rfl | rfl
                           · rcases hg with hg | hg; exact hGt hg; omega
                           · rcases hg with hg | hg; (have := hGb _ hg; omega); omega
                         · rcases hk with rfl | rfl
                           · exact .inl hFt
                           · exact .inr ⟨by omega, by omega⟩
                         · rcases hk with hk | hk; exact .inl hk; exact .inr ⟨by omega, by omega⟩
             · try (exfalso; first | (simp at hb10_3; done) | (simp only [decide_eq_true_eq, decide_eq_false_iff_not, Bool.not_eq_true', Bool.not_eq_false', Bool.not_eq_true, Bool.not_eq_false] at hb10_3; omega) | omega)
               all_goals
                try simp only [decide_eq_true_eq, decide_eq_false_iff_not, Bool.not_eq_true', Bool.not_eq_false', Bool.not_eq_true, Bool.not_eq_false, Option.isNone_none, Option.isNone_some, Option.isSome_none, Option.isSome_some, ne_eq, Decidable.not_not] at hb10_3
                refine WL.skip rfl rfl rfl ?_
                refine WL.skip rfl rfl rfl ?_
                refine WL.val rfl rfl rfl rfl (r_pickF rfl (ev_t rfl) ev_c) ?_
                refine WL.nil ?_
                refine WX.keep [(0, _), (3, _), (5, _), (6, _), (7, _), (54, _)] ⟨rfl, rfl, rfl, rfl, rfl, rfl, trivial⟩ ?_
                refine WX.next ?_
                refine WC.cond_false rfl (ev_t rfl) ?_
                have hdone : P.drop k = [] ∨ e ≠ 0 := .inl (List.drop_of_length_le (by omega))
                rw [putAll_done hdone] at hput
                refine WC.exit ?_
                refine WX.thenExit ?_
                refine WX.thenExit ?_
                refine WX.blockHere ?_
                refine WX.next ?_
                refine WC.seq ?_
                refine WC.seq ?_
                refine WC.region ?_
                refine WL.val rfl rfl rfl rfl (r_move rfl (ev_t rfl)) ?_
                refine WL.val rfl rfl rfl rfl (r_eql rfl (ev_t rfl) ev_c) ?_
                refine WL.nil ?_
                refine WX.keep [(0, _), (3, _), (5, _), (7, _), (71, _)] ⟨rfl, rfl, rfl, rfl, rfl, trivial⟩ ?_
                refine WX.next ?_
                refine WC.cond rfl (ev_t rfl) (fun hc14 => ?_) (fun hc14 => ?_)
                · try (exfalso; first | (simp at hc14; done) | (simp only [decide_eq_true_eq, decide_eq_false_iff_not, Bool.not_eq_true', Bool.not_eq_false', Bool.not_eq_true, Bool.not_eq_false] at hc14; omega) | omega)
                  all_goals
                   try simp only [decide_eq_true_eq, decide_eq_false_iff_not, Bool.not_eq_true', Bool.not_eq_false', Bool.not_eq_true, Bool.not_eq_false, Option.isNone_none, Option.isNone_some, Option.isSome_none, Option.isSome_some, ne_eq, Decidable.not_not] at hc14
                   obtain rfl : e = 0 := by omega
                   have hoff' : Dk.off = false := by rcases hwr.code with hc | hc; exact hc.2; omega
                   have hlook' := look_of (D := Dk) (i := i) (by rw [hwr.len]; omega) hoff'
                   have hsd : saveD D i P = Dk.sync i := by unfold saveD; rw [hput]; rfl
                   have hPm : (P.length : Int) ≤ D.most := by omega
                   refine WC.region ?_
                   refine WL.val rfl rfl rfl rfl (r_move rfl (ev_t rfl)) ?_
                   refine WL.val rfl rfl rfl rfl (r_nilCheck rfl (ev_t rfl)) ?_
                   first | refine WL.val rfl rfl rfl rfl (r_field0 rfl (ev_t rfl) fld_89_0) ?_ | refine WL.val rfl rfl rfl rfl (r_fieldAt rfl (ev_t rfl) fld_89_0) ?_
                   refine WL.val rfl rfl rfl rfl (r_load rfl (ev_t rfl) flat_25 (Blk.cell hbt rfl)) ?_
                   refine WL.val rfl rfl rfl rfl (r_move rfl (ev_t rfl)) ?_
                   refine WL.cons (SO.call (Sync_good hd hlook') rfl body_17 ⟨(ev_t rfl), (ev_t rfl), trivial⟩ rfl rfl rfl rfl ?_)
                   rintro v w20 ⟨rfl, hd, hu20⟩
                   rw [← hsd] at hd ⊢
                   have hs20 := hu20.size
                   replace hU := hU.trans hu20 (by first | exact (fun _ _ h => h) | exact (fun _ _ h => h.elim) | (intro k hl hk; (try simp only [At, New, Grow, From, No] at hk ⊢); omega) | (intro k hl hk; first | exact .inr hk | (rcases hk with hk | hk; exact .inr hk; omega) | (simp only [At] at hk; subst hk; exact .inl hFt) | (simp only [At] at hk; omega)))
                   replace hbt := hbt.upd hu20 (by first | exact (fun h => h) | (intro h; rcases h with h | h; exact hGt h; omega) | (simp only [At]; omega))
                   replace hdr := hdr.upd hu20 (by first | exact (fun _ _ _ h => h) | (intro k hk hl hS; have hk' := hFD k hk; first | (rcases hS with hS | hS; exact hFG k hk'.1 hS; omega) | (simp only [At] at hS; omega) | (simp only [At] at hS; subst hS; exact hFDt hk)))
                   replace hr := hr.upd hu20 (by first | exact (fun _ _ _ h => h) | (intro k hk hl hS; have hk' := hk.2; first | (rcases hS with hS | hS; exact (hH k hk.1 hk.2).2 hS; omega) | (simp only [At] at hS; omega) | (simp only [At] at hS; subst hS; exact (hH _ hk.1 hk.2).1 hFt)))
                   replace hB1 := hB1.upd hu20 (by first | exact (fun h => h) | (simp only [At]; omega) | (intro h; rcases h with h | h; (have := hGb _ h; omega); omega))
                   replace hpl := hpl.upd hu20 (by first | exact (fun _ _ _ h => h) | (intro k hk hl hS; simp only [New] at hk; first | (simp only [At] at hS; omega) | (rcases hS with hS | hS; (have := hGb _ hS; omega); omega)))
                   replace hd := hd.mono (F' := Grow G w4 w20) (fun k hk _ => by rcases hk with (hk | hk) | hk; exact .inl hk; exact .inr ⟨by omega, by omega⟩; exact .inr ⟨by omega, by omega⟩)
                   refine WL.val rfl rfl rfl rfl (r_assign rfl (ev_t rfl)) ?_
                   refine WL.nil ?_
                   refine WX.keep [(0, _), (3, _), (7, _)] ⟨rfl, rfl, rfl, trivial⟩ ?_
                   refine WX.next ?_
                   refine WC.seq ?_
                   refine WC.seq ?_
                   refine WC.region ?_
                   refine WL.val rfl rfl rfl rfl (r_move rfl (ev_t rfl)) ?_
                   refine WL.val rfl rfl rfl rfl (r_neq rfl (ev_t rfl) ev_c) ?_
                   refine WL.nil ?_
                   refine WX.keep [(0, _), (3, _), (7, _), (79, _)] ⟨rfl, rfl, rfl, rfl, trivial⟩ ?_
                   refine WX.next ?_
                   refine WC.cond rfl (ev_t rfl) (fun hc16 => ?_) (fun hc16 => ?_)
                   · try (exfalso; first | (simp at hc16; done) | (simp only [decide_eq_true_eq, decide_eq_false_iff_not, Bool.not_eq_true', Bool.not_eq_false', Bool.not_eq_true, Bool.not_eq_false] at hc16; omega) | omega)
                     all_goals
                      try simp only [decide_eq_true_eq, decide_eq_false_iff_not, Bool.not_eq_true', Bool.not_eq_false', Bool.not_eq_true, Bool.not_eq_false, Option.isNone_none, Option.isNone_some, Option.isSome_none, Option.isSome_some, ne_eq, Decidable.not_not] at hc16
                      refine WC.seq ?_
                      refine WC.region ?_
                      refine WL.val rfl rfl rfl rfl (r_move rfl (ev_t rfl)) ?_
                      refine WL.val rfl rfl rfl rfl (r_assign rfl (ev_t rfl)) ?_
                      refine WL.nil ?_
                      refine WX.keep [(4, _)] ⟨rfl, trivial⟩ ?_
                      refine WX.next ?_
                      refine WC.ret ?_
                      refine WX.thenRet ?_
                      refine WX.retE1 rfl rfl ?_
                      first
                        | (have hz : (saveD D i P).2 ≠ 0 := by omega
                           have e1 : SS.save D 1 T x = ((saveD D i P).1, T, (saveD D i P).2) := by rw [hsv, if_neg (by omega), if_neg (by omega), if_neg hz]
                           rw [e1]
                           exact ⟨rfl, hU, F, _, hkeep hbt hdr hU.size, hd, hsep (by omega), fun k hk => .inl hk, fun k hk => hk.elim .inl (fun h => .inr ⟨by omega, by omega⟩)⟩)
                        | (have e1 : SS.save D 1 T x = (Dk, T, e) := by rw [hsv, if_neg (by omega), if_neg (by omega), hsd]; simp only; rw [if_neg (by omega)]
                           rw [e1]
                           exact ⟨rfl, hU, F, _, hkeep hbt hdr hU.size, hd, hsep (by omega), fun k hk => .inl hk, fun k hk => hk.elim .inl (fun h => .inr ⟨by omega, by omega⟩)⟩)
                   · try (exfalso; first | (simp at hc16; done) | (simp only [decide_eq_true_eq, decide_eq_false_iff_not, Bool.not_eq_true', Bool.not_eq_false', Bool.not_eq_true, Bool.not_eq_false] at hc16; omega) | omega)
                     all_goals
                      try simp only [decide_eq_true_eq, decide_eq_false_iff_not, Bool.not_eq_true', Bool.not_eq_false', Bool.not_eq_true, Bool.not_eq_false, Option.isNone_none, Option.isNone_some, Option.isSome_none, Option.isSome_some, ne_eq, Decidable.not_not] at hc16
                      refine WC.skip ?_
                      refine WX.next ?_
                      refine WC.seq ?_
                      refine WC.region ?_
                      first | refine WL.val rfl rfl rfl rfl (r_field0 rfl (ev_t rfl) fld_50_2) ?_ | refine WL.val rfl rfl rfl rfl (r_fieldAt rfl (ev_t rfl) fld_50_2) ?_
                      refine WL.val rfl rfl rfl rfl (r_load rfl (ev_t rfl) flat_22 (Blk.cell hB1 rfl)) ?_
                      refine WL.val rfl rfl rfl rfl (r_lenSlice (ts := #[]) rfl (ev_t rfl) elem_22) ?_
                      obtain ⟨wd, hwd⟩ : ∃ wd, wd = w20.heap.size := ⟨_, rfl⟩
                      replace hd := hd.mono (F' := fun k => G k ∨ (w4.heap.size ≤ k ∧ k < wd)) (fun k hk _ => hk.elim .inl (fun h => .inr ⟨h.1, by omega⟩))
                      refine WL.cons (SO.alloc rfl rfl rfl rfl (r_makeSlice (n := x.data.length) rfl (ev_t rfl) (ev_t rfl) row_22 (by omega) (by omega)) ?_)
                      intro w21 hu21 hBd hzd
                      have hs21 := hu21.size
                      replace hU := hU.trans hu21 (by first | exact (fun _ _ h => h) | exact (fun _ _ h => h.elim) | (intro k hl hk; (try simp only [At, New, Grow, From, No] at hk ⊢); omega) | (intro k hl hk; first | exact .inr hk | (rcases hk with hk | hk; exact .inr hk; omega) | (simp only [At] at hk; subst hk; exact .inl hFt) | (simp only [At] at hk; omega)))
                      replace hd := hd.upd hu21 (by first | exact (fun _ _ _ h => h) | (intro k hk hl hS; simp only [At] at hS; subst hS; rcases hk with hk | hk; (first | exact hGt hk | (have := hGb _ hk; omega)); omega))
                      replace hbt := hbt.upd hu21 (by first | exact (fun h => h) | (intro h; rcases h with h | h; exact hGt h; omega) | (simp only [At]; omega))
                      replace hdr := hdr.upd hu21 (by first | exact (fun _ _ _ h => h) | (intro k hk hl hS; have hk' := hFD k hk; first | (rcases hS with hS | hS; exact hFG k hk'.1 hS; omega) | (simp only [At] at hS; omega) | (simp only [At] at hS; subst hS; exact hFDt hk)))
                      replace hr := hr.upd hu21 (by first | exact (fun _ _ _ h => h) | (intro k hk hl hS; have hk' := hk.2; first | (rcases hS with hS | hS; exact (hH k hk.1 hk.2).2 hS; omega) | (simp only [At] at hS; omega) | (simp only [At] at hS; subst hS; exact (hH _ hk.1 hk.2).1 hFt)))
                      replace hB1 := hB1.upd hu21 (by first | exact (fun h => h) | (simp only [At]; omega) | (intro h; rcases h with h | h; (have := hGb _ h; omega); omega))
                      replace hpl := hpl.upd hu21 (by first | exact (fun _ _ _ h => h) | (intro k hk hl hS; simp only [New] at hk; first | (simp only [At] at hS; omega) | (rcases hS with hS | hS; (have := hGb _ hS; omega); omega)))
                      refine WL.val rfl rfl rfl rfl (r_assign rfl (ev_t rfl)) ?_
                      refine WL.nil ?_
                      refine WX.keep [(0, _), (3, _), (9, _)] ⟨rfl, rfl, rfl, trivial⟩ ?_
                      refine WX.next ?_
                      refine WC.seq ?_
                      refine WC.region ?_
                      refine WL.val rfl rfl rfl rfl (r_move rfl (ev_t rfl)) ?_
                      first | refine WL.val rfl rfl rfl rfl (r_field0 rfl (ev_t rfl) fld_50_2) ?_ | refine WL.val rfl rfl rfl rfl (r_fieldAt rfl (ev_t rfl) fld_50_2) ?_
                      refine WL.val rfl rfl rfl rfl (r_load rfl (ev_t rfl) flat_22 (Blk.cell hB1 rfl)) ?_
                      refine WL.cons (SO.copyAll hBd (rowCells_size _) hr (U8_one _) elem_22 size_5 rfl (ev_t rfl) (ev_t rfl) rfl rfl rfl rfl ?_)
                      intro w22 hu22 hBd hzd2
                      have hs22 := hu22.size
                      replace hU := hU.trans hu22 (by first | exact (fun _ _ h => h) | exact (fun _ _ h => h.elim) | (intro k hl hk; (try simp only [At, New, Grow, From, No] at hk ⊢); omega) | (intro k hl hk; first | exact .inr hk | (rcases hk with hk | hk; exact .inr hk; omega) | (simp only [At] at hk; subst hk; exact .inl hFt) | (simp only [At] at hk; omega)))
                      replace hd := hd.upd hu22 (by first | exact (fun _ _ _ h => h) | (intro k hk hl hS; simp only [At] at hS; subst hS; rcases hk with hk | hk; (first | exact hGt hk | (have := hGb _ hk; omega)); omega))
                      replace hbt := hbt.upd hu22 (by first | exact (fun h => h) | (intro h; rcases h with h | h; exact hGt h; omega) | (simp only [At]; omega))
                      replace hdr := hdr.upd hu22 (by first | exact (fun _ _ _ h => h) | (intro k hk hl hS; have hk' := hFD k hk; first | (rcases hS with hS | hS; exact hFG k hk'.1 hS; omega) | (simp only [At] at hS; omega) | (simp only [At] at hS; subst hS; exact hFDt hk)))
                      replace hr := hr.upd hu22 (by first | exact (fun _ _ _ h => h) | (intro k hk hl hS; have hk' := hk.2; first | (rcases hS with hS | hS; exact (hH k hk.1 hk.2).2 hS; omega) | (simp only [At] at hS; omega) | (simp only [At] at hS; subst hS; exact (hH _ hk.1 hk.2).1 hFt)))
                      replace hB1 := hB1.upd hu22 (by first | exact (fun h => h) | (simp only [At]; omega) | (intro h; rcases h with h | h; (have := hGb _ h; omega); omega))
                      refine WL.nil ?_
                      refine WX.keep [(0, _), (3, _), (9, _)] ⟨rfl, rfl, rfl, trivial⟩ ?_
                      refine WX.next ?_
                      refine WC.seq ?_
                      refine WC.draws' (fun u0_ u1_ => Upd (At t) u0_ u1_) (fun j => [0, 0, 0, 0, 0, 1, 0, 0, 0, 0, 0, 0, 0, 0, 0, 1, 0, 0, 2].getD j 0) (.calm 0 (.calm 1 (.calm 2 (.calm 3 (.calm 4 (.calm 7 (.calm 9 (.calm 11 (.held 8 (.held 10 (.calm 12 (.one 5 (.calm 6 (.calm 13 (.calm 14 (.one 15 (.calm 16 (.calm 17 (.one 18 (.done)))))))))))))))))))) mixed (by kernel_rfl) (by repeat (first | with_reducible exact Deaf.body | with_reducible apply Deaf.then | with_reducible apply Deaf.block)) ?_
                      intro w23 hu23
                      have hz23 := congrArg Array.size hu23.2.2.2
                      replace hu23 := Upd.of_draw hu23
                      have hs23 := hu23.size
                      replace hU := hU.trans hu23 (by first | exact (fun _ _ h => h) | exact (fun _ _ h => h.elim) | (intro k hl hk; (try simp only [At, New, Grow, From, No] at hk ⊢); omega) | (intro k hl hk; first | exact .inr hk | (rcases hk with hk | hk; exact .inr hk; omega) | (simp only [At] at hk; subst hk; exact .inl hFt) | (simp only [At] at hk; omega)))
                      replace hd := hd.upd hu23 (by first | exact (fun _ _ _ h => h) | (intro k hk hl hS; simp only [At] at hS; subst hS; rcases hk with hk | hk; (first | exact hGt hk | (have := hGb _ hk; omega)); omega))
                      replace hbt := hbt.upd hu23 (by first | exact (fun h => h) | (intro h; rcases h with h | h; exact hGt h; omega) | (simp only [At]; omega))
                      replace hdr := hdr.upd hu23 (by first | exact (fun _ _ _ h => h) | (intro k hk hl hS; have hk' := hFD k hk; first | (rcases hS with hS | hS; exact hFG k hk'.1 hS; omega) | (simp only [At] at hS; omega) | (simp only [At] at hS; subst hS; exact hFDt hk)))
                      replace hr := hr.upd hu23 (by first | exact (fun _ _ _ h => h) | (intro k hk hl hS; have hk' := hk.2; first | (rcases hS with hS | hS; exact (hH k hk.1 hk.2).2 hS; omega) | (simp only [At] at hS; omega) | (simp only [At] at hS; subst hS; exact (hH _ hk.1 hk.2).1 hFt)))
                      replace hB1 := hB1.upd hu23 (by first | exact (fun h => h) | (simp only [At]; omega) | (intro h; rcases h with h | h; (have := hGb _ h; omega); omega))
                      replace hBd := hBd.upd hu23 (by first | exact (fun h => h) | (simp only [At]; omega))
                      have hS20 := Upd.refl (At t) w23
                      refine WN.calm _ rfl rfl rfl rfl rfl (fun _ => r_move rfl (ev_t rfl)) ?_
                      refine WN.calm _ rfl rfl rfl rfl rfl (fun _ => r_move rfl (ev_t rfl)) ?_
                      refine WN.calm _ rfl rfl rfl rfl rfl (fun _ => r_move rfl (ev_t rfl)) ?_
                      refine WN.calm _ rfl rfl rfl rfl rfl (fun _ => r_nilCheck rfl (ev_t rfl)) ?_
                      first | refine WN.calm _ rfl rfl rfl rfl rfl (fun _ => r_field0 rfl (ev_t rfl) fld_89_2) ?_ | refine WN.calm _ rfl rfl rfl rfl rfl (fun _ => r_fieldAt rfl (ev_t rfl) fld_89_2) ?_
                      first | refine WN.calm _ rfl rfl rfl rfl rfl (fun _ => r_field0 rfl (ev_t rfl) fld_50_0) ?_ | refine WN.calm _ rfl rfl rfl rfl rfl (fun _ => r_fieldAt rfl (ev_t rfl) fld_50_0) ?_
                      first | refine WN.calm _ rfl rfl rfl rfl rfl (fun _ => r_field0 rfl (ev_t rfl) fld_50_1) ?_ | refine WN.calm _ rfl rfl rfl rfl rfl (fun _ => r_fieldAt rfl (ev_t rfl) fld_50_1) ?_
                      refine WN.calm _ rfl rfl rfl rfl rfl (fun _ => r_move rfl (ev_t rfl)) ?_
                      refine WN.held _ rfl rfl rfl rfl rfl hS20 (fun w' hS => r_load rfl (ev_t rfl) flat_48 (Blk.cell (hB1.upd hS (by (try simp only [At, From, No, Grow, New]); omega)) rfl)) ?_
                      refine WN.held _ rfl rfl rfl rfl rfl hS20 (fun w' hS => r_load rfl (ev_t rfl) flat_48 (Blk.cell (hB1.upd hS (by (try simp only [At, From, No, Grow, New]); omega)) rfl)) ?_
                      refine WN.calm _ rfl rfl rfl rfl rfl (fun _ => r_build (cs := #[_, _, _]) (vs := [(0, _), (1, _), (2, _)]) rfl ⟨⟨rfl, (ev_t rfl)⟩, ⟨rfl, (ev_t rfl)⟩, ⟨rfl, (ev_t rfl)⟩, trivial⟩ plc_50 zero_50 rfl) ?_
                      refine WN.step _ rfl (SO.val rfl rfl rfl rfl (r_load rfl (ev_t rfl) flat_3 (Blk.cell hbt rfl)) ?_)
                      refine ⟨hS20, ?_⟩
                      first | refine WN.calm _ rfl rfl rfl rfl rfl (fun _ => r_subN rfl ev_c (ev_t rfl) (by simp only [inK]; omega)) ?_ | refine WN.calm _ rfl rfl rfl rfl rfl (fun _ => r_sub rfl ev_c (ev_t rfl)) ?_
                      refine WN.calm _ rfl rfl rfl rfl rfl (fun _ => r_nilCheck rfl (ev_t rfl)) ?_
                      first | refine WN.calm _ rfl rfl rfl rfl rfl (fun _ => r_field0 rfl (ev_t rfl) fld_89_2) ?_ | refine WN.calm _ rfl rfl rfl rfl rfl (fun _ => r_fieldAt rfl (ev_t rfl) fld_89_2) ?_
                      rw [show (1 : Int) - (T.side : Int) = ((1 - T.side : Nat) : Int) by omega]
                      refine WN.step _ rfl (SO.store rfl (ev_t rfl) (ev_t rfl) size_3 hbt rfl rfl rfl rfl rfl ?_)
                      intro w24 hu24 hbt hz24
                      have hs24 := hu24.size
                      replace hS20 := Upd.transA hS20 hu24
                      replace hU := hU.trans hu24 (by first | exact (fun _ _ h => h) | exact (fun _ _ h => h.elim) | (intro k hl hk; (try simp only [At, New, Grow, From, No] at hk ⊢); omega) | (intro k hl hk; first | exact .inr hk | (rcases hk with hk | hk; exact .inr hk; omega) | (simp only [At] at hk; subst hk; exact .inl hFt) | (simp only [At] at hk; omega)))
                      replace hd := hd.upd hu24 (by first | exact (fun _ _ _ h => h) | (intro k hk hl hS; simp only [At] at hS; subst hS; rcases hk with hk | hk; (first | exact hGt hk | (have := hGb _ hk; omega)); omega))
                      replace hdr := hdr.upd hu24 (by first | exact (fun _ _ _ h => h) | (intro k hk hl hS; have hk' := hFD k hk; first | (rcases hS with hS | hS; exact hFG k hk'.1 hS; omega) | (simp only [At] at hS; omega) | (simp only [At] at hS; subst hS; exact hFDt hk)))
                      replace hr := hr.upd hu24 (by first | exact (fun _ _ _ h => h) | (intro k hk hl hS; have hk' := hk.2; first | (rcases hS with hS | hS; exact (hH k hk.1 hk.2).2 hS; omega) | (simp only [At] at hS; omega) | (simp only [At] at hS; subst hS; exact (hH _ hk.1 hk.2).1 hFt)))
                      replace hB1 := hB1.upd hu24 (by first | exact (fun h => h) | (simp only [At]; omega) | (intro h; rcases h with h | h; (have := hGb _ h; omega); omega))
                      replace hBd := hBd.upd hu24 (by first | exact (fun h => h) | (simp only [At]; omega))
                      refine ⟨hS20, ?_⟩
                      refine WN.calm _ rfl rfl rfl rfl rfl (fun _ => r_nilCheck rfl (ev_t rfl)) ?_
                      first | refine WN.calm _ rfl rfl rfl rfl rfl (fun _ => r_field0 rfl (ev_t rfl) fld_89_3) ?_ | refine WN.calm _ rfl rfl rfl rfl rfl (fun _ => r_fieldAt rfl (ev_t rfl) fld_89_3) ?_
                      refine WN.step _ rfl (SO.storeN (us := [_, _, _]) rfl (ev_t rfl) (ev_t rfl) size_50 hbt (Nat.le_of_ble_eq_true rfl) rfl rfl rfl rfl ?_)
                      intro w25 hu25 hbt hzt
                      have hs25 := hu25.size
                      try replace hS20 := Upd.transA hS20 hu25
                      replace hU := hU.trans hu25 (by first | exact (fun _ _ h => h) | exact (fun _ _ h => h.elim) | (intro k hl hk; (try simp only [At, New, Grow, From, No] at hk ⊢); omega) | (intro k hl hk; first | exact .inr hk | (rcases hk with hk | hk; exact .inr hk; omega) | (simp only [At] at hk; subst hk; exact .inl hFt) | (simp only [At] at hk; omega)))
                      replace hd := hd.upd hu25 (by first | exact (fun _ _ _ h => h) | (intro k hk hl hS; simp only [At] at hS; subst hS; rcases hk with hk | hk; (first | exact hGt hk | (have := hGb _ hk; omega)); omega))
                      replace hdr := hdr.upd hu25 (by first | exact (fun _ _ _ h => h) | (intro k hk hl hS; have hk' := hFD k hk; first | (rcases hS with hS | hS; exact hFG k hk'.1 hS; omega) | (simp only [At] at hS; omega) | (simp only [At] at hS; subst hS; exact hFDt hk)))
                      replace hr := hr.upd hu25 (by first | exact (fun _ _ _ h => h) | (intro k hk hl hS; have hk' := hk.2; first | (rcases hS with hS | hS; exact (hH k hk.1 hk.2).2 hS; omega) | (simp only [At] at hS; omega) | (simp only [At] at hS; subst hS; exact (hH _ hk.1 hk.2).1 hFt)))
                      replace hB1 := hB1.upd hu25 (by first | exact (fun h => h) | (simp only [At]; omega) | (intro h; rcases h with h | h; (have := hGb _ h; omega); omega))
                      replace hBd := hBd.upd hu25 (by first | exact (fun h => h) | (simp only [At]; omega))
                      refine ⟨trivial, ?_⟩
                      refine WN.done ?_
                      refine WX.keep [] trivial ?_
                      refine WX.next ?_
                      refine WC.seq ?_
                      refine WC.region ?_
                      refine WL.val rfl rfl rfl rfl (r_assign rfl ev_c) ?_
                      refine WL.nil ?_
                      refine WX.keep [(4, _)] ⟨rfl, trivial⟩ ?_
                      refine WX.next ?_
                      refine WC.ret ?_
                      refine WX.retE1 rfl rfl ?_
                      have e1 : SS.save D 1 T x = ((saveD D i P).1, ⟨1 - T.side, x⟩, 0) := by rw [hsv, if_neg (by omega), if_neg (by omega), if_pos (by omega)]
                      rw [e1]
                      have hdd := Rd.of_blk (F := At wd) (n := x.data.length) (sz := 1) hBd (by rw [hwd]; exact rfl) (by simp) (by omega)
                      have hbl := hBd.lt
                      refine ⟨rfl, hU, fun k => k = t ∨ k = wd, _, ⟨_, At wd, hbt, hdd, (fun h => by simp only [At] at h; omega), .inl rfl, fun k hk => ⟨.inr hk, by simp only [At] at hk; omega⟩⟩, hd, fun k hk hg => ?_, fun k hk => ?_, fun k hk => ?_⟩
                      · rcases hk with rfl | rfl
                        · rcases hg with hg | hg; exact hGt hg; omega
                        · rcases hg with hg | hg; (have := hGb _ hg; omega); omega
                      · rcases hk with rfl | rfl
                        · exact .inl hFt
                        · exact .inr ⟨by omega, by omega⟩
                      · rcases hk with hk | hk; exact .inl hk; exact .inr ⟨by omega, by omega⟩
                · try (exfalso; first | (simp at hc14; done) | (simp only [decide_eq_true_eq, decide_eq_false_iff_not, Bool.not_eq_true', Bool.not_eq_false', Bool.not_eq_true, Bool.not_eq_false] at hc14; omega) | omega)
                  all_goals
                   try simp only [decide_eq_true_eq, decide_eq_false_iff_not, Bool.not_eq_true', Bool.not_eq_false', Bool.not_eq_true, Bool.not_eq_false, Option.isNone_none, Option.isNone_some, Option.isSome_none, Option.isSome_some, ne_eq, Decidable.not_not] at hc14
                   have hsd : saveD D i P = (Dk, e) := by unfold saveD; rw [hput]; simp only; rw [if_neg (by omega)]
                   have hPm : (P.length : Int) ≤ D.most := by omega
                   refine WC.skip ?_
                   refine WX.next ?_
                   refine WC.seq ?_
                   refine WC.seq ?_
                   refine WC.region ?_
                   refine WL.val rfl rfl rfl rfl (r_move rfl (ev_t rfl)) ?_
                   refine WL.val rfl rfl rfl rfl (r_neq rfl (ev_t rfl) ev_c) ?_
                   refine WL.nil ?_
                   refine WX.keep [(0, _), (3, _), (7, _), (79, _)] ⟨rfl, rfl, rfl, rfl, trivial⟩ ?_
                   refine WX.next ?_
                   refine WC.cond rfl (ev_t rfl) (fun hc16 => ?_) (fun hc16 => ?_)
                   · try (exfalso; first | (simp at hc16; done) | (simp only [decide_eq_true_eq, decide_eq_false_iff_not, Bool.not_eq_true', Bool.not_eq_false', Bool.not_eq_true, Bool.not_eq_false] at hc16; omega) | omega)
                     all_goals
                      try simp only [decide_eq_true_eq, decide_eq_false_iff_not, Bool.not_eq_true', Bool.not_eq_false', Bool.not_eq_true, Bool.not_eq_false, Option.isNone_none, Option.isNone_some, Option.isSome_none, Option.isSome_some, ne_eq, Decidable.not_not] at hc16
                      refine WC.seq ?_
                      refine WC.region ?_
                      refine WL.val rfl rfl rfl rfl (r_move rfl (ev_t rfl)) ?_
                      refine WL.val rfl rfl rfl rfl (r_assign rfl (ev_t rfl)) ?_
                      refine WL.nil ?_
                      refine WX.keep [(4, _)] ⟨rfl, trivial⟩ ?_
                      refine WX.next ?_
                      refine WC.ret ?_
                      refine WX.thenRet ?_
                      refine WX.retE1 rfl rfl ?_
                      first
                        | (have hz : (saveD D i P).2 ≠ 0 := by omega
                           have e1 : SS.save D 1 T x = ((saveD D i P).1, T, (saveD D i P).2) := by rw [hsv, if_neg (by omega), if_neg (by omega), if_neg hz]
                           rw [e1]
                           exact ⟨rfl, hU, F, _, hkeep hbt hdr hU.size, hd, hsep (by omega), fun k hk => .inl hk, fun k hk => hk.elim .inl (fun h => .inr ⟨by omega, by omega⟩)⟩)
                        | (have e1 : SS.save D 1 T x = (Dk, T, e) := by rw [hsv, if_neg (by omega), if_neg (by omega), hsd]; simp only; rw [if_neg (by omega)]
                           rw [e1]
                           exact ⟨rfl, hU, F, _, hkeep hbt hdr hU.size, hd, hsep (by omega), fun k hk => .inl hk, fun k hk => hk.elim .inl (fun h => .inr ⟨by omega, by omega⟩)⟩)
                   · try (exfalso; first | (simp at hc16; done) | (simp only [decide_eq_true_eq, decide_eq_false_iff_not, Bool.not_eq_true', Bool.not_eq_false', Bool.not_eq_true, Bool.not_eq_false] at hc16; omega) | omega)
                     all_goals
                      try simp only [decide_eq_true_eq, decide_eq_false_iff_not, Bool.not_eq_true', Bool.not_eq_false', Bool.not_eq_true, Bool.not_eq_false, Option.isNone_none, Option.isNone_some, Option.isSome_none, Option.isSome_some, ne_eq, Decidable.not_not] at hc16
                      refine WC.skip ?_
                      refine WX.next ?_
                      refine WC.seq ?_
                      refine WC.region ?_
                      first | refine WL.val rfl rfl rfl rfl (r_field0 rfl (ev_t rfl) fld_50_2) ?_ | refine WL.val rfl rfl rfl rfl (r_fieldAt rfl (ev_t rfl) fld_50_2) ?_
                      refine WL.val rfl rfl rfl rfl (r_load rfl (ev_t rfl) flat_22 (Blk.cell hB1 rfl)) ?_
                      refine WL.val rfl rfl rfl rfl (r_lenSlice (ts := #[]) rfl (ev_t rfl) elem_22) ?_
                      obtain ⟨wd, hwd⟩ : ∃ wd, wd = w'.heap.size := ⟨_, rfl⟩
                      replace hd := hd.mono (F' := fun k => G k ∨ (w4.heap.size ≤ k ∧ k < wd)) (fun k hk _ => hk.elim .inl (fun h => .inr ⟨h.1, by omega⟩))
                      refine WL.cons (SO.alloc rfl rfl rfl rfl (r_makeSlice (n := x.data.length) rfl (ev_t rfl) (ev_t rfl) row_22 (by omega) (by omega)) ?_)
                      intro w26 hu26 hBd hzd
                      have hs26 := hu26.size
                      replace hU := hU.trans hu26 (by first | exact (fun _ _ h => h) | exact (fun _ _ h => h.elim) | (intro k hl hk; (try simp only [At, New, Grow, From, No] at hk ⊢); omega) | (intro k hl hk; first | exact .inr hk | (rcases hk with hk | hk; exact .inr hk; omega) | (simp only [At] at hk; subst hk; exact .inl hFt) | (simp only [At] at hk; omega)))
                      replace hd := hd.upd hu26 (by first | exact (fun _ _ _ h => h) | (intro k hk hl hS; simp only [At] at hS; subst hS; rcases hk with hk | hk; (first | exact hGt hk | (have := hGb _ hk; omega)); omega))
                      replace hbt := hbt.upd hu26 (by first | exact (fun h => h) | (intro h; rcases h with h | h; exact hGt h; omega) | (simp only [At]; omega))
                      replace hdr := hdr.upd hu26 (by first | exact (fun _ _ _ h => h) | (intro k hk hl hS; have hk' := hFD k hk; first | (rcases hS with hS | hS; exact hFG k hk'.1 hS; omega) | (simp only [At] at hS; omega) | (simp only [At] at hS; subst hS; exact hFDt hk)))
                      replace hr := hr.upd hu26 (by first | exact (fun _ _ _ h => h) | (intro k hk hl hS; have hk' := hk.2; first | (rcases hS with hS | hS; exact (hH k hk.1 hk.2).2 hS; omega) | (simp only [At] at hS; omega) | (simp only [At] at hS; subst hS; exact (hH _ hk.1 hk.2).1 hFt)))
                      replace hB1 := hB1.upd hu26 (by first | exact (fun h => h) | (simp only [At]; omega) | (intro h; rcases h with h | h; (have := hGb _ h; omega); omega))
                      replace hpl := hpl.upd hu26 (by first | exact (fun _ _ _ h => h) | (intro k hk hl hS; simp only [New] at hk; first | (simp only [At] at hS; omega) | (rcases hS with hS | hS; (have := hGb _ hS; omega); omega)))
                      refine WL.val rfl rfl rfl rfl (r_assign rfl (ev_t rfl)) ?_
                      refine WL.nil ?_
                      refine WX.keep [(0, _), (3, _), (9, _)] ⟨rfl, rfl, rfl, trivial⟩ ?_
                      refine WX.next ?_
                      refine WC.seq ?_
                      refine WC.region ?_
                      refine WL.val rfl rfl rfl rfl (r_move rfl (ev_t rfl)) ?_
                      first | refine WL.val rfl rfl rfl rfl (r_field0 rfl (ev_t rfl) fld_50_2) ?_ | refine WL.val rfl rfl rfl rfl (r_fieldAt rfl (ev_t rfl) fld_50_2) ?_
                      refine WL.val rfl rfl rfl rfl (r_load rfl (ev_t rfl) flat_22 (Blk.cell hB1 rfl)) ?_
                      refine WL.cons (SO.copyAll hBd (rowCells_size _) hr (U8_one _) elem_22 size_5 rfl (ev_t rfl) (ev_t rfl) rfl rfl rfl rfl ?_)
                      intro w27 hu27 hBd hzd2
                      have hs27 := hu27.size
                      replace hU := hU.trans hu27 (by first | exact (fun _ _ h => h) | exact (fun _ _ h => h.elim) | (intro k hl hk; (try simp only [At, New, Grow, From, No] at hk ⊢); omega) | (intro k hl hk; first | exact .inr hk | (rcases hk with hk | hk; exact .inr hk; omega) | (simp only [At] at hk; subst hk; exact .inl hFt) | (simp only [At] at hk; omega)))
                      replace hd := hd.upd hu27 (by first | exact (fun _ _ _ h => h) | (intro k hk hl hS; simp only [At] at hS; subst hS; rcases hk with hk | hk; (first | exact hGt hk | (have := hGb _ hk; omega)); omega))
                      replace hbt := hbt.upd hu27 (by first | exact (fun h => h) | (intro h; rcases h with h | h; exact hGt h; omega) | (simp only [At]; omega))
                      replace hdr := hdr.upd hu27 (by first | exact (fun _ _ _ h => h) | (intro k hk hl hS; have hk' := hFD k hk; first | (rcases hS with hS | hS; exact hFG k hk'.1 hS; omega) | (simp only [At] at hS; omega) | (simp only [At] at hS; subst hS; exact hFDt hk)))
                      replace hr := hr.upd hu27 (by first | exact (fun _ _ _ h => h) | (intro k hk hl hS; have hk' := hk.2; first | (rcases hS with hS | hS; exact (hH k hk.1 hk.2).2 hS; omega) | (simp only [At] at hS; omega) | (simp only [At] at hS; subst hS; exact (hH _ hk.1 hk.2).1 hFt)))
                      replace hB1 := hB1.upd hu27 (by first | exact (fun h => h) | (simp only [At]; omega) | (intro h; rcases h with h | h; (have := hGb _ h; omega); omega))
                      refine WL.nil ?_
                      refine WX.keep [(0, _), (3, _), (9, _)] ⟨rfl, rfl, rfl, trivial⟩ ?_
                      refine WX.next ?_
                      refine WC.seq ?_
                      refine WC.draws' (fun u0_ u1_ => Upd (At t) u0_ u1_) (fun j => [0, 0, 0, 0, 0, 1, 0, 0, 0, 0, 0, 0, 0, 0, 0, 1, 0, 0, 2].getD j 0) (.calm 0 (.calm 1 (.calm 2 (.calm 3 (.calm 4 (.calm 7 (.calm 9 (.calm 11 (.held 8 (.held 10 (.calm 12 (.one 5 (.calm 6 (.calm 13 (.calm 14 (.one 15 (.calm 16 (.calm 17 (.one 18 (.done)))))))))))))))))))) mixed (by kernel_rfl) (by repeat (first | with_reducible exact Deaf.body | with_reducible apply Deaf.then | with_reducible apply Deaf.block)) ?_
                      intro w28 hu28
                      have hz28 := congrArg Array.size hu28.2.2.2
                      replace hu28 := Upd.of_draw hu28
                      have hs28 := hu28.size
                      replace hU := hU.trans hu28 (by first | exact (fun _ _ h => h) | exact (fun _ _ h => h.elim) | (intro k hl hk; (try simp only [At, New, Grow, From, No] at hk ⊢); omega) | (intro k hl hk; first | exact .inr hk | (rcases hk with hk | hk; exact .inr hk; omega) | (simp only [At] at hk; subst hk; exact .inl hFt) | (simp only [At] at hk; omega)))
                      replace hd := hd.upd hu28 (by first | exact (fun _ _ _ h => h) | (intro k hk hl hS; simp only [At] at hS; subst hS; rcases hk with hk | hk; (first | exact hGt hk | (have := hGb _ hk; omega)); omega))
                      replace hbt := hbt.upd hu28 (by first | exact (fun h => h) | (intro h; rcases h with h | h; exact hGt h; omega) | (simp only [At]; omega))
                      replace hdr := hdr.upd hu28 (by first | exact (fun _ _ _ h => h) | (intro k hk hl hS; have hk' := hFD k hk; first | (rcases hS with hS | hS; exact hFG k hk'.1 hS; omega) | (simp only [At] at hS; omega) | (simp only [At] at hS; subst hS; exact hFDt hk)))
                      replace hr := hr.upd hu28 (by first | exact (fun _ _ _ h => h) | (intro k hk hl hS; have hk' := hk.2; first | (rcases hS with hS | hS; exact (hH k hk.1 hk.2).2 hS; omega) | (simp only [At] at hS; omega) | (simp only [At] at hS; subst hS; exact (hH _ hk.1 hk.2).1 hFt)))
                      replace hB1 := hB1.upd hu28 (by first | exact (fun h => h) | (simp only [At]; omega) | (intro h; rcases h with h | h; (have := hGb _ h; omega); omega))
                      replace hBd := hBd.upd hu28 (by first | exact (fun h => h) | (simp only [At]; omega))
                      have hS20 := Upd.refl (At t) w28
                      refine WN.calm _ rfl rfl rfl rfl rfl (fun _ => r_move rfl (ev_t rfl)) ?_
                      refine WN.calm _ rfl rfl rfl rfl rfl (fun _ => r_move rfl (ev_t rfl)) ?_
                      refine WN.calm _ rfl rfl rfl rfl rfl (fun _ => r_move rfl (ev_t rfl)) ?_
                      refine WN.calm _ rfl rfl rfl rfl rfl (fun _ => r_nilCheck rfl (ev_t rfl)) ?_
                      first | refine WN.calm _ rfl rfl rfl rfl rfl (fun _ => r_field0 rfl (ev_t rfl) fld_89_2) ?_ | refine WN.calm _ rfl rfl rfl rfl rfl (fun _ => r_fieldAt rfl (ev_t rfl) fld_89_2) ?_
                      first | refine WN.calm _ rfl rfl rfl rfl rfl (fun _ => r_field0 rfl (ev_t rfl) fld_50_0) ?_ | refine WN.calm _ rfl rfl rfl rfl rfl (fun _ => r_fieldAt rfl (ev_t rfl) fld_50_0) ?_
                      first | refine WN.calm _ rfl rfl rfl rfl rfl (fun _ => r_field0 rfl (ev_t rfl) fld_50_1) ?_ | refine WN.calm _ rfl rfl rfl rfl rfl (fun _ => r_fieldAt rfl (ev_t rfl) fld_50_1) ?_
                      refine WN.calm _ rfl rfl rfl rfl rfl (fun _ => r_move rfl (ev_t rfl)) ?_
                      refine WN.held _ rfl rfl rfl rfl rfl hS20 (fun w' hS => r_load rfl (ev_t rfl) flat_48 (Blk.cell (hB1.upd hS (by (try simp only [At, From, No, Grow, New]); omega)) rfl)) ?_
                      refine WN.held _ rfl rfl rfl rfl rfl hS20 (fun w' hS => r_load rfl (ev_t rfl) flat_48 (Blk.cell (hB1.upd hS (by (try simp only [At, From, No, Grow, New]); omega)) rfl)) ?_
                      refine WN.calm _ rfl rfl rfl rfl rfl (fun _ => r_build (cs := #[_, _, _]) (vs := [(0, _), (1, _), (2, _)]) rfl ⟨⟨rfl, (ev_t rfl)⟩, ⟨rfl, (ev_t rfl)⟩, ⟨rfl, (ev_t rfl)⟩, trivial⟩ plc_50 zero_50 rfl) ?_
                      refine WN.step _ rfl (SO.val rfl rfl rfl rfl (r_load rfl (ev_t rfl) flat_3 (Blk.cell hbt rfl)) ?_)
                      refine ⟨hS20, ?_⟩
                      first | refine WN.calm _ rfl rfl rfl rfl rfl (fun _ => r_subN rfl ev_c (ev_t rfl) (by simp only [inK]; omega)) ?_ | refine WN.calm _ rfl rfl rfl rfl rfl (fun _ => r_sub rfl ev_c (ev_t rfl)) ?_
                      refine WN.calm _ rfl rfl rfl rfl rfl (fun _ => r_nilCheck rfl (ev_t rfl)) ?_
                      first | refine WN.calm _ rfl rfl rfl rfl rfl (fun _ => r_field0 rfl (ev_t rfl) fld_89_2) ?_ | refine WN.calm _ rfl rfl rfl rfl rfl (fun _ => r_fieldAt rfl (ev_t rfl) fld_89_2) ?_
                      rw [show (1 : Int) - (T.side : Int) = ((1 - T.side : Nat) : Int) by omega]
                      refine WN.step _ rfl (SO.store rfl (ev_t rfl) (ev_t rfl) size_3 hbt rfl rfl rfl rfl rfl ?_)
                      intro w29 hu29 hbt hz29
                      have hs29 := hu29.size
                      replace hS20 := Upd.transA hS20 hu29
                      replace hU := hU.trans hu29 (by first | exact (fun _ _ h => h) | exact (fun _ _ h => h.elim) | (intro k hl hk; (try simp only [At, New, Grow, From, No] at hk ⊢); omega) | (intro k hl hk; first | exact .inr hk | (rcases hk with hk | hk; exact .inr hk; omega) | (simp only [At] at hk; subst hk; exact .inl hFt) | (simp only [At] at hk; omega)))
                      replace hd := hd.upd hu29 (by first | exact (fun _ _ _ h => h) | (intro k hk hl hS; simp only [At] at hS; subst hS; rcases hk with hk | hk; (first | exact hGt hk | (have := hGb _ hk; omega)); omega))
                      replace hdr := hdr.upd hu29 (by first | exact (fun _ _ _ h => h) | (intro k hk hl hS; have hk' := hFD k hk; first | (rcases hS with hS | hS; exact hFG k hk'.1 hS; omega) | (simp only [At] at hS; omega) | (simp only [At] at hS; subst hS; exact hFDt hk)))
                      replace hr := hr.upd hu29 (by first | exact (fun _ _ _ h => h) | (intro k hk hl hS; have hk' := hk.2; first | (rcases hS with hS | hS; exact (hH k hk.1 hk.2).2 hS; omega) | (simp only [At] at hS; omega) | (simp only [At] at hS; subst hS; exact (hH _ hk.1 hk.2).1 hFt)))
                      replace hB1 := hB1.upd hu29 (by first | exact (fun h => h) | (simp only [At]; omega) | (intro h; rcases h with h | h; (have := hGb _ h; omega); omega))
                      replace hBd := hBd.upd hu29 (by first | exact (fun h => h) | (simp only [At]; omega))
                      refine ⟨hS20, ?_⟩
                      refine WN.calm _ rfl rfl rfl rfl rfl (fun _ => r_nilCheck rfl (ev_t rfl)) ?_
                      first | refine WN.calm _ rfl rfl rfl rfl rfl (fun _ => r_field0 rfl (ev_t rfl) fld_89_3) ?_ | refine WN.calm _ rfl rfl rfl rfl rfl (fun _ => r_fieldAt rfl (ev_t rfl) fld_89_3) ?_
                      refine WN.step _ rfl (SO.storeN (us := [_, _, _]) rfl (ev_t rfl) (ev_t rfl) size_50 hbt (Nat.le_of_ble_eq_true rfl) rfl rfl rfl rfl ?_)
                      intro w30 hu30 hbt hzt
                      have hs30 := hu30.size
                      try replace hS20 := Upd.transA hS20 hu30
                      replace hU := hU.trans hu30 (by first | exact (fun _ _ h => h) | exact (fun _ _ h => h.elim) | (intro k hl hk; (try simp only [At, New, Grow, From, No] at hk ⊢); omega) | (intro k hl hk; first | exact .inr hk | (rcases hk with hk | hk; exact .inr hk; omega) | (simp only [At] at hk; subst hk; exact .inl hFt) | (simp only [At] at hk; omega)))
                      replace hd := hd.upd hu30 (by first | exact (fun _ _ _ h => h) | (intro k hk hl hS; simp only [At] at hS; subst hS; rcases hk with hk | hk; (first | exact hGt hk | (have := hGb _ hk; omega)); omega))
                      replace hdr := hdr.upd hu30 (by first | exact (fun _ _ _ h => h) | (intro k hk hl hS; have hk' := hFD k hk; first | (rcases hS with hS | hS; exact hFG k hk'.1 hS; omega) | (simp only [At] at hS; omega) | (simp only [At] at hS; subst hS; exact hFDt hk)))
                      replace hr := hr.upd hu30 (by first | exact (fun _ _ _ h => h) | (intro k hk hl hS; have hk' := hk.2; first | (rcases hS with hS | hS; exact (hH k hk.1 hk.2).2 hS; omega) | (simp only [At] at hS; omega) | (simp only [At] at hS; subst hS; exact (hH _ hk.1 hk.2).1 hFt)))
                      replace hB1 := hB1.upd hu30 (by first | exact (fun h => h) | (simp only [At]; omega) | (intro h; rcases h with h | h; (have := hGb _ h; omega); omega))
                      replace hBd := hBd.upd hu30 (by first | exact (fun h => h) | (simp only [At]; omega))
                      refine ⟨trivial, ?_⟩
                      refine WN.done ?_
                      refine WX.keep [] trivial ?_
                      refine WX.next ?_
                      refine WC.seq ?_
                      refine WC.region ?_
                      refine WL.val rfl rfl rfl rfl (r_assign rfl ev_c) ?_
                      refine WL.nil ?_
                      refine WX.keep [(4, _)] ⟨rfl, trivial⟩ ?_
                      refine WX.next ?_
                      refine WC.ret ?_
                      refine WX.retE1 rfl rfl ?_
                      have e1 : SS.save D 1 T x = ((saveD D i P).1, ⟨1 - T.side, x⟩, 0) := by rw [hsv, if_neg (by omega), if_neg (by omega), if_pos (by omega)]
                      rw [e1]
                      have hdd := Rd.of_blk (F := At wd) (n := x.data.length) (sz := 1) hBd (by rw [hwd]; exact rfl) (by simp) (by omega)
                      have hbl := hBd.lt
                      refine ⟨rfl, hU, fun k => k = t ∨ k = wd, _, ⟨_, At wd, hbt, hdd, (fun h => by simp only [At] at h; omega), .inl rfl, fun k hk => ⟨.inr hk, by simp only [At] at hk; omega⟩⟩, hd, fun k hk hg => ?_, fun k hk => ?_, fun k hk => ?_⟩
                      · rcases hk with rfl | rfl
                        · rcases hg with hg | hg; exact hGt hg; omega
                        · rcases hg with hg | hg; (have := hGb _ hg; omega); omega
                      · rcases hk with rfl | rfl
                        · exact .inl hFt
                        · exact .inr ⟨by omega, by omega⟩
                      · rcases hk with hk | hk; exact .inl hk; exact .inr ⟨by omega, by omega⟩
end Go.Proofs.Ytejlmcdmoghmaaa
