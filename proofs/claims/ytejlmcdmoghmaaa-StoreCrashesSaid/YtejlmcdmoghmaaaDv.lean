/-
  The drum's methods: Restart.
-/
import Derived.Test.YtejlmcdmoghmaaaDt
namespace Go.Proofs.Ytejlmcdmoghmaaa
open Go
set_option linter.unusedSimpArgs false
set_option linter.unusedVariables false

def I64v (n : Int) : Value := .int .i64 n
def partL (l : List Trk) (cuts : List Int) (i : Nat) : List Trk := l.zipIdx.map fun x => if x.2 < i then fallT x.1 (cuts.getD x.2 (-1)) else x.1
theorem partL_get (l : List Trk) (cuts : List Int) (i j : Nat) : (partL l cuts i)[j]? = (l[j]?).map fun t => if j < i then fallT t (cuts.getD j (-1)) else t := by
  simp only [partL, List.getElem?_map, List.getElem?_zipIdx, Option.map_map, Function.comp_def, Nat.zero_add]
theorem partL_zero (l : List Trk) (cuts : List Int) : partL l cuts 0 = l := by
  apply List.ext_getElem?
  intro j
  rw [partL_get]
  simp
theorem partL_all (l : List Trk) (cuts : List Int) : partL l cuts l.length = fallL l cuts := by
  apply List.ext_getElem?
  intro j
  rw [partL_get]
  simp only [fallL, List.getElem?_map, List.getElem?_zipIdx, Option.map_map, Function.comp_def, Nat.zero_add]
  rcases Nat.lt_or_ge j l.length with h | h
  · simp [h]
  · simp [List.getElem?_eq_none h]
theorem partL_length (l : List Trk) (cuts : List Int) (i : Nat) : (partL l cuts i).length = l.length := by simp [partL]
theorem partL_step {l : List Trk} {cuts : List Int} {i : Nat} {t : Trk} (h : l[i]? = some t) : (partL l cuts i).set i (fallT t (cuts.getD i (-1))) = partL l cuts (i + 1) := by
  have hi : i < l.length := (List.getElem?_eq_some_iff.1 h).1
  apply List.ext_getElem?
  intro j
  rw [List.getElem?_set, partL_get, partL_get]
  split
  · rename_i e
    subst e
    rw [if_pos (by rw [partL_length]; exact hi), h]
    simp
  · rename_i hne
    cases l[j]? with
    | none => rfl
    | some u =>
      simp only [Option.map_some, Option.some.injEq]
      by_cases hj : j < i
      · rw [if_pos hj, if_pos (by omega)]
      · rw [if_neg hj, if_neg (by omega)]
theorem partL_mem {l : List Trk} {cuts : List Int} {i : Nat} {u : Trk} (h : u ∈ partL l cuts i) : ∃ x ∈ l, u = x ∨ ∃ c, u = fallT x c := by
  simp only [partL, List.mem_map] at h
  obtain ⟨⟨x, j⟩, hx, rfl⟩ := h
  have hm := (List.mem_zipIdx hx).2.2
  refine ⟨x, by rw [hm]; exact List.getElem_mem _, ?_⟩
  simp only
  split
  · exact .inr ⟨_, rfl⟩
  · exact .inl rfl
theorem take_same {q : List UInt8} {a b : Nat} (h : min a q.length = min b q.length) : q.take a = q.take b := by
  rw [List.take_eq_take_iff]
  exact h
theorem set_same {l : List TrkV} {i : Nat} {t : TrkV} (h : l[i]? = some t) : l.set i t = l := by
  obtain ⟨hi, he⟩ := List.getElem?_eq_some_iff.1 h
  rw [← he]
  exact List.set_getElem_self hi

set_option maxHeartbeats 1000000 in
theorem Restart_ok {w : World} {F G : Nat → Prop} {p : Nat} {D : DS} {cv : Value} {m : Nat} {cuts : List Int} (hd : IsD w F p D) (hr : Rd w G cv m 1 (cuts.map I64v)) (hG : ∀ k, G k → k < w.heap.size → ¬ F k) :
    Ret Try.prog 19 #[.pointer (some ⟨p, 0, none⟩), cv] w fun v' w' => v' = .int .i64 0 ∧ IsD w' (Grow F w w') p (D.restart cuts) ∧ Upd F w w' := by
  obtain ⟨Ac, cc, rfl, hcc⟩ := hr.slice_form
  have hm : cuts.length = m := by have := hr.len; simpa using this
  subst hm
  have hcm := hr.le
  obtain ⟨g0, l0, h0⟩ := hd
  have hb := h0.hd
  have hpF := h0.own.1
  have hD8 := h0.wf.len
  have hdw := h0.wf
  have hdl := h0.len
  have hd : IsD w F p D := ⟨g0, l0, h0⟩
  refine enterRet (vs := [_, _]) (N := 113) Try.func19 rfl rfl rfl ?_
  have hU := Upd.refl F w
  replace hr := hr.bound
  refine WC.keep [(0, _), (1, _)] ⟨rfl, rfl, trivial⟩ ?_
  refine WC.seq ?_
  refine WC.region ?_
  refine WL.val rfl rfl rfl rfl (r_assign rfl ev_c) ?_
  refine WL.nil ?_
  refine WX.keep [(0, _), (1, _)] ⟨rfl, rfl, trivial⟩ ?_
  refine WX.next ?_
  refine WC.seq ?_
  refine WC.seq ?_
  refine WC.region ?_
  refine WL.val rfl rfl rfl rfl (r_move rfl (ev_t rfl)) ?_
  refine WL.val rfl rfl rfl rfl (r_eqlPtrNil rfl (ev_t rfl) ev_c ptr_25) ?_
  refine WL.nil ?_
  refine WX.keep [(0, _), (1, _), (9, _)] ⟨rfl, rfl, rfl, trivial⟩ ?_
  refine WX.next ?_
  refine WC.cond rfl (ev_t rfl) (fun hc1 => ?_) (fun hc1 => ?_)
  · try (exfalso; first | (simp at hc1; done) | (simp only [decide_eq_true_eq, decide_eq_false_iff_not, Bool.not_eq_true', Bool.not_eq_false', Bool.not_eq_true, Bool.not_eq_false] at hc1; omega) | omega)
    all_goals
     try simp only [decide_eq_true_eq, decide_eq_false_iff_not, Bool.not_eq_true', Bool.not_eq_false', Bool.not_eq_true, Bool.not_eq_false, Option.isNone_none, Option.isNone_some, Option.isSome_none, Option.isSome_some, ne_eq, Decidable.not_not] at hc1
     refine WC.seq ?_
     refine WC.region ?_
     refine WL.val rfl rfl rfl rfl (r_assign rfl ev_c) ?_
     refine WL.nil ?_
     refine WX.keep [(4, _)] ⟨rfl, trivial⟩ ?_
     refine WX.next ?_
     refine WC.ret ?_
     refine WX.thenRet ?_
     refine WX.retE1 rfl rfl ?_
     fail
  · try (exfalso; first | (simp at hc1; done) | (simp only [decide_eq_true_eq, decide_eq_false_iff_not, Bool.not_eq_true', Bool.not_eq_false', Bool.not_eq_true, Bool.not_eq_false] at hc1; omega) | omega)
    all_goals
     try simp only [decide_eq_true_eq, decide_eq_false_iff_not, Bool.not_eq_true', Bool.not_eq_false', Bool.not_eq_true, Bool.not_eq_false, Option.isNone_none, Option.isNone_some, Option.isSome_none, Option.isSome_some, ne_eq, Decidable.not_not] at hc1
     refine WC.skip ?_
     refine WX.next ?_
     refine WC.seq ?_
     refine WC.seq ?_
     refine WC.region ?_
     refine WL.val rfl rfl rfl rfl (r_move rfl (ev_t rfl)) ?_
     refine WL.val rfl rfl rfl rfl (r_nilCheck rfl (ev_t rfl)) ?_
     first | refine WL.val rfl rfl rfl rfl (r_field0 rfl (ev_t rfl) fld_83_0) ?_ | refine WL.val rfl rfl rfl rfl (r_fieldAt rfl (ev_t rfl) fld_83_0) ?_
     refine WL.val rfl rfl rfl rfl (r_load rfl (ev_t rfl) flat_81 (Blk.cell hb rfl)) ?_
     refine WL.val rfl rfl rfl rfl (r_lenSlice (ts := #[]) rfl (ev_t rfl) elem_81) ?_
     refine WL.val rfl rfl rfl rfl (r_move rfl ev_c) ?_
     refine WL.nil ?_
     refine WX.keep [(0, _), (1, _), (14, _), (15, _)] ⟨rfl, rfl, rfl, rfl, trivial⟩ ?_
     refine WX.next ?_
     refine WC.block ?_
     -- loop 1: live [0, 1, 14, 15]
     refine WC.keep [(0, _), (1, _), (14, _), (15, _)] ⟨rfl, rfl, rfl, rfl, trivial⟩ ?_
     refine WC.loop (fun q E w' => ∃ i : Nat, i ≤ D.l.length ∧ q = D.l.length - i ∧ Upd F w w' ∧ IsD w' (Grow F w w') p { D with l := partL D.l cuts i } ∧ Rd w' (fun k => G k ∧ k < w.heap.size) (.slice Ac cuts.length cc) cuts.length 1 (cuts.map I64v) ∧   E = [(0, .pointer (some ⟨p, 0, none⟩)), (1, .slice Ac cuts.length cc), (14, .int .i64 (D.l.length : Int)), (15, .int .i64 (i : Int))]) (D.l.length) ?_ ?_
     · exact ⟨0, by omega, by omega, hU, by rw [partL_zero]; exact hd.mono (fun k hk _ => .inl hk), hr, rfl⟩
     · clear hU hb hd h0 hr
       rintro q E w' ⟨i, hi, rfl, hU, ⟨g, l, h⟩, hr, rfl⟩
       have hs0 := hU.size
       have hb := h.hd
       rw [show ({ D with l := partL D.l cuts i } : DS).l.length = D.l.length from partL_length _ _ _] at hb
       have hrow := h.row
       have hpg := h.ne
       refine WC.seq ?_
       refine WC.region ?_
       refine WL.val rfl rfl rfl rfl (r_lss rfl (ev_t rfl) (ev_t rfl)) ?_
       refine WL.nil ?_
       refine WX.keep [(0, _), (1, _), (14, _), (15, _), (16, _)] ⟨rfl, rfl, rfl, rfl, rfl, trivial⟩ ?_
       refine WX.next ?_
       refine WC.seq ?_
       refine WC.cond rfl (ev_t rfl) (fun hc4 => ?_) (fun hc4 => ?_)
       · try (exfalso; first | (simp at hc4; done) | (simp only [decide_eq_true_eq, decide_eq_false_iff_not, Bool.not_eq_true', Bool.not_eq_false', Bool.not_eq_true, Bool.not_eq_false] at hc4; omega) | omega)
         all_goals
          try simp only [decide_eq_true_eq, decide_eq_false_iff_not, Bool.not_eq_true', Bool.not_eq_false', Bool.not_eq_true, Bool.not_eq_false, Option.isNone_none, Option.isNone_some, Option.isSome_none, Option.isSome_some, ne_eq, Decidable.not_not] at hc4
          have hi' : i < D.l.length := by omega
          have hl := h.len
          simp only [partL_length] at hl
          obtain ⟨a, ha⟩ : ∃ a, D.l[i]? = some a := ⟨_, List.getElem?_eq_getElem hi'⟩
          obtain ⟨t, ht⟩ : ∃ t, l[i]? = some t := ⟨_, List.getElem?_eq_getElem (by omega)⟩
          have hok := h.ok i t a ht (by show (partL D.l cuts i)[i]? = _; rw [partL_get, ha]; simp)
          have hfp := h.fp _ _ ht
          have h2 := h.two _ _ ht
          have hwa := hdw.trk a (List.mem_of_getElem? ha)
          have hmo := hdw.most
          have hU0 := hU
          have hg8 : Grow F w w' g := h.own.2
          obtain ⟨sv, nv, fr, FS, FN⟩ := t
          obtain ⟨hsure, hnow, hfr⟩ := hok
          dsimp only at hsure hnow hfr hfp h2
          subst hfr
          obtain ⟨As, cs, rfl, hcs⟩ := Own.form hsure
          obtain ⟨An, cn, rfl, hcn⟩ := Own.form hnow
          have hGF : ∀ k, k < w.heap.size → (At p k ∨ At g k) → F k := fun k hk h1 => by
            rcases h1 with h1 | h1 <;> simp only [At] at h1 <;> subst h1
            · exact hpF
            · rcases hg8 with h3 | h3
              · exact h3
              · omega
          replace hU := Upd.refl (trkS p g ⟨.slice As a.sure.length cs, .slice An a.now.length cn, a.fresh, FS, FN⟩) w'
          have hTF : ∀ k, k < w.heap.size → trkS p g ⟨.slice As a.sure.length cs, .slice An a.now.length cn, a.fresh, FS, FN⟩ k → F k := fun k hk h1 => by
            have h3 : Grow F w w' k := by
              rcases h1 with rfl | rfl | h1
              · exact .inl hpF
              · exact hg8
              · exact (hfp k h1).1
            rcases h3 with h3 | h3
            · exact h3
            · omega
          obtain ⟨cut, hcut⟩ : ∃ cut, cut = cuts.getD i (-1) := ⟨_, rfl⟩
          refine WC.skip ?_
          refine WX.next ?_
          refine WC.seq ?_
          refine WC.block ?_
          refine WC.seq ?_
          refine WC.region ?_
          refine WL.val rfl rfl rfl rfl (r_move rfl (ev_t rfl)) ?_
          refine WL.val rfl rfl rfl rfl (r_assign rfl (ev_t rfl)) ?_
          refine WL.nil ?_
          refine WX.keep [(0, _), (1, _), (5, _), (14, _), (15, _)] ⟨rfl, rfl, rfl, rfl, rfl, trivial⟩ ?_
          refine WX.next ?_
          refine WC.seq ?_
          refine WC.region ?_
          refine WL.val rfl rfl rfl rfl (r_move rfl (ev_t rfl)) ?_
          refine WL.val rfl rfl rfl rfl (r_nilCheck rfl (ev_t rfl)) ?_
          first | refine WL.val rfl rfl rfl rfl (r_field0 rfl (ev_t rfl) fld_83_0) ?_ | refine WL.val rfl rfl rfl rfl (r_fieldAt rfl (ev_t rfl) fld_83_0) ?_
          refine WL.val rfl rfl rfl rfl (r_load rfl (ev_t rfl) flat_81 (Blk.cell hb rfl)) ?_
          refine WL.val rfl rfl rfl rfl (r_move rfl (ev_t rfl)) ?_
          refine WL.val rfl rfl rfl rfl (r_indexAddr rfl (ev_t rfl) (ev_t rfl) elem_81 size_86 (by omega) (by omega)) ?_
          refine WL.val rfl rfl rfl rfl (r_assign rfl (ev_t rfl)) ?_
          refine WL.nil ?_
          refine WX.keep [(0, _), (1, _), (5, _), (6, _), (14, _), (15, _)] ⟨rfl, rfl, rfl, rfl, rfl, rfl, trivial⟩ ?_
          refine WX.next ?_
          refine WC.seq ?_
          refine WC.region ?_
          refine WL.val rfl rfl rfl rfl (r_assign rfl ev_c) ?_
          refine WL.nil ?_
          refine WX.keep [(0, _), (1, _), (5, _), (6, _), (7, _), (14, _), (15, _)] ⟨rfl, rfl, rfl, rfl, rfl, rfl, rfl, trivial⟩ ?_
          refine WX.next ?_
          refine WC.seq ?_
          refine WC.seq ?_
          refine WC.region ?_
          refine WL.val rfl rfl rfl rfl (r_move rfl (ev_t rfl)) ?_
          refine WL.val rfl rfl rfl rfl (r_move rfl (ev_t rfl)) ?_
          refine WL.val rfl rfl rfl rfl (r_lenSlice (ts := #[]) rfl (ev_t rfl) elem_23) ?_
          refine WL.val rfl rfl rfl rfl (r_lss rfl (ev_t rfl) (ev_t rfl)) ?_
          refine WL.nil ?_
          refine WX.keep [(0, _), (1, _), (5, _), (6, _), (7, _), (14, _), (15, _), (27, _)] ⟨rfl, rfl, rfl, rfl, rfl, rfl, rfl, rfl, trivial⟩ ?_
          refine WX.next ?_
          refine WC.cond rfl (ev_t rfl) (fun hc8 => ?_) (fun hc8 => ?_)
          · try (exfalso; first | (simp at hc8; done) | (simp only [decide_eq_true_eq, decide_eq_false_iff_not, Bool.not_eq_true', Bool.not_eq_false', Bool.not_eq_true, Bool.not_eq_false] at hc8; omega) | omega)
            all_goals
             try simp only [decide_eq_true_eq, decide_eq_false_iff_not, Bool.not_eq_true', Bool.not_eq_false', Bool.not_eq_true, Bool.not_eq_false, Option.isNone_none, Option.isNone_some, Option.isSome_none, Option.isSome_some, ne_eq, Decidable.not_not] at hc8
             obtain ⟨bc, oc, rfl, _⟩ := hr.open (by omega)
             have hcg : (cuts.map I64v)[i]? = some (.int .i64 cut) := by rw [List.getElem?_map, hcut, List.getD_eq_getElem?_getD, List.getElem?_eq_getElem (by omega)]; rfl
             refine WC.region ?_
             refine WL.val rfl rfl rfl rfl (r_move rfl (ev_t rfl)) ?_
             refine WL.val rfl rfl rfl rfl (r_move rfl (ev_t rfl)) ?_
             refine WL.val rfl rfl rfl rfl (r_indexAddr rfl (ev_t rfl) (ev_t rfl) elem_23 size_3 (by omega) (by omega)) ?_
             refine WL.val rfl rfl rfl rfl (r_load rfl (ev_t rfl) flat_3 (hr.cell (j := i) (by omega) hcg)) ?_
             refine WL.val rfl rfl rfl rfl (r_assign rfl (ev_t rfl)) ?_
             refine WL.nil ?_
             refine WX.keep [(0, _), (1, _), (6, _), (7, _), (14, _), (15, _)] ⟨rfl, rfl, rfl, rfl, rfl, rfl, trivial⟩ ?_
             refine WX.next ?_
             refine WC.seq ?_
             refine WC.block ?_
             refine WC.seq ?_
             refine WC.region ?_
             refine WL.val rfl rfl rfl rfl (r_move rfl (ev_t rfl)) ?_
             refine WL.val rfl rfl rfl rfl (r_nilCheck rfl (ev_t rfl)) ?_
             first | refine WL.val rfl rfl rfl rfl (r_field0 rfl (ev_t rfl) fld_86_2) ?_ | refine WL.val rfl rfl rfl rfl (r_fieldAt rfl (ev_t rfl) fld_86_2) ?_
             refine WL.val rfl rfl rfl rfl (r_load rfl (ev_t rfl) flat_4 ((row_get hrow ht).2.2 (by omega))) ?_
             refine WL.val rfl rfl rfl rfl (r_move rfl (ev_t rfl)) ?_
             refine WL.cases 37 rfl (fun hb10_4 => ?_) (fun hb10_4 => ?_)
             · try (exfalso; first | (simp at hb10_4; done) | (simp only [decide_eq_true_eq, decide_eq_false_iff_not, Bool.not_eq_true', Bool.not_eq_false', Bool.not_eq_true, Bool.not_eq_false] at hb10_4; omega) | omega)
               all_goals
                try simp only [decide_eq_true_eq, decide_eq_false_iff_not, Bool.not_eq_true', Bool.not_eq_false', Bool.not_eq_true, Bool.not_eq_false, Option.isNone_none, Option.isNone_some, Option.isSome_none, Option.isSome_some, ne_eq, Decidable.not_not] at hb10_4
                refine WL.val rfl rfl rfl rfl (r_move rfl (ev_t rfl)) ?_
                refine WL.val rfl rfl rfl rfl (r_geq rfl (ev_t rfl) ev_c) ?_
                refine WL.val rfl rfl rfl rfl (r_pickT rfl (ev_t rfl) (ev_t rfl)) ?_
                refine WL.val rfl rfl rfl rfl (r_assign rfl (ev_t rfl)) ?_
                refine WL.nil ?_
                refine WX.keep [(0, _), (1, _), (6, _), (7, _), (14, _), (15, _), (32, _)] ⟨rfl, rfl, rfl, rfl, rfl, rfl, rfl, trivial⟩ ?_
                refine WX.next ?_
                refine WC.cond rfl (ev_t rfl) (fun hc10 => ?_) (fun hc10 => ?_)
                · try (exfalso; first | (simp at hc10; done) | (simp only [decide_eq_true_eq, decide_eq_false_iff_not, Bool.not_eq_true', Bool.not_eq_false', Bool.not_eq_true, Bool.not_eq_false] at hc10; omega) | omega)
                  all_goals
                   try simp only [decide_eq_true_eq, decide_eq_false_iff_not, Bool.not_eq_true', Bool.not_eq_false', Bool.not_eq_true, Bool.not_eq_false, Option.isNone_none, Option.isNone_some, Option.isSome_none, Option.isSome_some, ne_eq, Decidable.not_not] at hc10
                   refine WC.draws' (fun u0_ u1_ => Upd No u0_ u1_) (fun j => [0, 0, 0, 0, 0, 0, 0, 0, 0, 1, 0, 0, 0, 2, 0, 0, 2].getD j 0) (.calm 0 (.calm 1 (.calm 2 (.calm 3 (.calm 5 (.calm 6 (.calm 7 (.calm 8 (.held 4 (.one 9 (.calm 10 (.calm 11 (.calm 12 (.one 13 (.calm 14 (.calm 15 (.one 16 (.done)))))))))))))))))) mixed (by kernel_rfl) (by repeat (first | with_reducible exact Deaf.body | with_reducible apply Deaf.then | with_reducible apply Deaf.block)) ?_
                   intro w1 hu1
                   have hz1 := congrArg Array.size hu1.2.2.2
                   replace hu1 := Upd.of_draw hu1
                   have hs1 := hu1.size
                   replace hU := hU.trans hu1 (by first | exact (fun _ _ h => h) | exact (fun _ _ h => h.elim) | (intro k hl hk; (try simp only [At, New, Grow, From, No] at hk ⊢); omega) | (intro k hl hk; first | exact .inl hk | exact .inr (.inl hk) | exact .inr (.inr (.inr hk)) | exact .inr (.inr (.inl hk)) | (simp only [At] at hk; subst hk; exact hpF)))
                   replace hr := hr.upd hu1 (by first | exact (fun _ _ _ h => h) | (intro k hk hl e; exact hG k hk.1 hk.2 (by first | exact (hGF k hk.2 (by first | exact .inl e | exact .inr e)) | (simp only [At] at e; subst e; exact hpF))))
                   replace hb := hb.upd hu1 (by first | exact (fun h => h) | exact (fun h => (hfp _ (.inr h)).2.1 rfl) | exact hpg)
                   replace hrow := hrow.upd hu1 (by first | exact (fun h => h) | exact (fun e => hpg e.symm))
                   replace hsure := hsure.upd hu1 (by first | exact (fun _ _ _ h => h) | exact (fun k hk _ e => (hfp k (.inl hk)).2.2.1 e))
                   replace hnow := hnow.upd hu1 (by first | exact (fun _ _ _ h => h) | exact (fun k hk _ e => (hfp k (.inr hk)).2.2.1 e))
                   have hS11 := Upd.refl No w1
                   refine WN.calm _ rfl rfl rfl rfl rfl (fun _ => r_move rfl (ev_t rfl)) ?_
                   refine WN.calm _ rfl rfl rfl rfl rfl (fun _ => r_move rfl (ev_t rfl)) ?_
                   refine WN.calm _ rfl rfl rfl rfl rfl (fun _ => r_nilCheck rfl (ev_t rfl)) ?_
                   first | refine WN.calm _ rfl rfl rfl rfl rfl (fun _ => r_field0 rfl (ev_t rfl) fld_86_1) ?_ | refine WN.calm _ rfl rfl rfl rfl rfl (fun _ => r_fieldAt rfl (ev_t rfl) fld_86_1) ?_
                   refine WN.calm _ rfl rfl rfl rfl rfl (fun _ => r_move rfl (ev_t rfl)) ?_
                   refine WN.calm _ rfl rfl rfl rfl rfl (fun _ => r_move rfl (ev_t rfl)) ?_
                   refine WN.calm _ rfl rfl rfl rfl rfl (fun _ => r_nilCheck rfl (ev_t rfl)) ?_
                   first | refine WN.calm _ rfl rfl rfl rfl rfl (fun _ => r_field0 rfl (ev_t rfl) fld_86_1) ?_ | refine WN.calm _ rfl rfl rfl rfl rfl (fun _ => r_fieldAt rfl (ev_t rfl) fld_86_1) ?_
                   refine WN.held _ rfl rfl rfl rfl rfl hS11 (fun w' hS => r_load rfl (ev_t rfl) flat_22 ((row_get (hrow.upd hS (fun h => h)) ht).2.1 (by omega))) ?_
                   refine WN.step _ rfl (SO.val rfl rfl rfl rfl (r_load rfl (ev_t rfl) flat_22 ((row_get hrow ht).2.1 (by omega))) ?_)
                   refine ⟨hS11, ?_⟩
                   refine WN.calm _ rfl rfl rfl rfl rfl (fun _ => r_lenSlice (ts := #[]) rfl (ev_t rfl) elem_22) ?_
                   refine WN.calm _ rfl rfl rfl rfl rfl (fun _ => r_min rfl (ev_t rfl) (ev_t rfl)) ?_
                   obtain ⟨kk, hkk, hk1, hk2⟩ : ∃ kk : Nat, (if (a.now.length : Int) < cut then (a.now.length : Int) else cut) = (kk : Int) ∧ kk ≤ a.now.length ∧ min kk a.now.length = min cut.toNat a.now.length := by
                     split
                     · exact ⟨a.now.length, rfl, by omega, by omega⟩
                     · exact ⟨cut.toNat, by omega, by omega, rfl⟩
                   rw [hkk]
                   refine WN.calm _ rfl rfl rfl rfl rfl (fun _ => r_slice (l := 0) (h := kk) rfl (ev_t rfl) elem_22 size_5 bnd_none (bnd_some (ev_t rfl) (by omega)) (by omega) (by omega) (by omega)) ?_
                   refine WN.step _ rfl (SO.call (clone_ok ((hnow.rd (by omega)).sliceB (lo := 0) (h := kk) (by omega) (by omega))) rfl body_42 ⟨(ev_t rfl), trivial⟩ rfl rfl rfl rfl ?_)
                   rintro v w2 ⟨hnew, hu2⟩
                   have hs2 := hu2.size
                   try replace hS11 := Upd.transA hS11 hu2
                   replace hU := hU.trans hu2 (by first | exact (fun _ _ h => h) | exact (fun _ _ h => h.elim) | (intro k hl hk; (try simp only [At, New, Grow, From, No] at hk ⊢); omega) | (intro k hl hk; first | exact .inl hk | exact .inr (.inl hk) | exact .inr (.inr (.inr hk)) | exact .inr (.inr (.inl hk)) | (simp only [At] at hk; subst hk; exact hpF)))
                   replace hr := hr.upd hu2 (by first | exact (fun _ _ _ h => h) | (intro k hk hl e; exact hG k hk.1 hk.2 (by first | exact (hGF k hk.2 (by first | exact .inl e | exact .inr e)) | (simp only [At] at e; subst e; exact hpF))))
                   replace hb := hb.upd hu2 (by first | exact (fun h => h) | exact (fun h => (hfp _ (.inr h)).2.1 rfl) | exact hpg)
                   replace hrow := hrow.upd hu2 (by first | exact (fun h => h) | exact (fun e => hpg e.symm))
                   replace hsure := hsure.upd hu2 (by first | exact (fun _ _ _ h => h) | exact (fun k hk _ e => (hfp k (.inl hk)).2.2.1 e))
                   replace hnow := hnow.upd hu2 (by first | exact (fun _ _ _ h => h) | exact (fun k hk _ e => (hfp k (.inr hk)).2.2.1 e))
                   refine ⟨trivial, ?_⟩
                   refine WN.calm _ rfl rfl rfl rfl rfl (fun _ => r_nilCheck rfl (ev_t rfl)) ?_
                   first | refine WN.calm _ rfl rfl rfl rfl rfl (fun _ => r_field0 rfl (ev_t rfl) fld_86_0) ?_ | refine WN.calm _ rfl rfl rfl rfl rfl (fun _ => r_fieldAt rfl (ev_t rfl) fld_86_0) ?_
                   refine WN.step _ rfl (SO.store rfl (ev_t rfl) (ev_t rfl) size_22 hrow (blt_of (by rw [trkC_size]; omega)) hnew.one rfl rfl rfl ?_)
                   intro w3 hu3 hrow hzs
                   replace hnew := hnew.upd hu3 (fun k hk _ e => by simp only [At, New] at hk e; have := h.row.lt; omega)
                   have hs3 := hu3.size
                   try replace hS11 := Upd.transA hS11 hu3
                   replace hU := hU.trans hu3 (by first | exact (fun _ _ h => h) | exact (fun _ _ h => h.elim) | (intro k hl hk; (try simp only [At, New, Grow, From, No] at hk ⊢); omega) | (intro k hl hk; first | exact .inl hk | exact .inr (.inl hk) | exact .inr (.inr (.inr hk)) | exact .inr (.inr (.inl hk)) | (simp only [At] at hk; subst hk; exact hpF)))
                   replace hr := hr.upd hu3 (by first | exact (fun _ _ _ h => h) | (intro k hk hl e; exact hG k hk.1 hk.2 (by first | exact (hGF k hk.2 (by first | exact .inl e | exact .inr e)) | (simp only [At] at e; subst e; exact hpF))))
                   replace hb := hb.upd hu3 (by first | exact (fun h => h) | exact (fun h => (hfp _ (.inr h)).2.1 rfl) | exact hpg)
                   replace hsure := hsure.upd hu3 (by first | exact (fun _ _ _ h => h) | exact (fun k hk _ e => (hfp k (.inl hk)).2.2.1 e))
                   replace hnow := hnow.upd hu3 (by first | exact (fun _ _ _ h => h) | exact (fun k hk _ e => (hfp k (.inr hk)).2.2.1 e))
                   replace hrow := (row_set ht).1 _ (by omega) hrow
                   refine ⟨trivial, ?_⟩
                   refine WN.done ?_
                   refine WX.keep [(0, _), (1, _), (6, _), (14, _), (15, _)] ⟨rfl, rfl, rfl, rfl, rfl, trivial⟩ ?_
                   have hfs : fallS a cut = a.now.take kk := by unfold fallS; rw [if_pos ⟨by simp [*], by omega⟩]; exact (take_same hk2).symm
                   rw [List.drop_zero, Nat.sub_zero, ← hfs] at hnew
                   have hkl : kk = (fallS a cut).length := by rw [hfs, List.length_take]; omega
                   rw [hkl] at hnew
                   obtain ⟨svx, FX, hrow, hsx, hFX⟩ : ∃ svx FX, Blk w3 g (trkC (l.set i ⟨svx, .slice An a.now.length cn, a.fresh, FS, FN⟩)).toArray 86 ∧ Own w3 FX 5 1 svx (fallS a cut).length ((fallS a cut).map U8) ∧ (∀ k, FX k → (FS k ∨ w'.heap.size ≤ k) ∧ k ≠ g ∧ k < w3.heap.size) := ⟨v, _, hrow, hnew, fun k hk => by have := h.row.lt; simp only [New] at hk; exact ⟨.inr (by omega), by omega, by omega⟩⟩
                   refine WX.blockNormal ?_
                   refine WX.next ?_
                   obtain ⟨wx, hwx⟩ : ∃ wx, wx = w3 := ⟨_, rfl⟩
                   rw [← hwx] at hFX
                   have hfl := fallS_len a cut
                   have hsz2 : w'.heap.size ≤ wx.heap.size := by rw [hwx]; omega
                   refine WC.region ?_
                   refine WL.val rfl rfl rfl rfl (r_move rfl (ev_t rfl)) ?_
                   refine WL.val rfl rfl rfl rfl (r_move rfl (ev_t rfl)) ?_
                   refine WL.val rfl rfl rfl rfl (r_move rfl (ev_t rfl)) ?_
                   refine WL.val rfl rfl rfl rfl (r_nilCheck rfl (ev_t rfl)) ?_
                   first | refine WL.val rfl rfl rfl rfl (r_field0 rfl (ev_t rfl) fld_86_0) ?_ | refine WL.val rfl rfl rfl rfl (r_fieldAt rfl (ev_t rfl) fld_86_0) ?_
                   refine WL.val rfl rfl rfl rfl (r_load rfl (ev_t rfl) flat_22 ((row_get (i := i) (t := ⟨svx, .slice An a.now.length cn, a.fresh, FS, FN⟩) hrow (by rw [List.getElem?_set_self (by omega)])).1 (by omega))) ?_
                   refine WL.cons (SO.call (clone_ok (hsx.rd (by omega))) rfl body_42 ⟨(ev_t rfl), trivial⟩ rfl rfl rfl rfl ?_)
                   rintro v2 w4 ⟨hnew2, hu4⟩
                   have hx1 : wx.heap.size ≤ w4.heap.size := by rw [hwx]; exact hu4.size
                   rw [← hwx] at hnew2
                   have hs4 := hu4.size
                   replace hU := hU.trans hu4 (by first | exact (fun _ _ h => h) | exact (fun _ _ h => h.elim) | (intro k hl hk; (try simp only [At, New, Grow, From, No] at hk ⊢); omega) | (intro k hl hk; first | exact .inl hk | exact .inr (.inl hk) | exact .inr (.inr (.inr hk)) | exact .inr (.inr (.inl hk)) | (simp only [At] at hk; subst hk; exact hpF)))
                   replace hr := hr.upd hu4 (by first | exact (fun _ _ _ h => h) | (intro k hk hl e; exact hG k hk.1 hk.2 (by first | exact (hGF k hk.2 (by first | exact .inl e | exact .inr e)) | (simp only [At] at e; subst e; exact hpF))))
                   replace hb := hb.upd hu4 (by first | exact (fun h => h) | exact (fun h => (hfp _ (.inr h)).2.1 rfl) | exact hpg)
                   replace hrow := hrow.upd hu4 (by first | exact (fun h => h) | exact (fun e => hpg e.symm))
                   replace hsure := hsure.upd hu4 (by first | exact (fun _ _ _ h => h) | exact (fun k hk _ e => (hfp k (.inl hk)).2.2.1 e))
                   replace hnow := hnow.upd hu4 (by first | exact (fun _ _ _ h => h) | exact (fun k hk _ e => (hfp k (.inr hk)).2.2.1 e))
                   replace hsx := hsx.upd hu4 (by first | exact (fun _ _ _ h => h) | exact (fun k hk _ e => (hFX k hk).2.1 e))
                   refine WL.val rfl rfl rfl rfl (r_nilCheck rfl (ev_t rfl)) ?_
                   first | refine WL.val rfl rfl rfl rfl (r_field0 rfl (ev_t rfl) fld_86_1) ?_ | refine WL.val rfl rfl rfl rfl (r_fieldAt rfl (ev_t rfl) fld_86_1) ?_
                   refine WL.cons (SO.store rfl (ev_t rfl) (ev_t rfl) size_22 hrow (blt_of (by rw [trkC_size, List.length_set]; omega)) hnew2.one rfl rfl rfl ?_)
                   intro w5 hu5 hrow hzs
                   replace hnew2 := hnew2.upd hu5 (fun k hk _ e => by simp only [At, New] at hk e; have := h.row.lt; omega)
                   have hs5 := hu5.size
                   replace hU := hU.trans hu5 (by first | exact (fun _ _ h => h) | exact (fun _ _ h => h.elim) | (intro k hl hk; (try simp only [At, New, Grow, From, No] at hk ⊢); omega) | (intro k hl hk; first | exact .inl hk | exact .inr (.inl hk) | exact .inr (.inr (.inr hk)) | exact .inr (.inr (.inl hk)) | (simp only [At] at hk; subst hk; exact hpF)))
                   replace hr := hr.upd hu5 (by first | exact (fun _ _ _ h => h) | (intro k hk hl e; exact hG k hk.1 hk.2 (by first | exact (hGF k hk.2 (by first | exact .inl e | exact .inr e)) | (simp only [At] at e; subst e; exact hpF))))
                   replace hb := hb.upd hu5 (by first | exact (fun h => h) | exact (fun h => (hfp _ (.inr h)).2.1 rfl) | exact hpg)
                   replace hsure := hsure.upd hu5 (by first | exact (fun _ _ _ h => h) | exact (fun k hk _ e => (hfp k (.inl hk)).2.2.1 e))
                   replace hnow := hnow.upd hu5 (by first | exact (fun _ _ _ h => h) | exact (fun k hk _ e => (hfp k (.inr hk)).2.2.1 e))
                   replace hsx := hsx.upd hu5 (by first | exact (fun _ _ _ h => h) | exact (fun k hk _ e => (hFX k hk).2.1 e))
                   replace hrow := (row_set (i := i) (t := ⟨svx, .slice An a.now.length cn, a.fresh, FS, FN⟩) (by rw [List.getElem?_set_self (by omega)])).2.1 _ (by omega) hrow
                   rw [List.set_set] at hrow
                   refine WL.val rfl rfl rfl rfl (r_nilCheck rfl (ev_t rfl)) ?_
                   first | refine WL.val rfl rfl rfl rfl (r_field0 rfl (ev_t rfl) fld_86_2) ?_ | refine WL.val rfl rfl rfl rfl (r_fieldAt rfl (ev_t rfl) fld_86_2) ?_
                   refine WL.cons (SO.store rfl (ev_t rfl) ev_c size_4 hrow (blt_of (by rw [trkC_size, List.length_set]; omega)) rfl rfl rfl rfl ?_)
                   intro w6 hu6 hrow hzs2
                   replace hnew2 := hnew2.upd hu6 (fun k hk _ e => by simp only [At, New] at hk e; have := h.row.lt; omega)
                   have hs6 := hu6.size
                   replace hU := hU.trans hu6 (by first | exact (fun _ _ h => h) | exact (fun _ _ h => h.elim) | (intro k hl hk; (try simp only [At, New, Grow, From, No] at hk ⊢); omega) | (intro k hl hk; first | exact .inl hk | exact .inr (.inl hk) | exact .inr (.inr (.inr hk)) | exact .inr (.inr (.inl hk)) | (simp only [At] at hk; subst hk; exact hpF)))
                   replace hr := hr.upd hu6 (by first | exact (fun _ _ _ h => h) | (intro k hk hl e; exact hG k hk.1 hk.2 (by first | exact (hGF k hk.2 (by first | exact .inl e | exact .inr e)) | (simp only [At] at e; subst e; exact hpF))))
                   replace hb := hb.upd hu6 (by first | exact (fun h => h) | exact (fun h => (hfp _ (.inr h)).2.1 rfl) | exact hpg)
                   replace hsure := hsure.upd hu6 (by first | exact (fun _ _ _ h => h) | exact (fun k hk _ e => (hfp k (.inl hk)).2.2.1 e))
                   replace hnow := hnow.upd hu6 (by first | exact (fun _ _ _ h => h) | exact (fun k hk _ e => (hfp k (.inr hk)).2.2.1 e))
                   replace hsx := hsx.upd hu6 (by first | exact (fun _ _ _ h => h) | exact (fun k hk _ e => (hFX k hk).2.1 e))
                   replace hrow := (row_set (i := i) (t := ⟨svx, v2, a.fresh, FS, FN⟩) (by rw [List.getElem?_set_self (by omega)])).2.2 _ (by omega) hrow
                   rw [List.set_set] at hrow
                   refine WL.nil ?_
                   refine WX.keep [(0, _), (1, _), (14, _), (15, _)] ⟨rfl, rfl, rfl, rfl, trivial⟩ ?_
                   have hnx := hnew2.lt
                   have hput : DrumAt w6 (Grow (Grow F w w') w' w6) p g (l.set i ⟨svx, v2, false, FX, fun k => wx.heap.size ≤ k ∧ k < w6.heap.size⟩) { D with l := partL D.l cuts (i + 1) } := by
                     refine h.put (a' := fallT a cut) (D' := { D with l := partL D.l cuts (i + 1) }) (t' := ⟨svx, v2, false, FX, fun k => wx.heap.size ≤ k ∧ k < w6.heap.size⟩) ht hU (by rw [show ({ D with l := partL D.l cuts i } : DS).l.length = D.l.length from partL_length _ _ _]; exact hb) (by rw [trkC_fp]; exact hrow) ⟨hsx, hnew2.mono (fun k hk => by simp only [New] at hk; omega), rfl⟩ (by rw [hcut]; exact (partL_step ha).symm) ⟨hdw.most, by rw [partL_length]; exact hD8, hdw.armed, fun u hu => ?_⟩ (fun k hk => ?_) (fun k hk hk' => ?_)
                     · obtain ⟨x, hx, h3⟩ := partL_mem hu
                       have h4 := hdw.trk x hx
                       rcases h3 with rfl | ⟨c, rfl⟩
                       · exact h4
                       · have h5 := fallS_len x c
                         simp only [fallT]
                         omega
                     · rcases hk with hk | hk
                       · have h3 := hFX k hk
                         refine ⟨?_, by omega⟩
                         rcases h3.1 with h4 | h4
                         · exact .inl h4
                         · exact .inr (.inr (by omega))
                       · exact ⟨.inr (.inr (by simp only at hk; omega)), hk.2⟩
                     · have h3 := hFX k hk
                       simp only at hk'
                       omega
                   refine WX.blockNormal ?_
                   refine WX.next ?_
                   refine WC.region ?_
                   first | refine WL.val rfl rfl rfl rfl (r_addN rfl (ev_t rfl) ev_c (by simp only [inK]; omega)) ?_ | refine WL.val rfl rfl rfl rfl (r_add rfl (ev_t rfl) ev_c) ?_
                   refine WL.val rfl rfl rfl rfl (r_move rfl (ev_t rfl)) ?_
                   refine WL.nil ?_
                   refine WX.keep [(0, _), (1, _), (14, _), (15, _)] ⟨rfl, rfl, rfl, rfl, trivial⟩ ?_
                   refine WX.meet [(0, _), (1, _), (14, _), (15, _)] ⟨rfl, rfl, rfl, rfl, trivial⟩ ?_
                   exact ⟨D.l.length - (i + 1), by omega, i + 1, by omega, rfl, hU0.trans hU hTF, ⟨g, _, hput.mono (fun k hk _ => Grow.trans hU0.size hU.size hk)⟩, hr, rfl⟩
                · try (exfalso; first | (simp at hc10; done) | (simp only [decide_eq_true_eq, decide_eq_false_iff_not, Bool.not_eq_true', Bool.not_eq_false', Bool.not_eq_true, Bool.not_eq_false] at hc10; omega) | omega)
                  all_goals
                   try simp only [decide_eq_true_eq, decide_eq_false_iff_not, Bool.not_eq_true', Bool.not_eq_false', Bool.not_eq_true, Bool.not_eq_false, Option.isNone_none, Option.isNone_some, Option.isSome_none, Option.isSome_some, ne_eq, Decidable.not_not] at hc10
                   refine WC.seq ?_
                   refine WC.region ?_
                   refine WL.val rfl rfl rfl rfl (r_move rfl (ev_t rfl)) ?_
                   refine WL.val rfl rfl rfl rfl (r_nilCheck rfl (ev_t rfl)) ?_
                   first | refine WL.val rfl rfl rfl rfl (r_field0 rfl (ev_t rfl) fld_86_2) ?_ | refine WL.val rfl rfl rfl rfl (r_fieldAt rfl (ev_t rfl) fld_86_2) ?_
                   refine WL.val rfl rfl rfl rfl (r_load rfl (ev_t rfl) flat_4 ((row_get hrow ht).2.2 (by omega))) ?_
                   refine WL.val rfl rfl rfl rfl (r_not rfl (ev_t rfl)) ?_
                   refine WL.val rfl rfl rfl rfl (r_move rfl (ev_t rfl)) ?_
                   refine WL.cases 63 rfl (fun hb12_5 => ?_) (fun hb12_5 => ?_)
                   · try (exfalso; first | (simp at hb12_5; done) | (simp only [decide_eq_true_eq, decide_eq_false_iff_not, Bool.not_eq_true', Bool.not_eq_false', Bool.not_eq_true, Bool.not_eq_false] at hb12_5; omega) | omega)
                     all_goals
                      try simp only [decide_eq_true_eq, decide_eq_false_iff_not, Bool.not_eq_true', Bool.not_eq_false', Bool.not_eq_true, Bool.not_eq_false, Option.isNone_none, Option.isNone_some, Option.isSome_none, Option.isSome_some, ne_eq, Decidable.not_not] at hb12_5
                      refine WL.val rfl rfl rfl rfl (r_move rfl (ev_t rfl)) ?_
                      refine WL.val rfl rfl rfl rfl (r_gtr rfl (ev_t rfl) ev_c) ?_
                      refine WL.val rfl rfl rfl rfl (r_pickT rfl (ev_t rfl) (ev_t rfl)) ?_
                      refine WL.val rfl rfl rfl rfl (r_assign rfl (ev_t rfl)) ?_
                      refine WL.nil ?_
                      refine WX.keep [(0, _), (1, _), (6, _), (7, _), (14, _), (15, _), (57, _)] ⟨rfl, rfl, rfl, rfl, rfl, rfl, rfl, trivial⟩ ?_
                      refine WX.next ?_
                      refine WC.cond rfl (ev_t rfl) (fun hc12 => ?_) (fun hc12 => ?_)
                      · try (exfalso; first | (simp at hc12; done) | (simp only [decide_eq_true_eq, decide_eq_false_iff_not, Bool.not_eq_true', Bool.not_eq_false', Bool.not_eq_true, Bool.not_eq_false] at hc12; omega) | omega)
                        all_goals
                         try simp only [decide_eq_true_eq, decide_eq_false_iff_not, Bool.not_eq_true', Bool.not_eq_false', Bool.not_eq_true, Bool.not_eq_false, Option.isNone_none, Option.isNone_some, Option.isSome_none, Option.isSome_some, ne_eq, Decidable.not_not] at hc12
                         refine WC.draws' (fun u0_ u1_ => Upd No u0_ u1_) (fun j => [0, 0, 0, 0, 0, 0, 0, 0, 0, 0, 0, 0, 0, 0, 0, 0, 0, 0, 0, 0, 0, 1, 0, 0, 0, 2, 0, 0, 2].getD j 0) (.calm 0 (.calm 1 (.calm 2 (.calm 3 (.calm 5 (.calm 6 (.calm 7 (.calm 10 (.calm 11 (.calm 12 (.calm 13 (.calm 18 (.calm 19 (.calm 20 (.held 4 (.held 8 (.calm 9 (.held 14 (.calm 15 (.calm 16 (.calm 17 (.one 21 (.calm 22 (.calm 23 (.calm 24 (.one 25 (.calm 26 (.calm 27 (.one 28 (.done)))))))))))))))))))))))))))))) mixed (by kernel_rfl) (by repeat (first | with_reducible exact Deaf.body | with_reducible apply Deaf.then | with_reducible apply Deaf.block)) ?_
                         intro w7 hu7
                         have hz7 := congrArg Array.size hu7.2.2.2
                         replace hu7 := Upd.of_draw hu7
                         have hs7 := hu7.size
                         replace hU := hU.trans hu7 (by first | exact (fun _ _ h => h) | exact (fun _ _ h => h.elim) | (intro k hl hk; (try simp only [At, New, Grow, From, No] at hk ⊢); omega) | (intro k hl hk; first | exact .inl hk | exact .inr (.inl hk) | exact .inr (.inr (.inr hk)) | exact .inr (.inr (.inl hk)) | (simp only [At] at hk; subst hk; exact hpF)))
                         replace hr := hr.upd hu7 (by first | exact (fun _ _ _ h => h) | (intro k hk hl e; exact hG k hk.1 hk.2 (by first | exact (hGF k hk.2 (by first | exact .inl e | exact .inr e)) | (simp only [At] at e; subst e; exact hpF))))
                         replace hb := hb.upd hu7 (by first | exact (fun h => h) | exact (fun h => (hfp _ (.inr h)).2.1 rfl) | exact hpg)
                         replace hrow := hrow.upd hu7 (by first | exact (fun h => h) | exact (fun e => hpg e.symm))
                         replace hsure := hsure.upd hu7 (by first | exact (fun _ _ _ h => h) | exact (fun k hk _ e => (hfp k (.inl hk)).2.2.1 e))
                         replace hnow := hnow.upd hu7 (by first | exact (fun _ _ _ h => h) | exact (fun k hk _ e => (hfp k (.inr hk)).2.2.1 e))
                         have hS13 := Upd.refl No w7
                         refine WN.calm _ rfl rfl rfl rfl rfl (fun _ => r_move rfl (ev_t rfl)) ?_
                         refine WN.calm _ rfl rfl rfl rfl rfl (fun _ => r_move rfl (ev_t rfl)) ?_
                         refine WN.calm _ rfl rfl rfl rfl rfl (fun _ => r_nilCheck rfl (ev_t rfl)) ?_
                         first | refine WN.calm _ rfl rfl rfl rfl rfl (fun _ => r_field0 rfl (ev_t rfl) fld_86_1) ?_ | refine WN.calm _ rfl rfl rfl rfl rfl (fun _ => r_fieldAt rfl (ev_t rfl) fld_86_1) ?_
                         refine WN.calm _ rfl rfl rfl rfl rfl (fun _ => r_move rfl (ev_t rfl)) ?_
                         refine WN.calm _ rfl rfl rfl rfl rfl (fun _ => r_nilCheck rfl (ev_t rfl)) ?_
                         first | refine WN.calm _ rfl rfl rfl rfl rfl (fun _ => r_field0 rfl (ev_t rfl) fld_86_0) ?_ | refine WN.calm _ rfl rfl rfl rfl rfl (fun _ => r_fieldAt rfl (ev_t rfl) fld_86_0) ?_
                         refine WN.calm _ rfl rfl rfl rfl rfl (fun _ => r_move rfl (ev_t rfl)) ?_
                         refine WN.calm _ rfl rfl rfl rfl rfl (fun _ => r_move rfl (ev_t rfl)) ?_
                         refine WN.calm _ rfl rfl rfl rfl rfl (fun _ => r_nilCheck rfl (ev_t rfl)) ?_
                         first | refine WN.calm _ rfl rfl rfl rfl rfl (fun _ => r_field0 rfl (ev_t rfl) fld_86_1) ?_ | refine WN.calm _ rfl rfl rfl rfl rfl (fun _ => r_fieldAt rfl (ev_t rfl) fld_86_1) ?_
                         refine WN.calm _ rfl rfl rfl rfl rfl (fun _ => r_move rfl (ev_t rfl)) ?_
                         refine WN.calm _ rfl rfl rfl rfl rfl (fun _ => r_nilCheck rfl (ev_t rfl)) ?_
                         first | refine WN.calm _ rfl rfl rfl rfl rfl (fun _ => r_field0 rfl (ev_t rfl) fld_86_1) ?_ | refine WN.calm _ rfl rfl rfl rfl rfl (fun _ => r_fieldAt rfl (ev_t rfl) fld_86_1) ?_
                         refine WN.held _ rfl rfl rfl rfl rfl hS13 (fun w' hS => r_load rfl (ev_t rfl) flat_22 ((row_get (hrow.upd hS (fun h => h)) ht).2.1 (by omega))) ?_
                         refine WN.held _ rfl rfl rfl rfl rfl hS13 (fun w' hS => r_load rfl (ev_t rfl) flat_22 ((row_get (hrow.upd hS (fun h => h)) ht).1 (by omega))) ?_
                         refine WN.calm _ rfl rfl rfl rfl rfl (fun _ => r_lenSlice (ts := #[]) rfl (ev_t rfl) elem_22) ?_
                         refine WN.held _ rfl rfl rfl rfl rfl hS13 (fun w' hS => r_load rfl (ev_t rfl) flat_22 ((row_get (hrow.upd hS (fun h => h)) ht).2.1 (by omega))) ?_
                         refine WN.calm _ rfl rfl rfl rfl rfl (fun _ => r_lenSlice (ts := #[]) rfl (ev_t rfl) elem_22) ?_
                         refine WN.calm _ rfl rfl rfl rfl rfl (fun _ => r_min rfl (ev_t rfl) (ev_t rfl)) ?_
                         obtain ⟨kk, hkk, hk1⟩ : ∃ kk : Nat, (if (a.now.length : Int) < cut then (a.now.length : Int) else cut) = (kk : Int) ∧ kk = (min cut a.now.length).toNat := by
                           split
                           · exact ⟨a.now.length, rfl, by omega⟩
                           · exact ⟨cut.toNat, by omega, by omega⟩
                         rw [hkk]
                         have hkn : kk ≤ a.now.length := by omega
                         first | refine WN.calm _ rfl rfl rfl rfl rfl (fun _ => r_addN rfl (ev_t rfl) (ev_t rfl) (by simp only [inK]; omega)) ?_ | refine WN.calm _ rfl rfl rfl rfl rfl (fun _ => r_add rfl (ev_t rfl) (ev_t rfl)) ?_
                         refine WN.step _ rfl (SO.val rfl rfl rfl rfl (r_load rfl (ev_t rfl) flat_22 ((row_get hrow ht).2.1 (by omega))) ?_)
                         refine ⟨hS13, ?_⟩
                         refine WN.calm _ rfl rfl rfl rfl rfl (fun _ => r_lenSlice (ts := #[]) rfl (ev_t rfl) elem_22) ?_
                         refine WN.calm _ rfl rfl rfl rfl rfl (fun _ => r_min rfl (ev_t rfl) (ev_t rfl)) ?_
                         obtain ⟨k2, hk2, hk3, hk4⟩ : ∃ k2 : Nat, (if (a.now.length : Int) < (a.sure.length : Int) + (kk : Int) then (a.now.length : Int) else (a.sure.length : Int) + (kk : Int)) = (k2 : Int) ∧ k2 ≤ a.now.length ∧ min k2 a.now.length = min (a.sure.length + kk) a.now.length := by
                           split
                           · exact ⟨a.now.length, rfl, by omega, by omega⟩
                           · exact ⟨a.sure.length + kk, by omega, by omega, rfl⟩
                         rw [hk2]
                         refine WN.calm _ rfl rfl rfl rfl rfl (fun _ => r_slice (l := 0) (h := k2) rfl (ev_t rfl) elem_22 size_5 bnd_none (bnd_some (ev_t rfl) (by omega)) (by omega) (by omega) (by omega)) ?_
                         refine WN.step _ rfl (SO.call (clone_ok ((hnow.rd (by omega)).sliceB (lo := 0) (h := k2) (by omega) (by omega))) rfl body_42 ⟨(ev_t rfl), trivial⟩ rfl rfl rfl rfl ?_)
                         rintro v w8 ⟨hnew, hu8⟩
                         have hs8 := hu8.size
                         try replace hS13 := Upd.transA hS13 hu8
                         replace hU := hU.trans hu8 (by first | exact (fun _ _ h => h) | exact (fun _ _ h => h.elim) | (intro k hl hk; (try simp only [At, New, Grow, From, No] at hk ⊢); omega) | (intro k hl hk; first | exact .inl hk | exact .inr (.inl hk) | exact .inr (.inr (.inr hk)) | exact .inr (.inr (.inl hk)) | (simp only [At] at hk; subst hk; exact hpF)))
                         replace hr := hr.upd hu8 (by first | exact (fun _ _ _ h => h) | (intro k hk hl e; exact hG k hk.1 hk.2 (by first | exact (hGF k hk.2 (by first | exact .inl e | exact .inr e)) | (simp only [At] at e; subst e; exact hpF))))
                         replace hb := hb.upd hu8 (by first | exact (fun h => h) | exact (fun h => (hfp _ (.inr h)).2.1 rfl) | exact hpg)
                         replace hrow := hrow.upd hu8 (by first | exact (fun h => h) | exact (fun e => hpg e.symm))
                         replace hsure := hsure.upd hu8 (by first | exact (fun _ _ _ h => h) | exact (fun k hk _ e => (hfp k (.inl hk)).2.2.1 e))
                         replace hnow := hnow.upd hu8 (by first | exact (fun _ _ _ h => h) | exact (fun k hk _ e => (hfp k (.inr hk)).2.2.1 e))
                         refine ⟨trivial, ?_⟩
                         refine WN.calm _ rfl rfl rfl rfl rfl (fun _ => r_nilCheck rfl (ev_t rfl)) ?_
                         first | refine WN.calm _ rfl rfl rfl rfl rfl (fun _ => r_field0 rfl (ev_t rfl) fld_86_0) ?_ | refine WN.calm _ rfl rfl rfl rfl rfl (fun _ => r_fieldAt rfl (ev_t rfl) fld_86_0) ?_
                         refine WN.step _ rfl (SO.store rfl (ev_t rfl) (ev_t rfl) size_22 hrow (blt_of (by rw [trkC_size]; omega)) hnew.one rfl rfl rfl ?_)
                         intro w9 hu9 hrow hzs
                         replace hnew := hnew.upd hu9 (fun k hk _ e => by simp only [At, New] at hk e; have := h.row.lt; omega)
                         have hs9 := hu9.size
                         try replace hS13 := Upd.transA hS13 hu9
                         replace hU := hU.trans hu9 (by first | exact (fun _ _ h => h) | exact (fun _ _ h => h.elim) | (intro k hl hk; (try simp only [At, New, Grow, From, No] at hk ⊢); omega) | (intro k hl hk; first | exact .inl hk | exact .inr (.inl hk) | exact .inr (.inr (.inr hk)) | exact .inr (.inr (.inl hk)) | (simp only [At] at hk; subst hk; exact hpF)))
                         replace hr := hr.upd hu9 (by first | exact (fun _ _ _ h => h) | (intro k hk hl e; exact hG k hk.1 hk.2 (by first | exact (hGF k hk.2 (by first | exact .inl e | exact .inr e)) | (simp only [At] at e; subst e; exact hpF))))
                         replace hb := hb.upd hu9 (by first | exact (fun h => h) | exact (fun h => (hfp _ (.inr h)).2.1 rfl) | exact hpg)
                         replace hsure := hsure.upd hu9 (by first | exact (fun _ _ _ h => h) | exact (fun k hk _ e => (hfp k (.inl hk)).2.2.1 e))
                         replace hnow := hnow.upd hu9 (by first | exact (fun _ _ _ h => h) | exact (fun k hk _ e => (hfp k (.inr hk)).2.2.1 e))
                         replace hrow := (row_set ht).1 _ (by omega) hrow
                         refine ⟨trivial, ?_⟩
                         refine WN.done ?_
                         refine WX.keep [(0, _), (1, _), (6, _), (14, _), (15, _)] ⟨rfl, rfl, rfl, rfl, rfl, trivial⟩ ?_
                         have hfs : fallS a cut = a.now.take k2 := by unfold fallS; rw [if_neg (by rintro ⟨x, _⟩; simp [*] at *), if_pos ⟨by simp [*], by omega⟩]; exact (take_same (by rw [hk4, hk1])).symm
                         rw [List.drop_zero, Nat.sub_zero, ← hfs] at hnew
                         have hkl : k2 = (fallS a cut).length := by rw [hfs, List.length_take]; omega
                         rw [hkl] at hnew
                         obtain ⟨svx, FX, hrow, hsx, hFX⟩ : ∃ svx FX, Blk w9 g (trkC (l.set i ⟨svx, .slice An a.now.length cn, a.fresh, FS, FN⟩)).toArray 86 ∧ Own w9 FX 5 1 svx (fallS a cut).length ((fallS a cut).map U8) ∧ (∀ k, FX k → (FS k ∨ w'.heap.size ≤ k) ∧ k ≠ g ∧ k < w9.heap.size) := ⟨v, _, hrow, hnew, fun k hk => by have := h.row.lt; simp only [New] at hk; exact ⟨.inr (by omega), by omega, by omega⟩⟩
                         refine WX.blockNormal ?_
                         refine WX.next ?_
                         obtain ⟨wx, hwx⟩ : ∃ wx, wx = w9 := ⟨_, rfl⟩
                         rw [← hwx] at hFX
                         have hfl := fallS_len a cut
                         have hsz2 : w'.heap.size ≤ wx.heap.size := by rw [hwx]; omega
                         refine WC.region ?_
                         refine WL.val rfl rfl rfl rfl (r_move rfl (ev_t rfl)) ?_
                         refine WL.val rfl rfl rfl rfl (r_move rfl (ev_t rfl)) ?_
                         refine WL.val rfl rfl rfl rfl (r_move rfl (ev_t rfl)) ?_
                         refine WL.val rfl rfl rfl rfl (r_nilCheck rfl (ev_t rfl)) ?_
                         first | refine WL.val rfl rfl rfl rfl (r_field0 rfl (ev_t rfl) fld_86_0) ?_ | refine WL.val rfl rfl rfl rfl (r_fieldAt rfl (ev_t rfl) fld_86_0) ?_
                         refine WL.val rfl rfl rfl rfl (r_load rfl (ev_t rfl) flat_22 ((row_get (i := i) (t := ⟨svx, .slice An a.now.length cn, a.fresh, FS, FN⟩) hrow (by rw [List.getElem?_set_self (by omega)])).1 (by omega))) ?_
                         refine WL.cons (SO.call (clone_ok (hsx.rd (by omega))) rfl body_42 ⟨(ev_t rfl), trivial⟩ rfl rfl rfl rfl ?_)
                         rintro v2 w10 ⟨hnew2, hu10⟩
                         have hx1 : wx.heap.size ≤ w10.heap.size := by rw [hwx]; exact hu10.size
                         rw [← hwx] at hnew2
                         have hs10 := hu10.size
                         replace hU := hU.trans hu10 (by first | exact (fun _ _ h => h) | exact (fun _ _ h => h.elim) | (intro k hl hk; (try simp only [At, New, Grow, From, No] at hk ⊢); omega) | (intro k hl hk; first | exact .inl hk | exact .inr (.inl hk) | exact .inr (.inr (.inr hk)) | exact .inr (.inr (.inl hk)) | (simp only [At] at hk; subst hk; exact hpF)))
                         replace hr := hr.upd hu10 (by first | exact (fun _ _ _ h => h) | (intro k hk hl e; exact hG k hk.1 hk.2 (by first | exact (hGF k hk.2 (by first | exact .inl e | exact .inr e)) | (simp only [At] at e; subst e; exact hpF))))
                         replace hb := hb.upd hu10 (by first | exact (fun h => h) | exact (fun h => (hfp _ (.inr h)).2.1 rfl) | exact hpg)
                         replace hrow := hrow.upd hu10 (by first | exact (fun h => h) | exact (fun e => hpg e.symm))
                         replace hsure := hsure.upd hu10 (by first | exact (fun _ _ _ h => h) | exact (fun k hk _ e => (hfp k (.inl hk)).2.2.1 e))
                         replace hnow := hnow.upd hu10 (by first | exact (fun _ _ _ h => h) | exact (fun k hk _ e => (hfp k (.inr hk)).2.2.1 e))
                         replace hsx := hsx.upd hu10 (by first | exact (fun _ _ _ h => h) | exact (fun k hk _ e => (hFX k hk).2.1 e))
                         refine WL.val rfl rfl rfl rfl (r_nilCheck rfl (ev_t rfl)) ?_
                         first | refine WL.val rfl rfl rfl rfl (r_field0 rfl (ev_t rfl) fld_86_1) ?_ | refine WL.val rfl rfl rfl rfl (r_fieldAt rfl (ev_t rfl) fld_86_1) ?_
                         refine WL.cons (SO.store rfl (ev_t rfl) (ev_t rfl) size_22 hrow (blt_of (by rw [trkC_size, List.length_set]; omega)) hnew2.one rfl rfl rfl ?_)
                         intro w11 hu11 hrow hzs
                         replace hnew2 := hnew2.upd hu11 (fun k hk _ e => by simp only [At, New] at hk e; have := h.row.lt; omega)
                         have hs11 := hu11.size
                         replace hU := hU.trans hu11 (by first | exact (fun _ _ h => h) | exact (fun _ _ h => h.elim) | (intro k hl hk; (try simp only [At, New, Grow, From, No] at hk ⊢); omega) | (intro k hl hk; first | exact .inl hk | exact .inr (.inl hk) | exact .inr (.inr (.inr hk)) | exact .inr (.inr (.inl hk)) | (simp only [At] at hk; subst hk; exact hpF)))
                         replace hr := hr.upd hu11 (by first | exact (fun _ _ _ h => h) | (intro k hk hl e; exact hG k hk.1 hk.2 (by first | exact (hGF k hk.2 (by first | exact .inl e | exact .inr e)) | (simp only [At] at e; subst e; exact hpF))))
                         replace hb := hb.upd hu11 (by first | exact (fun h => h) | exact (fun h => (hfp _ (.inr h)).2.1 rfl) | exact hpg)
                         replace hsure := hsure.upd hu11 (by first | exact (fun _ _ _ h => h) | exact (fun k hk _ e => (hfp k (.inl hk)).2.2.1 e))
                         replace hnow := hnow.upd hu11 (by first | exact (fun _ _ _ h => h) | exact (fun k hk _ e => (hfp k (.inr hk)).2.2.1 e))
                         replace hsx := hsx.upd hu11 (by first | exact (fun _ _ _ h => h) | exact (fun k hk _ e => (hFX k hk).2.1 e))
                         replace hrow := (row_set (i := i) (t := ⟨svx, .slice An a.now.length cn, a.fresh, FS, FN⟩) (by rw [List.getElem?_set_self (by omega)])).2.1 _ (by omega) hrow
                         rw [List.set_set] at hrow
                         refine WL.val rfl rfl rfl rfl (r_nilCheck rfl (ev_t rfl)) ?_
                         first | refine WL.val rfl rfl rfl rfl (r_field0 rfl (ev_t rfl) fld_86_2) ?_ | refine WL.val rfl rfl rfl rfl (r_fieldAt rfl (ev_t rfl) fld_86_2) ?_
                         refine WL.cons (SO.store rfl (ev_t rfl) ev_c size_4 hrow (blt_of (by rw [trkC_size, List.length_set]; omega)) rfl rfl rfl rfl ?_)
                         intro w12 hu12 hrow hzs2
                         replace hnew2 := hnew2.upd hu12 (fun k hk _ e => by simp only [At, New] at hk e; have := h.row.lt; omega)
                         have hs12 := hu12.size
                         replace hU := hU.trans hu12 (by first | exact (fun _ _ h => h) | exact (fun _ _ h => h.elim) | (intro k hl hk; (try simp only [At, New, Grow, From, No] at hk ⊢); omega) | (intro k hl hk; first | exact .inl hk | exact .inr (.inl hk) | exact .inr (.inr (.inr hk)) | exact .inr (.inr (.inl hk)) | (simp only [At] at hk; subst hk; exact hpF)))
                         replace hr := hr.upd hu12 (by first | exact (fun _ _ _ h => h) | (intro k hk hl e; exact hG k hk.1 hk.2 (by first | exact (hGF k hk.2 (by first | exact .inl e | exact .inr e)) | (simp only [At] at e; subst e; exact hpF))))
                         replace hb := hb.upd hu12 (by first | exact (fun h => h) | exact (fun h => (hfp _ (.inr h)).2.1 rfl) | exact hpg)
                         replace hsure := hsure.upd hu12 (by first | exact (fun _ _ _ h => h) | exact (fun k hk _ e => (hfp k (.inl hk)).2.2.1 e))
                         replace hnow := hnow.upd hu12 (by first | exact (fun _ _ _ h => h) | exact (fun k hk _ e => (hfp k (.inr hk)).2.2.1 e))
                         replace hsx := hsx.upd hu12 (by first | exact (fun _ _ _ h => h) | exact (fun k hk _ e => (hFX k hk).2.1 e))
                         replace hrow := (row_set (i := i) (t := ⟨svx, v2, a.fresh, FS, FN⟩) (by rw [List.getElem?_set_self (by omega)])).2.2 _ (by omega) hrow
                         rw [List.set_set] at hrow
                         refine WL.nil ?_
                         refine WX.keep [(0, _), (1, _), (14, _), (15, _)] ⟨rfl, rfl, rfl, rfl, trivial⟩ ?_
                         have hnx := hnew2.lt
                         have hput : DrumAt w12 (Grow (Grow F w w') w' w12) p g (l.set i ⟨svx, v2, false, FX, fun k => wx.heap.size ≤ k ∧ k < w12.heap.size⟩) { D with l := partL D.l cuts (i + 1) } := by
                           refine h.put (a' := fallT a cut) (D' := { D with l := partL D.l cuts (i + 1) }) (t' := ⟨svx, v2, false, FX, fun k => wx.heap.size ≤ k ∧ k < w12.heap.size⟩) ht hU (by rw [show ({ D with l := partL D.l cuts i } : DS).l.length = D.l.length from partL_length _ _ _]; exact hb) (by rw [trkC_fp]; exact hrow) ⟨hsx, hnew2.mono (fun k hk => by simp only [New] at hk; omega), rfl⟩ (by rw [hcut]; exact (partL_step ha).symm) ⟨hdw.most, by rw [partL_length]; exact hD8, hdw.armed, fun u hu => ?_⟩ (fun k hk => ?_) (fun k hk hk' => ?_)
                           · obtain ⟨x, hx, h3⟩ := partL_mem hu
                             have h4 := hdw.trk x hx
                             rcases h3 with rfl | ⟨c, rfl⟩
                             · exact h4
                             · have h5 := fallS_len x c
                               simp only [fallT]
                               omega
                           · rcases hk with hk | hk
                             · have h3 := hFX k hk
                               refine ⟨?_, by omega⟩
                               rcases h3.1 with h4 | h4
                               · exact .inl h4
                               · exact .inr (.inr (by omega))
                             · exact ⟨.inr (.inr (by simp only at hk; omega)), hk.2⟩
                           · have h3 := hFX k hk
                             simp only at hk'
                             omega
                         refine WX.blockNormal ?_
                         refine WX.next ?_
                         refine WC.region ?_
                         first | refine WL.val rfl rfl rfl rfl (r_addN rfl (ev_t rfl) ev_c (by simp only [inK]; omega)) ?_ | refine WL.val rfl rfl rfl rfl (r_add rfl (ev_t rfl) ev_c) ?_
                         refine WL.val rfl rfl rfl rfl (r_move rfl (ev_t rfl)) ?_
                         refine WL.nil ?_
                         refine WX.keep [(0, _), (1, _), (14, _), (15, _)] ⟨rfl, rfl, rfl, rfl, trivial⟩ ?_
                         refine WX.meet [(0, _), (1, _), (14, _), (15, _)] ⟨rfl, rfl, rfl, rfl, trivial⟩ ?_
                         exact ⟨D.l.length - (i + 1), by omega, i + 1, by omega, rfl, hU0.trans hU hTF, ⟨g, _, hput.mono (fun k hk _ => Grow.trans hU0.size hU.size hk)⟩, hr, rfl⟩
                      · try (exfalso; first | (simp at hc12; done) | (simp only [decide_eq_true_eq, decide_eq_false_iff_not, Bool.not_eq_true', Bool.not_eq_false', Bool.not_eq_true, Bool.not_eq_false] at hc12; omega) | omega)
                        all_goals
                         try simp only [decide_eq_true_eq, decide_eq_false_iff_not, Bool.not_eq_true', Bool.not_eq_false', Bool.not_eq_true, Bool.not_eq_false, Option.isNone_none, Option.isNone_some, Option.isSome_none, Option.isSome_some, ne_eq, Decidable.not_not] at hc12
                         have hfs : fallS a cut = a.sure := by
                           unfold fallS
                           rw [if_neg (by rintro ⟨x1, x2⟩; first | omega | (rw [hb10_4] at x1; cases x1; done) | (rw [hb10_4] at hb12_5; cases hb12_5; done)), if_neg (by rintro ⟨x1, x2⟩; first | omega | (rw [hb10_4] at x1; cases x1; done) | (rw [hb10_4] at hb12_5; cases hb12_5; done))]
                         obtain ⟨svx, FX, hrow, hsx, hFX⟩ : ∃ svx FX, Blk w' g (trkC (l.set i ⟨svx, .slice An a.now.length cn, a.fresh, FS, FN⟩)).toArray 86 ∧ Own w' FX 5 1 svx (fallS a cut).length ((fallS a cut).map U8) ∧ (∀ k, FX k → (FS k ∨ w'.heap.size ≤ k) ∧ k ≠ g ∧ k < w'.heap.size) := ⟨.slice As a.sure.length cs, FS, by rw [set_same ht]; exact hrow, by rw [hfs]; exact hsure, fun k hk => ⟨.inl hk, (hfp k (.inl hk)).2.2.1, (hfp k (.inl hk)).2.2.2⟩⟩
                         refine WC.skip ?_
                         refine WX.blockNormal ?_
                         refine WX.next ?_
                         obtain ⟨wx, hwx⟩ : ∃ wx, wx = w' := ⟨_, rfl⟩
                         rw [← hwx] at hFX
                         have hfl := fallS_len a cut
                         have hsz2 : w'.heap.size ≤ wx.heap.size := by rw [hwx]; omega
                         refine WC.region ?_
                         refine WL.val rfl rfl rfl rfl (r_move rfl (ev_t rfl)) ?_
                         refine WL.val rfl rfl rfl rfl (r_move rfl (ev_t rfl)) ?_
                         refine WL.val rfl rfl rfl rfl (r_move rfl (ev_t rfl)) ?_
                         refine WL.val rfl rfl rfl rfl (r_nilCheck rfl (ev_t rfl)) ?_
                         first | refine WL.val rfl rfl rfl rfl (r_field0 rfl (ev_t rfl) fld_86_0) ?_ | refine WL.val rfl rfl rfl rfl (r_fieldAt rfl (ev_t rfl) fld_86_0) ?_
                         refine WL.val rfl rfl rfl rfl (r_load rfl (ev_t rfl) flat_22 ((row_get (i := i) (t := ⟨svx, .slice An a.now.length cn, a.fresh, FS, FN⟩) hrow (by rw [List.getElem?_set_self (by omega)])).1 (by omega))) ?_
                         refine WL.cons (SO.call (clone_ok (hsx.rd (by omega))) rfl body_42 ⟨(ev_t rfl), trivial⟩ rfl rfl rfl rfl ?_)
                         rintro v2 w13 ⟨hnew2, hu13⟩
                         have hx1 : wx.heap.size ≤ w13.heap.size := by rw [hwx]; exact hu13.size
                         rw [← hwx] at hnew2
                         have hs13 := hu13.size
                         replace hU := hU.trans hu13 (by first | exact (fun _ _ h => h) | exact (fun _ _ h => h.elim) | (intro k hl hk; (try simp only [At, New, Grow, From, No] at hk ⊢); omega) | (intro k hl hk; first | exact .inl hk | exact .inr (.inl hk) | exact .inr (.inr (.inr hk)) | exact .inr (.inr (.inl hk)) | (simp only [At] at hk; subst hk; exact hpF)))
                         replace hr := hr.upd hu13 (by first | exact (fun _ _ _ h => h) | (intro k hk hl e; exact hG k hk.1 hk.2 (by first | exact (hGF k hk.2 (by first | exact .inl e | exact .inr e)) | (simp only [At] at e; subst e; exact hpF))))
                         replace hb := hb.upd hu13 (by first | exact (fun h => h) | exact (fun h => (hfp _ (.inr h)).2.1 rfl) | exact hpg)
                         replace hrow := hrow.upd hu13 (by first | exact (fun h => h) | exact (fun e => hpg e.symm))
                         replace hsure := hsure.upd hu13 (by first | exact (fun _ _ _ h => h) | exact (fun k hk _ e => (hfp k (.inl hk)).2.2.1 e))
                         replace hnow := hnow.upd hu13 (by first | exact (fun _ _ _ h => h) | exact (fun k hk _ e => (hfp k (.inr hk)).2.2.1 e))
                         replace hsx := hsx.upd hu13 (by first | exact (fun _ _ _ h => h) | exact (fun k hk _ e => (hFX k hk).2.1 e))
                         refine WL.val rfl rfl rfl rfl (r_nilCheck rfl (ev_t rfl)) ?_
                         first | refine WL.val rfl rfl rfl rfl (r_field0 rfl (ev_t rfl) fld_86_1) ?_ | refine WL.val rfl rfl rfl rfl (r_fieldAt rfl (ev_t rfl) fld_86_1) ?_
                         refine WL.cons (SO.store rfl (ev_t rfl) (ev_t rfl) size_22 hrow (blt_of (by rw [trkC_size, List.length_set]; omega)) hnew2.one rfl rfl rfl ?_)
                         intro w14 hu14 hrow hzs
                         replace hnew2 := hnew2.upd hu14 (fun k hk _ e => by simp only [At, New] at hk e; have := h.row.lt; omega)
                         have hs14 := hu14.size
                         replace hU := hU.trans hu14 (by first | exact (fun _ _ h => h) | exact (fun _ _ h => h.elim) | (intro k hl hk; (try simp only [At, New, Grow, From, No] at hk ⊢); omega) | (intro k hl hk; first | exact .inl hk | exact .inr (.inl hk) | exact .inr (.inr (.inr hk)) | exact .inr (.inr (.inl hk)) | (simp only [At] at hk; subst hk; exact hpF)))
                         replace hr := hr.upd hu14 (by first | exact (fun _ _ _ h => h) | (intro k hk hl e; exact hG k hk.1 hk.2 (by first | exact (hGF k hk.2 (by first | exact .inl e | exact .inr e)) | (simp only [At] at e; subst e; exact hpF))))
                         replace hb := hb.upd hu14 (by first | exact (fun h => h) | exact (fun h => (hfp _ (.inr h)).2.1 rfl) | exact hpg)
                         replace hsure := hsure.upd hu14 (by first | exact (fun _ _ _ h => h) | exact (fun k hk _ e => (hfp k (.inl hk)).2.2.1 e))
                         replace hnow := hnow.upd hu14 (by first | exact (fun _ _ _ h => h) | exact (fun k hk _ e => (hfp k (.inr hk)).2.2.1 e))
                         replace hsx := hsx.upd hu14 (by first | exact (fun _ _ _ h => h) | exact (fun k hk _ e => (hFX k hk).2.1 e))
                         replace hrow := (row_set (i := i) (t := ⟨svx, .slice An a.now.length cn, a.fresh, FS, FN⟩) (by rw [List.getElem?_set_self (by omega)])).2.1 _ (by omega) hrow
                         rw [List.set_set] at hrow
                         refine WL.val rfl rfl rfl rfl (r_nilCheck rfl (ev_t rfl)) ?_
                         first | refine WL.val rfl rfl rfl rfl (r_field0 rfl (ev_t rfl) fld_86_2) ?_ | refine WL.val rfl rfl rfl rfl (r_fieldAt rfl (ev_t rfl) fld_86_2) ?_
                         refine WL.cons (SO.store rfl (ev_t rfl) ev_c size_4 hrow (blt_of (by rw [trkC_size, List.length_set]; omega)) rfl rfl rfl rfl ?_)
                         intro w15 hu15 hrow hzs2
                         replace hnew2 := hnew2.upd hu15 (fun k hk _ e => by simp only [At, New] at hk e; have := h.row.lt; omega)
                         have hs15 := hu15.size
                         replace hU := hU.trans hu15 (by first | exact (fun _ _ h => h) | exact (fun _ _ h => h.elim) | (intro k hl hk; (try simp only [At, New, Grow, From, No] at hk ⊢); omega) | (intro k hl hk; first | exact .inl hk | exact .inr (.inl hk) | exact .inr (.inr (.inr hk)) | exact .inr (.inr (.inl hk)) | (simp only [At] at hk; subst hk; exact hpF)))
                         replace hr := hr.upd hu15 (by first | exact (fun _ _ _ h => h) | (intro k hk hl e; exact hG k hk.1 hk.2 (by first | exact (hGF k hk.2 (by first | exact .inl e | exact .inr e)) | (simp only [At] at e; subst e; exact hpF))))
                         replace hb := hb.upd hu15 (by first | exact (fun h => h) | exact (fun h => (hfp _ (.inr h)).2.1 rfl) | exact hpg)
                         replace hsure := hsure.upd hu15 (by first | exact (fun _ _ _ h => h) | exact (fun k hk _ e => (hfp k (.inl hk)).2.2.1 e))
                         replace hnow := hnow.upd hu15 (by first | exact (fun _ _ _ h => h) | exact (fun k hk _ e => (hfp k (.inr hk)).2.2.1 e))
                         replace hsx := hsx.upd hu15 (by first | exact (fun _ _ _ h => h) | exact (fun k hk _ e => (hFX k hk).2.1 e))
                         replace hrow := (row_set (i := i) (t := ⟨svx, v2, a.fresh, FS, FN⟩) (by rw [List.getElem?_set_self (by omega)])).2.2 _ (by omega) hrow
                         rw [List.set_set] at hrow
                         refine WL.nil ?_
                         refine WX.keep [(0, _), (1, _), (14, _), (15, _)] ⟨rfl, rfl, rfl, rfl, trivial⟩ ?_
                         have hnx := hnew2.lt
                         have hput : DrumAt w15 (Grow (Grow F w w') w' w15) p g (l.set i ⟨svx, v2, false, FX, fun k => wx.heap.size ≤ k ∧ k < w15.heap.size⟩) { D with l := partL D.l cuts (i + 1) } := by
                           refine h.put (a' := fallT a cut) (D' := { D with l := partL D.l cuts (i + 1) }) (t' := ⟨svx, v2, false, FX, fun k => wx.heap.size ≤ k ∧ k < w15.heap.size⟩) ht hU (by rw [show ({ D with l := partL D.l cuts i } : DS).l.length = D.l.length from partL_length _ _ _]; exact hb) (by rw [trkC_fp]; exact hrow) ⟨hsx, hnew2.mono (fun k hk => by simp only [New] at hk; omega), rfl⟩ (by rw [hcut]; exact (partL_step ha).symm) ⟨hdw.most, by rw [partL_length]; exact hD8, hdw.armed, fun u hu => ?_⟩ (fun k hk => ?_) (fun k hk hk' => ?_)
                           · obtain ⟨x, hx, h3⟩ := partL_mem hu
                             have h4 := hdw.trk x hx
                             rcases h3 with rfl | ⟨c, rfl⟩
                             · exact h4
                             · have h5 := fallS_len x c
                               simp only [fallT]
                               omega
                           · rcases hk with hk | hk
                             · have h3 := hFX k hk
                               refine ⟨?_, by omega⟩
                               rcases h3.1 with h4 | h4
                               · exact .inl h4
                               · exact .inr (.inr (by omega))
                             · exact ⟨.inr (.inr (by simp only at hk; omega)), hk.2⟩
                           · have h3 := hFX k hk
                             simp only at hk'
                             omega
                         refine WX.blockNormal ?_
                         refine WX.next ?_
                         refine WC.region ?_
                         first | refine WL.val rfl rfl rfl rfl (r_addN rfl (ev_t rfl) ev_c (by simp only [inK]; omega)) ?_ | refine WL.val rfl rfl rfl rfl (r_add rfl (ev_t rfl) ev_c) ?_
                         refine WL.val rfl rfl rfl rfl (r_move rfl (ev_t rfl)) ?_
                         refine WL.nil ?_
                         refine WX.keep [(0, _), (1, _), (14, _), (15, _)] ⟨rfl, rfl, rfl, rfl, trivial⟩ ?_
                         refine WX.meet [(0, _), (1, _), (14, _), (15, _)] ⟨rfl, rfl, rfl, rfl, trivial⟩ ?_
                         exact ⟨D.l.length - (i + 1), by omega, i + 1, by omega, rfl, hU0.trans hU hTF, ⟨g, _, hput.mono (fun k hk _ => Grow.trans hU0.size hU.size hk)⟩, hr, rfl⟩
                   · try (exfalso; first | (simp at hb12_5; done) | (simp only [decide_eq_true_eq, decide_eq_false_iff_not, Bool.not_eq_true', Bool.not_eq_false', Bool.not_eq_true, Bool.not_eq_false] at hb12_5; omega) | omega)
                     all_goals
                      try simp only [decide_eq_true_eq, decide_eq_false_iff_not, Bool.not_eq_true', Bool.not_eq_false', Bool.not_eq_true, Bool.not_eq_false, Option.isNone_none, Option.isNone_some, Option.isSome_none, Option.isSome_some, ne_eq, Decidable.not_not] at hb12_5
                      refine WL.skip rfl rfl rfl ?_
                      refine WL.skip rfl rfl rfl ?_
                      refine WL.val rfl rfl rfl rfl (r_pickF rfl (ev_t rfl) ev_c) ?_
                      refine WL.val rfl rfl rfl rfl (r_assign rfl (ev_t rfl)) ?_
                      refine WL.nil ?_
                      refine WX.keep [(0, _), (1, _), (6, _), (7, _), (14, _), (15, _), (57, _)] ⟨rfl, rfl, rfl, rfl, rfl, rfl, rfl, trivial⟩ ?_
                      refine WX.next ?_
                      refine WC.cond_false rfl (ev_t rfl) ?_
                      have hfs : fallS a cut = a.sure := by
                        unfold fallS
                        rw [if_neg (by rintro ⟨x1, x2⟩; first | omega | (rw [hb10_4] at x1; cases x1; done) | (rw [hb10_4] at hb12_5; cases hb12_5; done)), if_neg (by rintro ⟨x1, x2⟩; first | omega | (rw [hb10_4] at x1; cases x1; done) | (rw [hb10_4] at hb12_5; cases hb12_5; done))]
                      obtain ⟨svx, FX, hrow, hsx, hFX⟩ : ∃ svx FX, Blk w' g (trkC (l.set i ⟨svx, .slice An a.now.length cn, a.fresh, FS, FN⟩)).toArray 86 ∧ Own w' FX 5 1 svx (fallS a cut).length ((fallS a cut).map U8) ∧ (∀ k, FX k → (FS k ∨ w'.heap.size ≤ k) ∧ k ≠ g ∧ k < w'.heap.size) := ⟨.slice As a.sure.length cs, FS, by rw [set_same ht]; exact hrow, by rw [hfs]; exact hsure, fun k hk => ⟨.inl hk, (hfp k (.inl hk)).2.2.1, (hfp k (.inl hk)).2.2.2⟩⟩
                      refine WC.skip ?_
                      refine WX.blockNormal ?_
                      refine WX.next ?_
                      obtain ⟨wx, hwx⟩ : ∃ wx, wx = w' := ⟨_, rfl⟩
                      rw [← hwx] at hFX
                      have hfl := fallS_len a cut
                      have hsz2 : w'.heap.size ≤ wx.heap.size := by rw [hwx]; omega
                      refine WC.region ?_
                      refine WL.val rfl rfl rfl rfl (r_move rfl (ev_t rfl)) ?_
                      refine WL.val rfl rfl rfl rfl (r_move rfl (ev_t rfl)) ?_
                      refine WL.val rfl rfl rfl rfl (r_move rfl (ev_t rfl)) ?_
                      refine WL.val rfl rfl rfl rfl (r_nilCheck rfl (ev_t rfl)) ?_
                      first | refine WL.val rfl rfl rfl rfl (r_field0 rfl (ev_t rfl) fld_86_0) ?_ | refine WL.val rfl rfl rfl rfl (r_fieldAt rfl (ev_t rfl) fld_86_0) ?_
                      refine WL.val rfl rfl rfl rfl (r_load rfl (ev_t rfl) flat_22 ((row_get (i := i) (t := ⟨svx, .slice An a.now.length cn, a.fresh, FS, FN⟩) hrow (by rw [List.getElem?_set_self (by omega)])).1 (by omega))) ?_
                      refine WL.cons (SO.call (clone_ok (hsx.rd (by omega))) rfl body_42 ⟨(ev_t rfl), trivial⟩ rfl rfl rfl rfl ?_)
                      rintro v2 w16 ⟨hnew2, hu16⟩
                      have hx1 : wx.heap.size ≤ w16.heap.size := by rw [hwx]; exact hu16.size
                      rw [← hwx] at hnew2
                      have hs16 := hu16.size
                      replace hU := hU.trans hu16 (by first | exact (fun _ _ h => h) | exact (fun _ _ h => h.elim) | (intro k hl hk; (try simp only [At, New, Grow, From, No] at hk ⊢); omega) | (intro k hl hk; first | exact .inl hk | exact .inr (.inl hk) | exact .inr (.inr (.inr hk)) | exact .inr (.inr (.inl hk)) | (simp only [At] at hk; subst hk; exact hpF)))
                      replace hr := hr.upd hu16 (by first | exact (fun _ _ _ h => h) | (intro k hk hl e; exact hG k hk.1 hk.2 (by first | exact (hGF k hk.2 (by first | exact .inl e | exact .inr e)) | (simp only [At] at e; subst e; exact hpF))))
                      replace hb := hb.upd hu16 (by first | exact (fun h => h) | exact (fun h => (hfp _ (.inr h)).2.1 rfl) | exact hpg)
                      replace hrow := hrow.upd hu16 (by first | exact (fun h => h) | exact (fun e => hpg e.symm))
                      replace hsure := hsure.upd hu16 (by first | exact (fun _ _ _ h => h) | exact (fun k hk _ e => (hfp k (.inl hk)).2.2.1 e))
                      replace hnow := hnow.upd hu16 (by first | exact (fun _ _ _ h => h) | exact (fun k hk _ e => (hfp k (.inr hk)).2.2.1 e))
                      replace hsx := hsx.upd hu16 (by first | exact (fun _ _ _ h => h) | exact (fun k hk _ e => (hFX k hk).2.1 e))
                      refine WL.val rfl rfl rfl rfl (r_nilCheck rfl (ev_t rfl)) ?_
                      first | refine WL.val rfl rfl rfl rfl (r_field0 rfl (ev_t rfl) fld_86_1) ?_ | refine WL.val rfl rfl rfl rfl (r_fieldAt rfl (ev_t rfl) fld_86_1) ?_
                      refine WL.cons (SO.store rfl (ev_t rfl) (ev_t rfl) size_22 hrow (blt_of (by rw [trkC_size, List.length_set]; omega)) hnew2.one rfl rfl rfl ?_)
                      intro w17 hu17 hrow hzs
                      replace hnew2 := hnew2.upd hu17 (fun k hk _ e => by simp only [At, New] at hk e; have := h.row.lt; omega)
                      have hs17 := hu17.size
                      replace hU := hU.trans hu17 (by first | exact (fun _ _ h => h) | exact (fun _ _ h => h.elim) | (intro k hl hk; (try simp only [At, New, Grow, From, No] at hk ⊢); omega) | (intro k hl hk; first | exact .inl hk | exact .inr (.inl hk) | exact .inr (.inr (.inr hk)) | exact .inr (.inr (.inl hk)) | (simp only [At] at hk; subst hk; exact hpF)))
                      replace hr := hr.upd hu17 (by first | exact (fun _ _ _ h => h) | (intro k hk hl e; exact hG k hk.1 hk.2 (by first | exact (hGF k hk.2 (by first | exact .inl e | exact .inr e)) | (simp only [At] at e; subst e; exact hpF))))
                      replace hb := hb.upd hu17 (by first | exact (fun h => h) | exact (fun h => (hfp _ (.inr h)).2.1 rfl) | exact hpg)
                      replace hsure := hsure.upd hu17 (by first | exact (fun _ _ _ h => h) | exact (fun k hk _ e => (hfp k (.inl hk)).2.2.1 e))
                      replace hnow := hnow.upd hu17 (by first | exact (fun _ _ _ h => h) | exact (fun k hk _ e => (hfp k (.inr hk)).2.2.1 e))
                      replace hsx := hsx.upd hu17 (by first | exact (fun _ _ _ h => h) | exact (fun k hk _ e => (hFX k hk).2.1 e))
                      replace hrow := (row_set (i := i) (t := ⟨svx, .slice An a.now.length cn, a.fresh, FS, FN⟩) (by rw [List.getElem?_set_self (by omega)])).2.1 _ (by omega) hrow
                      rw [List.set_set] at hrow
                      refine WL.val rfl rfl rfl rfl (r_nilCheck rfl (ev_t rfl)) ?_
                      first | refine WL.val rfl rfl rfl rfl (r_field0 rfl (ev_t rfl) fld_86_2) ?_ | refine WL.val rfl rfl rfl rfl (r_fieldAt rfl (ev_t rfl) fld_86_2) ?_
                      refine WL.cons (SO.store rfl (ev_t rfl) ev_c size_4 hrow (blt_of (by rw [trkC_size, List.length_set]; omega)) rfl rfl rfl rfl ?_)
                      intro w18 hu18 hrow hzs2
                      replace hnew2 := hnew2.upd hu18 (fun k hk _ e => by simp only [At, New] at hk e; have := h.row.lt; omega)
                      have hs18 := hu18.size
                      replace hU := hU.trans hu18 (by first | exact (fun _ _ h => h) | exact (fun _ _ h => h.elim) | (intro k hl hk; (try simp only [At, New, Grow, From, No] at hk ⊢); omega) | (intro k hl hk; first | exact .inl hk | exact .inr (.inl hk) | exact .inr (.inr (.inr hk)) | exact .inr (.inr (.inl hk)) | (simp only [At] at hk; subst hk; exact hpF)))
                      replace hr := hr.upd hu18 (by first | exact (fun _ _ _ h => h) | (intro k hk hl e; exact hG k hk.1 hk.2 (by first | exact (hGF k hk.2 (by first | exact .inl e | exact .inr e)) | (simp only [At] at e; subst e; exact hpF))))
                      replace hb := hb.upd hu18 (by first | exact (fun h => h) | exact (fun h => (hfp _ (.inr h)).2.1 rfl) | exact hpg)
                      replace hsure := hsure.upd hu18 (by first | exact (fun _ _ _ h => h) | exact (fun k hk _ e => (hfp k (.inl hk)).2.2.1 e))
                      replace hnow := hnow.upd hu18 (by first | exact (fun _ _ _ h => h) | exact (fun k hk _ e => (hfp k (.inr hk)).2.2.1 e))
                      replace hsx := hsx.upd hu18 (by first | exact (fun _ _ _ h => h) | exact (fun k hk _ e => (hFX k hk).2.1 e))
                      replace hrow := (row_set (i := i) (t := ⟨svx, v2, a.fresh, FS, FN⟩) (by rw [List.getElem?_set_self (by omega)])).2.2 _ (by omega) hrow
                      rw [List.set_set] at hrow
                      refine WL.nil ?_
                      refine WX.keep [(0, _), (1, _), (14, _), (15, _)] ⟨rfl, rfl, rfl, rfl, trivial⟩ ?_
                      have hnx := hnew2.lt
                      have hput : DrumAt w18 (Grow (Grow F w w') w' w18) p g (l.set i ⟨svx, v2, false, FX, fun k => wx.heap.size ≤ k ∧ k < w18.heap.size⟩) { D with l := partL D.l cuts (i + 1) } := by
                        refine h.put (a' := fallT a cut) (D' := { D with l := partL D.l cuts (i + 1) }) (t' := ⟨svx, v2, false, FX, fun k => wx.heap.size ≤ k ∧ k < w18.heap.size⟩) ht hU (by rw [show ({ D with l := partL D.l cuts i } : DS).l.length = D.l.length from partL_length _ _ _]; exact hb) (by rw [trkC_fp]; exact hrow) ⟨hsx, hnew2.mono (fun k hk => by simp only [New] at hk; omega), rfl⟩ (by rw [hcut]; exact (partL_step ha).symm) ⟨hdw.most, by rw [partL_length]; exact hD8, hdw.armed, fun u hu => ?_⟩ (fun k hk => ?_) (fun k hk hk' => ?_)
                        · obtain ⟨x, hx, h3⟩ := partL_mem hu
                          have h4 := hdw.trk x hx
                          rcases h3 with rfl | ⟨c, rfl⟩
                          · exact h4
                          · have h5 := fallS_len x c
                            simp only [fallT]
                            omega
                        · rcases hk with hk | hk
                          · have h3 := hFX k hk
                            refine ⟨?_, by omega⟩
                            rcases h3.1 with h4 | h4
                            · exact .inl h4
                            · exact .inr (.inr (by omega))
                          · exact ⟨.inr (.inr (by simp only at hk; omega)), hk.2⟩
                        · have h3 := hFX k hk
                          simp only at hk'
                          omega
                      refine WX.blockNormal ?_
                      refine WX.next ?_
                      refine WC.region ?_
                      first | refine WL.val rfl rfl rfl rfl (r_addN rfl (ev_t rfl) ev_c (by simp only [inK]; omega)) ?_ | refine WL.val rfl rfl rfl rfl (r_add rfl (ev_t rfl) ev_c) ?_
                      refine WL.val rfl rfl rfl rfl (r_move rfl (ev_t rfl)) ?_
                      refine WL.nil ?_
                      refine WX.keep [(0, _), (1, _), (14, _), (15, _)] ⟨rfl, rfl, rfl, rfl, trivial⟩ ?_
                      refine WX.meet [(0, _), (1, _), (14, _), (15, _)] ⟨rfl, rfl, rfl, rfl, trivial⟩ ?_
                      exact ⟨D.l.length - (i + 1), by omega, i + 1, by omega, rfl, hU0.trans hU hTF, ⟨g, _, hput.mono (fun k hk _ => Grow.trans hU0.size hU.size hk)⟩, hr, rfl⟩
             · try (exfalso; first | (simp at hb10_4; done) | (simp only [decide_eq_true_eq, decide_eq_false_iff_not, Bool.not_eq_true', Bool.not_eq_false', Bool.not_eq_true, Bool.not_eq_false] at hb10_4; omega) | omega)
               all_goals
                try simp only [decide_eq_true_eq, decide_eq_false_iff_not, Bool.not_eq_true', Bool.not_eq_false', Bool.not_eq_true, Bool.not_eq_false, Option.isNone_none, Option.isNone_some, Option.isSome_none, Option.isSome_some, ne_eq, Decidable.not_not] at hb10_4
                refine WL.skip rfl rfl rfl ?_
                refine WL.skip rfl rfl rfl ?_
                refine WL.val rfl rfl rfl rfl (r_pickF rfl (ev_t rfl) ev_c) ?_
                refine WL.val rfl rfl rfl rfl (r_assign rfl (ev_t rfl)) ?_
                refine WL.nil ?_
                refine WX.keep [(0, _), (1, _), (6, _), (7, _), (14, _), (15, _), (32, _)] ⟨rfl, rfl, rfl, rfl, rfl, rfl, rfl, trivial⟩ ?_
                refine WX.next ?_
                refine WC.cond_false rfl (ev_t rfl) ?_
                refine WC.seq ?_
                refine WC.region ?_
                refine WL.val rfl rfl rfl rfl (r_move rfl (ev_t rfl)) ?_
                refine WL.val rfl rfl rfl rfl (r_nilCheck rfl (ev_t rfl)) ?_
                first | refine WL.val rfl rfl rfl rfl (r_field0 rfl (ev_t rfl) fld_86_2) ?_ | refine WL.val rfl rfl rfl rfl (r_fieldAt rfl (ev_t rfl) fld_86_2) ?_
                refine WL.val rfl rfl rfl rfl (r_load rfl (ev_t rfl) flat_4 ((row_get hrow ht).2.2 (by omega))) ?_
                refine WL.val rfl rfl rfl rfl (r_not rfl (ev_t rfl)) ?_
                refine WL.val rfl rfl rfl rfl (r_move rfl (ev_t rfl)) ?_
                refine WL.cases 63 rfl (fun hb12_5 => ?_) (fun hb12_5 => ?_)
                · try (exfalso; first | (simp at hb12_5; done) | (simp only [decide_eq_true_eq, decide_eq_false_iff_not, Bool.not_eq_true', Bool.not_eq_false', Bool.not_eq_true, Bool.not_eq_false] at hb12_5; omega) | omega)
                  all_goals
                   try simp only [decide_eq_true_eq, decide_eq_false_iff_not, Bool.not_eq_true', Bool.not_eq_false', Bool.not_eq_true, Bool.not_eq_false, Option.isNone_none, Option.isNone_some, Option.isSome_none, Option.isSome_some, ne_eq, Decidable.not_not] at hb12_5
                   refine WL.val rfl rfl rfl rfl (r_move rfl (ev_t rfl)) ?_
                   refine WL.val rfl rfl rfl rfl (r_gtr rfl (ev_t rfl) ev_c) ?_
                   refine WL.val rfl rfl rfl rfl (r_pickT rfl (ev_t rfl) (ev_t rfl)) ?_
                   refine WL.val rfl rfl rfl rfl (r_assign rfl (ev_t rfl)) ?_
                   refine WL.nil ?_
                   refine WX.keep [(0, _), (1, _), (6, _), (7, _), (14, _), (15, _), (57, _)] ⟨rfl, rfl, rfl, rfl, rfl, rfl, rfl, trivial⟩ ?_
                   refine WX.next ?_
                   refine WC.cond rfl (ev_t rfl) (fun hc12 => ?_) (fun hc12 => ?_)
                   · try (exfalso; first | (simp at hc12; done) | (simp only [decide_eq_true_eq, decide_eq_false_iff_not, Bool.not_eq_true', Bool.not_eq_false', Bool.not_eq_true, Bool.not_eq_false] at hc12; omega) | omega)
                     all_goals
                      try simp only [decide_eq_true_eq, decide_eq_false_iff_not, Bool.not_eq_true', Bool.not_eq_false', Bool.not_eq_true, Bool.not_eq_false, Option.isNone_none, Option.isNone_some, Option.isSome_none, Option.isSome_some, ne_eq, Decidable.not_not] at hc12
                      refine WC.draws' (fun u0_ u1_ => Upd No u0_ u1_) (fun j => [0, 0, 0, 0, 0, 0, 0, 0, 0, 0, 0, 0, 0, 0, 0, 0, 0, 0, 0, 0, 0, 1, 0, 0, 0, 2, 0, 0, 2].getD j 0) (.calm 0 (.calm 1 (.calm 2 (.calm 3 (.calm 5 (.calm 6 (.calm 7 (.calm 10 (.calm 11 (.calm 12 (.calm 13 (.calm 18 (.calm 19 (.calm 20 (.held 4 (.held 8 (.calm 9 (.held 14 (.calm 15 (.calm 16 (.calm 17 (.one 21 (.calm 22 (.calm 23 (.calm 24 (.one 25 (.calm 26 (.calm 27 (.one 28 (.done)))))))))))))))))))))))))))))) mixed (by kernel_rfl) (by repeat (first | with_reducible exact Deaf.body | with_reducible apply Deaf.then | with_reducible apply Deaf.block)) ?_
                      intro w19 hu19
                      have hz19 := congrArg Array.size hu19.2.2.2
                      replace hu19 := Upd.of_draw hu19
                      have hs19 := hu19.size
                      replace hU := hU.trans hu19 (by first | exact (fun _ _ h => h) | exact (fun _ _ h => h.elim) | (intro k hl hk; (try simp only [At, New, Grow, From, No] at hk ⊢); omega) | (intro k hl hk; first | exact .inl hk | exact .inr (.inl hk) | exact .inr (.inr (.inr hk)) | exact .inr (.inr (.inl hk)) | (simp only [At] at hk; subst hk; exact hpF)))
                      replace hr := hr.upd hu19 (by first | exact (fun _ _ _ h => h) | (intro k hk hl e; exact hG k hk.1 hk.2 (by first | exact (hGF k hk.2 (by first | exact .inl e | exact .inr e)) | (simp only [At] at e; subst e; exact hpF))))
                      replace hb := hb.upd hu19 (by first | exact (fun h => h) | exact (fun h => (hfp _ (.inr h)).2.1 rfl) | exact hpg)
                      replace hrow := hrow.upd hu19 (by first | exact (fun h => h) | exact (fun e => hpg e.symm))
                      replace hsure := hsure.upd hu19 (by first | exact (fun _ _ _ h => h) | exact (fun k hk _ e => (hfp k (.inl hk)).2.2.1 e))
                      replace hnow := hnow.upd hu19 (by first | exact (fun _ _ _ h => h) | exact (fun k hk _ e => (hfp k (.inr hk)).2.2.1 e))
                      have hS13 := Upd.refl No w19
                      refine WN.calm _ rfl rfl rfl rfl rfl (fun _ => r_move rfl (ev_t rfl)) ?_
                      refine WN.calm _ rfl rfl rfl rfl rfl (fun _ => r_move rfl (ev_t rfl)) ?_
                      refine WN.calm _ rfl rfl rfl rfl rfl (fun _ => r_nilCheck rfl (ev_t rfl)) ?_
                      first | refine WN.calm _ rfl rfl rfl rfl rfl (fun _ => r_field0 rfl (ev_t rfl) fld_86_1) ?_ | refine WN.calm _ rfl rfl rfl rfl rfl (fun _ => r_fieldAt rfl (ev_t rfl) fld_86_1) ?_
                      refine WN.calm _ rfl rfl rfl rfl rfl (fun _ => r_move rfl (ev_t rfl)) ?_
                      refine WN.calm _ rfl rfl rfl rfl rfl (fun _ => r_nilCheck rfl (ev_t rfl)) ?_
                      first | refine WN.calm _ rfl rfl rfl rfl rfl (fun _ => r_field0 rfl (ev_t rfl) fld_86_0) ?_ | refine WN.calm _ rfl rfl rfl rfl rfl (fun _ => r_fieldAt rfl (ev_t rfl) fld_86_0) ?_
                      refine WN.calm _ rfl rfl rfl rfl rfl (fun _ => r_move rfl (ev_t rfl)) ?_
                      refine WN.calm _ rfl rfl rfl rfl rfl (fun _ => r_move rfl (ev_t rfl)) ?_
                      refine WN.calm _ rfl rfl rfl rfl rfl (fun _ => r_nilCheck rfl (ev_t rfl)) ?_
                      first | refine WN.calm _ rfl rfl rfl rfl rfl (fun _ => r_field0 rfl (ev_t rfl) fld_86_1) ?_ | refine WN.calm _ rfl rfl rfl rfl rfl (fun _ => r_fieldAt rfl (ev_t rfl) fld_86_1) ?_
                      refine WN.calm _ rfl rfl rfl rfl rfl (fun _ => r_move rfl (ev_t rfl)) ?_
                      refine WN.calm _ rfl rfl rfl rfl rfl (fun _ => r_nilCheck rfl (ev_t rfl)) ?_
                      first | refine WN.calm _ rfl rfl rfl rfl rfl (fun _ => r_field0 rfl (ev_t rfl) fld_86_1) ?_ | refine WN.calm _ rfl rfl rfl rfl rfl (fun _ => r_fieldAt rfl (ev_t rfl) fld_86_1) ?_
                      refine WN.held _ rfl rfl rfl rfl rfl hS13 (fun w' hS => r_load rfl (ev_t rfl) flat_22 ((row_get (hrow.upd hS (fun h => h)) ht).2.1 (by omega))) ?_
                      refine WN.held _ rfl rfl rfl rfl rfl hS13 (fun w' hS => r_load rfl (ev_t rfl) flat_22 ((row_get (hrow.upd hS (fun h => h)) ht).1 (by omega))) ?_
                      refine WN.calm _ rfl rfl rfl rfl rfl (fun _ => r_lenSlice (ts := #[]) rfl (ev_t rfl) elem_22) ?_
                      refine WN.held _ rfl rfl rfl rfl rfl hS13 (fun w' hS => r_load rfl (ev_t rfl) flat_22 ((row_get (hrow.upd hS (fun h => h)) ht).2.1 (by omega))) ?_
                      refine WN.calm _ rfl rfl rfl rfl rfl (fun _ => r_lenSlice (ts := #[]) rfl (ev_t rfl) elem_22) ?_
                      refine WN.calm _ rfl rfl rfl rfl rfl (fun _ => r_min rfl (ev_t rfl) (ev_t rfl)) ?_
                      obtain ⟨kk, hkk, hk1⟩ : ∃ kk : Nat, (if (a.now.length : Int) < cut then (a.now.length : Int) else cut) = (kk : Int) ∧ kk = (min cut a.now.length).toNat := by
                        split
                        · exact ⟨a.now.length, rfl, by omega⟩
                        · exact ⟨cut.toNat, by omega, by omega⟩
                      rw [hkk]
                      have hkn : kk ≤ a.now.length := by omega
                      first | refine WN.calm _ rfl rfl rfl rfl rfl (fun _ => r_addN rfl (ev_t rfl) (ev_t rfl) (by simp only [inK]; omega)) ?_ | refine WN.calm _ rfl rfl rfl rfl rfl (fun _ => r_add rfl (ev_t rfl) (ev_t rfl)) ?_
                      refine WN.step _ rfl (SO.val rfl rfl rfl rfl (r_load rfl (ev_t rfl) flat_22 ((row_get hrow ht).2.1 (by omega))) ?_)
                      refine ⟨hS13, ?_⟩
                      refine WN.calm _ rfl rfl rfl rfl rfl (fun _ => r_lenSlice (ts := #[]) rfl (ev_t rfl) elem_22) ?_
                      refine WN.calm _ rfl rfl rfl rfl rfl (fun _ => r_min rfl (ev_t rfl) (ev_t rfl)) ?_
                      obtain ⟨k2, hk2, hk3, hk4⟩ : ∃ k2 : Nat, (if (a.now.length : Int) < (a.sure.length : Int) + (kk : Int) then (a.now.length : Int) else (a.sure.length : Int) + (kk : Int)) = (k2 : Int) ∧ k2 ≤ a.now.length ∧ min k2 a.now.length = min (a.sure.length + kk) a.now.length := by
                        split
                        · exact ⟨a.now.length, rfl, by omega, by omega⟩
                        · exact ⟨a.sure.length + kk, by omega, by omega, rfl⟩
                      rw [hk2]
                      refine WN.calm _ rfl rfl rfl rfl rfl (fun _ => r_slice (l := 0) (h := k2) rfl (ev_t rfl) elem_22 size_5 bnd_none (bnd_some (ev_t rfl) (by omega)) (by omega) (by omega) (by omega)) ?_
                      refine WN.step _ rfl (SO.call (clone_ok ((hnow.rd (by omega)).sliceB (lo := 0) (h := k2) (by omega) (by omega))) rfl body_42 ⟨(ev_t rfl), trivial⟩ rfl rfl rfl rfl ?_)
                      rintro v w20 ⟨hnew, hu20⟩
                      have hs20 := hu20.size
                      try replace hS13 := Upd.transA hS13 hu20
                      replace hU := hU.trans hu20 (by first | exact (fun _ _ h => h) | exact (fun _ _ h => h.elim) | (intro k hl hk; (try simp only [At, New, Grow, From, No] at hk ⊢); omega) | (intro k hl hk; first | exact .inl hk | exact .inr (.inl hk) | exact .inr (.inr (.inr hk)) | exact .inr (.inr (.inl hk)) | (simp only [At] at hk; subst hk; exact hpF)))
                      replace hr := hr.upd hu20 (by first | exact (fun _ _ _ h => h) | (intro k hk hl e; exact hG k hk.1 hk.2 (by first | exact (hGF k hk.2 (by first | exact .inl e | exact .inr e)) | (simp only [At] at e; subst e; exact hpF))))
                      replace hb := hb.upd hu20 (by first | exact (fun h => h) | exact (fun h => (hfp _ (.inr h)).2.1 rfl) | exact hpg)
                      replace hrow := hrow.upd hu20 (by first | exact (fun h => h) | exact (fun e => hpg e.symm))
                      replace hsure := hsure.upd hu20 (by first | exact (fun _ _ _ h => h) | exact (fun k hk _ e => (hfp k (.inl hk)).2.2.1 e))
                      replace hnow := hnow.upd hu20 (by first | exact (fun _ _ _ h => h) | exact (fun k hk _ e => (hfp k (.inr hk)).2.2.1 e))
                      refine ⟨trivial, ?_⟩
                      refine WN.calm _ rfl rfl rfl rfl rfl (fun _ => r_nilCheck rfl (ev_t rfl)) ?_
                      first | refine WN.calm _ rfl rfl rfl rfl rfl (fun _ => r_field0 rfl (ev_t rfl) fld_86_0) ?_ | refine WN.calm _ rfl rfl rfl rfl rfl (fun _ => r_fieldAt rfl (ev_t rfl) fld_86_0) ?_
                      refine WN.step _ rfl (SO.store rfl (ev_t rfl) (ev_t rfl) size_22 hrow (blt_of (by rw [trkC_size]; omega)) hnew.one rfl rfl rfl ?_)
                      intro w21 hu21 hrow hzs
                      replace hnew := hnew.upd hu21 (fun k hk _ e => by simp only [At, New] at hk e; have := h.row.lt; omega)
                      have hs21 := hu21.size
                      try replace hS13 := Upd.transA hS13 hu21
                      replace hU := hU.trans hu21 (by first | exact (fun _ _ h => h) | exact (fun _ _ h => h.elim) | (intro k hl hk; (try simp only [At, New, Grow, From, No] at hk ⊢); omega) | (intro k hl hk; first | exact .inl hk | exact .inr (.inl hk) | exact .inr (.inr (.inr hk)) | exact .inr (.inr (.inl hk)) | (simp only [At] at hk; subst hk; exact hpF)))
                      replace hr := hr.upd hu21 (by first | exact (fun _ _ _ h => h) | (intro k hk hl e; exact hG k hk.1 hk.2 (by first | exact (hGF k hk.2 (by first | exact .inl e | exact .inr e)) | (simp only [At] at e; subst e; exact hpF))))
                      replace hb := hb.upd hu21 (by first | exact (fun h => h) | exact (fun h => (hfp _ (.inr h)).2.1 rfl) | exact hpg)
                      replace hsure := hsure.upd hu21 (by first | exact (fun _ _ _ h => h) | exact (fun k hk _ e => (hfp k (.inl hk)).2.2.1 e))
                      replace hnow := hnow.upd hu21 (by first | exact (fun _ _ _ h => h) | exact (fun k hk _ e => (hfp k (.inr hk)).2.2.1 e))
                      replace hrow := (row_set ht).1 _ (by omega) hrow
                      refine ⟨trivial, ?_⟩
                      refine WN.done ?_
                      refine WX.keep [(0, _), (1, _), (6, _), (14, _), (15, _)] ⟨rfl, rfl, rfl, rfl, rfl, trivial⟩ ?_
                      have hfs : fallS a cut = a.now.take k2 := by unfold fallS; rw [if_neg (by rintro ⟨x, _⟩; simp [*] at *), if_pos ⟨by simp [*], by omega⟩]; exact (take_same (by rw [hk4, hk1])).symm
                      rw [List.drop_zero, Nat.sub_zero, ← hfs] at hnew
                      have hkl : k2 = (fallS a cut).length := by rw [hfs, List.length_take]; omega
                      rw [hkl] at hnew
                      obtain ⟨svx, FX, hrow, hsx, hFX⟩ : ∃ svx FX, Blk w21 g (trkC (l.set i ⟨svx, .slice An a.now.length cn, a.fresh, FS, FN⟩)).toArray 86 ∧ Own w21 FX 5 1 svx (fallS a cut).length ((fallS a cut).map U8) ∧ (∀ k, FX k → (FS k ∨ w'.heap.size ≤ k) ∧ k ≠ g ∧ k < w21.heap.size) := ⟨v, _, hrow, hnew, fun k hk => by have := h.row.lt; simp only [New] at hk; exact ⟨.inr (by omega), by omega, by omega⟩⟩
                      refine WX.blockNormal ?_
                      refine WX.next ?_
                      obtain ⟨wx, hwx⟩ : ∃ wx, wx = w21 := ⟨_, rfl⟩
                      rw [← hwx] at hFX
                      have hfl := fallS_len a cut
                      have hsz2 : w'.heap.size ≤ wx.heap.size := by rw [hwx]; omega
                      refine WC.region ?_
                      refine WL.val rfl rfl rfl rfl (r_move rfl (ev_t rfl)) ?_
                      refine WL.val rfl rfl rfl rfl (r_move rfl (ev_t rfl)) ?_
                      refine WL.val rfl rfl rfl rfl (r_move rfl (ev_t rfl)) ?_
                      refine WL.val rfl rfl rfl rfl (r_nilCheck rfl (ev_t rfl)) ?_
                      first | refine WL.val rfl rfl rfl rfl (r_field0 rfl (ev_t rfl) fld_86_0) ?_ | refine WL.val rfl rfl rfl rfl (r_fieldAt rfl (ev_t rfl) fld_86_0) ?_
                      refine WL.val rfl rfl rfl rfl (r_load rfl (ev_t rfl) flat_22 ((row_get (i := i) (t := ⟨svx, .slice An a.now.length cn, a.fresh, FS, FN⟩) hrow (by rw [List.getElem?_set_self (by omega)])).1 (by omega))) ?_
                      refine WL.cons (SO.call (clone_ok (hsx.rd (by omega))) rfl body_42 ⟨(ev_t rfl), trivial⟩ rfl rfl rfl rfl ?_)
                      rintro v2 w22 ⟨hnew2, hu22⟩
                      have hx1 : wx.heap.size ≤ w22.heap.size := by rw [hwx]; exact hu22.size
                      rw [← hwx] at hnew2
                      have hs22 := hu22.size
                      replace hU := hU.trans hu22 (by first | exact (fun _ _ h => h) | exact (fun _ _ h => h.elim) | (intro k hl hk; (try simp only [At, New, Grow, From, No] at hk ⊢); omega) | (intro k hl hk; first | exact .inl hk | exact .inr (.inl hk) | exact .inr (.inr (.inr hk)) | exact .inr (.inr (.inl hk)) | (simp only [At] at hk; subst hk; exact hpF)))
                      replace hr := hr.upd hu22 (by first | exact (fun _ _ _ h => h) | (intro k hk hl e; exact hG k hk.1 hk.2 (by first | exact (hGF k hk.2 (by first | exact .inl e | exact .inr e)) | (simp only [At] at e; subst e; exact hpF))))
                      replace hb := hb.upd hu22 (by first | exact (fun h => h) | exact (fun h => (hfp _ (.inr h)).2.1 rfl) | exact hpg)
                      replace hrow := hrow.upd hu22 (by first | exact (fun h => h) | exact (fun e => hpg e.symm))
                      replace hsure := hsure.upd hu22 (by first | exact (fun _ _ _ h => h) | exact (fun k hk _ e => (hfp k (.inl hk)).2.2.1 e))
                      replace hnow := hnow.upd hu22 (by first | exact (fun _ _ _ h => h) | exact (fun k hk _ e => (hfp k (.inr hk)).2.2.1 e))
                      replace hsx := hsx.upd hu22 (by first | exact (fun _ _ _ h => h) | exact (fun k hk _ e => (hFX k hk).2.1 e))
                      refine WL.val rfl rfl rfl rfl (r_nilCheck rfl (ev_t rfl)) ?_
                      first | refine WL.val rfl rfl rfl rfl (r_field0 rfl (ev_t rfl) fld_86_1) ?_ | refine WL.val rfl rfl rfl rfl (r_fieldAt rfl (ev_t rfl) fld_86_1) ?_
                      refine WL.cons (SO.store rfl (ev_t rfl) (ev_t rfl) size_22 hrow (blt_of (by rw [trkC_size, List.length_set]; omega)) hnew2.one rfl rfl rfl ?_)
                      intro w23 hu23 hrow hzs
                      replace hnew2 := hnew2.upd hu23 (fun k hk _ e => by simp only [At, New] at hk e; have := h.row.lt; omega)
                      have hs23 := hu23.size
                      replace hU := hU.trans hu23 (by first | exact (fun _ _ h => h) | exact (fun _ _ h => h.elim) | (intro k hl hk; (try simp only [At, New, Grow, From, No] at hk ⊢); omega) | (intro k hl hk; first | exact .inl hk | exact .inr (.inl hk) | exact .inr (.inr (.inr hk)) | exact .inr (.inr (.inl hk)) | (simp only [At] at hk; subst hk; exact hpF)))
                      replace hr := hr.upd hu23 (by first | exact (fun _ _ _ h => h) | (intro k hk hl e; exact hG k hk.1 hk.2 (by first | exact (hGF k hk.2 (by first | exact .inl e | exact .inr e)) | (simp only [At] at e; subst e; exact hpF))))
                      replace hb := hb.upd hu23 (by first | exact (fun h => h) | exact (fun h => (hfp _ (.inr h)).2.1 rfl) | exact hpg)
                      replace hsure := hsure.upd hu23 (by first | exact (fun _ _ _ h => h) | exact (fun k hk _ e => (hfp k (.inl hk)).2.2.1 e))
                      replace hnow := hnow.upd hu23 (by first | exact (fun _ _ _ h => h) | exact (fun k hk _ e => (hfp k (.inr hk)).2.2.1 e))
                      replace hsx := hsx.upd hu23 (by first | exact (fun _ _ _ h => h) | exact (fun k hk _ e => (hFX k hk).2.1 e))
                      replace hrow := (row_set (i := i) (t := ⟨svx, .slice An a.now.length cn, a.fresh, FS, FN⟩) (by rw [List.getElem?_set_self (by omega)])).2.1 _ (by omega) hrow
                      rw [List.set_set] at hrow
                      refine WL.val rfl rfl rfl rfl (r_nilCheck rfl (ev_t rfl)) ?_
                      first | refine WL.val rfl rfl rfl rfl (r_field0 rfl (ev_t rfl) fld_86_2) ?_ | refine WL.val rfl rfl rfl rfl (r_fieldAt rfl (ev_t rfl) fld_86_2) ?_
                      refine WL.cons (SO.store rfl (ev_t rfl) ev_c size_4 hrow (blt_of (by rw [trkC_size, List.length_set]; omega)) rfl rfl rfl rfl ?_)
                      intro w24 hu24 hrow hzs2
                      replace hnew2 := hnew2.upd hu24 (fun k hk _ e => by simp only [At, New] at hk e; have := h.row.lt; omega)
                      have hs24 := hu24.size
                      replace hU := hU.trans hu24 (by first | exact (fun _ _ h => h) | exact (fun _ _ h => h.elim) | (intro k hl hk; (try simp only [At, New, Grow, From, No] at hk ⊢); omega) | (intro k hl hk; first | exact .inl hk | exact .inr (.inl hk) | exact .inr (.inr (.inr hk)) | exact .inr (.inr (.inl hk)) | (simp only [At] at hk; subst hk; exact hpF)))
                      replace hr := hr.upd hu24 (by first | exact (fun _ _ _ h => h) | (intro k hk hl e; exact hG k hk.1 hk.2 (by first | exact (hGF k hk.2 (by first | exact .inl e | exact .inr e)) | (simp only [At] at e; subst e; exact hpF))))
                      replace hb := hb.upd hu24 (by first | exact (fun h => h) | exact (fun h => (hfp _ (.inr h)).2.1 rfl) | exact hpg)
                      replace hsure := hsure.upd hu24 (by first | exact (fun _ _ _ h => h) | exact (fun k hk _ e => (hfp k (.inl hk)).2.2.1 e))
                      replace hnow := hnow.upd hu24 (by first | exact (fun _ _ _ h => h) | exact (fun k hk _ e => (hfp k (.inr hk)).2.2.1 e))
                      replace hsx := hsx.upd hu24 (by first | exact (fun _ _ _ h => h) | exact (fun k hk _ e => (hFX k hk).2.1 e))
                      replace hrow := (row_set (i := i) (t := ⟨svx, v2, a.fresh, FS, FN⟩) (by rw [List.getElem?_set_self (by omega)])).2.2 _ (by omega) hrow
                      rw [List.set_set] at hrow
                      refine WL.nil ?_
                      refine WX.keep [(0, _), (1, _), (14, _), (15, _)] ⟨rfl, rfl, rfl, rfl, trivial⟩ ?_
                      have hnx := hnew2.lt
                      have hput : DrumAt w24 (Grow (Grow F w w') w' w24) p g (l.set i ⟨svx, v2, false, FX, fun k => wx.heap.size ≤ k ∧ k < w24.heap.size⟩) { D with l := partL D.l cuts (i + 1) } := by
                        refine h.put (a' := fallT a cut) (D' := { D with l := partL D.l cuts (i + 1) }) (t' := ⟨svx, v2, false, FX, fun k => wx.heap.size ≤ k ∧ k < w24.heap.size⟩) ht hU (by rw [show ({ D with l := partL D.l cuts i } : DS).l.length = D.l.length from partL_length _ _ _]; exact hb) (by rw [trkC_fp]; exact hrow) ⟨hsx, hnew2.mono (fun k hk => by simp only [New] at hk; omega), rfl⟩ (by rw [hcut]; exact (partL_step ha).symm) ⟨hdw.most, by rw [partL_length]; exact hD8, hdw.armed, fun u hu => ?_⟩ (fun k hk => ?_) (fun k hk hk' => ?_)
                        · obtain ⟨x, hx, h3⟩ := partL_mem hu
                          have h4 := hdw.trk x hx
                          rcases h3 with rfl | ⟨c, rfl⟩
                          · exact h4
                          · have h5 := fallS_len x c
                            simp only [fallT]
                            omega
                        · rcases hk with hk | hk
                          · have h3 := hFX k hk
                            refine ⟨?_, by omega⟩
                            rcases h3.1 with h4 | h4
                            · exact .inl h4
                            · exact .inr (.inr (by omega))
                          · exact ⟨.inr (.inr (by simp only at hk; omega)), hk.2⟩
                        · have h3 := hFX k hk
                          simp only at hk'
                          omega
                      refine WX.blockNormal ?_
                      refine WX.next ?_
                      refine WC.region ?_
                      first | refine WL.val rfl rfl rfl rfl (r_addN rfl (ev_t rfl) ev_c (by simp only [inK]; omega)) ?_ | refine WL.val rfl rfl rfl rfl (r_add rfl (ev_t rfl) ev_c) ?_
                      refine WL.val rfl rfl rfl rfl (r_move rfl (ev_t rfl)) ?_
                      refine WL.nil ?_
                      refine WX.keep [(0, _), (1, _), (14, _), (15, _)] ⟨rfl, rfl, rfl, rfl, trivial⟩ ?_
                      refine WX.meet [(0, _), (1, _), (14, _), (15, _)] ⟨rfl, rfl, rfl, rfl, trivial⟩ ?_
                      exact ⟨D.l.length - (i + 1), by omega, i + 1, by omega, rfl, hU0.trans hU hTF, ⟨g, _, hput.mono (fun k hk _ => Grow.trans hU0.size hU.size hk)⟩, hr, rfl⟩
                   · try (exfalso; first | (simp at hc12; done) | (simp only [decide_eq_true_eq, decide_eq_false_iff_not, Bool.not_eq_true', Bool.not_eq_false', Bool.not_eq_true, Bool.not_eq_false] at hc12; omega) | omega)
                     all_goals
                      try simp only [decide_eq_true_eq, decide_eq_false_iff_not, Bool.not_eq_true', Bool.not_eq_false', Bool.not_eq_true, Bool.not_eq_false, Option.isNone_none, Option.isNone_some, Option.isSome_none, Option.isSome_some, ne_eq, Decidable.not_not] at hc12
                      have hfs : fallS a cut = a.sure := by
                        unfold fallS
                        rw [if_neg (by rintro ⟨x1, x2⟩; first | omega | (rw [hb10_4] at x1; cases x1; done) | (rw [hb10_4] at hb12_5; cases hb12_5; done)), if_neg (by rintro ⟨x1, x2⟩; first | omega | (rw [hb10_4] at x1; cases x1; done) | (rw [hb10_4] at hb12_5; cases hb12_5; done))]
                      obtain ⟨svx, FX, hrow, hsx, hFX⟩ : ∃ svx FX, Blk w' g (trkC (l.set i ⟨svx, .slice An a.now.length cn, a.fresh, FS, FN⟩)).toArray 86 ∧ Own w' FX 5 1 svx (fallS a cut).length ((fallS a cut).map U8) ∧ (∀ k, FX k → (FS k ∨ w'.heap.size ≤ k) ∧ k ≠ g ∧ k < w'.heap.size) := ⟨.slice As a.sure.length cs, FS, by rw [set_same ht]; exact hrow, by rw [hfs]; exact hsure, fun k hk => ⟨.inl hk, (hfp k (.inl hk)).2.2.1, (hfp k (.inl hk)).2.2.2⟩⟩
                      refine WC.skip ?_
                      refine WX.blockNormal ?_
                      refine WX.next ?_
                      obtain ⟨wx, hwx⟩ : ∃ wx, wx = w' := ⟨_, rfl⟩
                      rw [← hwx] at hFX
                      have hfl := fallS_len a cut
                      have hsz2 : w'.heap.size ≤ wx.heap.size := by rw [hwx]; omega
                      refine WC.region ?_
                      refine WL.val rfl rfl rfl rfl (r_move rfl (ev_t rfl)) ?_
                      refine WL.val rfl rfl rfl rfl (r_move rfl (ev_t rfl)) ?_
                      refine WL.val rfl rfl rfl rfl (r_move rfl (ev_t rfl)) ?_
                      refine WL.val rfl rfl rfl rfl (r_nilCheck rfl (ev_t rfl)) ?_
                      first | refine WL.val rfl rfl rfl rfl (r_field0 rfl (ev_t rfl) fld_86_0) ?_ | refine WL.val rfl rfl rfl rfl (r_fieldAt rfl (ev_t rfl) fld_86_0) ?_
                      refine WL.val rfl rfl rfl rfl (r_load rfl (ev_t rfl) flat_22 ((row_get (i := i) (t := ⟨svx, .slice An a.now.length cn, a.fresh, FS, FN⟩) hrow (by rw [List.getElem?_set_self (by omega)])).1 (by omega))) ?_
                      refine WL.cons (SO.call (clone_ok (hsx.rd (by omega))) rfl body_42 ⟨(ev_t rfl), trivial⟩ rfl rfl rfl rfl ?_)
                      rintro v2 w25 ⟨hnew2, hu25⟩
                      have hx1 : wx.heap.size ≤ w25.heap.size := by rw [hwx]; exact hu25.size
                      rw [← hwx] at hnew2
                      have hs25 := hu25.size
                      replace hU := hU.trans hu25 (by first | exact (fun _ _ h => h) | exact (fun _ _ h => h.elim) | (intro k hl hk; (try simp only [At, New, Grow, From, No] at hk ⊢); omega) | (intro k hl hk; first | exact .inl hk | exact .inr (.inl hk) | exact .inr (.inr (.inr hk)) | exact .inr (.inr (.inl hk)) | (simp only [At] at hk; subst hk; exact hpF)))
                      replace hr := hr.upd hu25 (by first | exact (fun _ _ _ h => h) | (intro k hk hl e; exact hG k hk.1 hk.2 (by first | exact (hGF k hk.2 (by first | exact .inl e | exact .inr e)) | (simp only [At] at e; subst e; exact hpF))))
                      replace hb := hb.upd hu25 (by first | exact (fun h => h) | exact (fun h => (hfp _ (.inr h)).2.1 rfl) | exact hpg)
                      replace hrow := hrow.upd hu25 (by first | exact (fun h => h) | exact (fun e => hpg e.symm))
                      replace hsure := hsure.upd hu25 (by first | exact (fun _ _ _ h => h) | exact (fun k hk _ e => (hfp k (.inl hk)).2.2.1 e))
                      replace hnow := hnow.upd hu25 (by first | exact (fun _ _ _ h => h) | exact (fun k hk _ e => (hfp k (.inr hk)).2.2.1 e))
                      replace hsx := hsx.upd hu25 (by first | exact (fun _ _ _ h => h) | exact (fun k hk _ e => (hFX k hk).2.1 e))
                      refine WL.val rfl rfl rfl rfl (r_nilCheck rfl (ev_t rfl)) ?_
                      first | refine WL.val rfl rfl rfl rfl (r_field0 rfl (ev_t rfl) fld_86_1) ?_ | refine WL.val rfl rfl rfl rfl (r_fieldAt rfl (ev_t rfl) fld_86_1) ?_
                      refine WL.cons (SO.store rfl (ev_t rfl) (ev_t rfl) size_22 hrow (blt_of (by rw [trkC_size, List.length_set]; omega)) hnew2.one rfl rfl rfl ?_)
                      intro w26 hu26 hrow hzs
                      replace hnew2 := hnew2.upd hu26 (fun k hk _ e => by simp only [At, New] at hk e; have := h.row.lt; omega)
                      have hs26 := hu26.size
                      replace hU := hU.trans hu26 (by first | exact (fun _ _ h => h) | exact (fun _ _ h => h.elim) | (intro k hl hk; (try simp only [At, New, Grow, From, No] at hk ⊢); omega) | (intro k hl hk; first | exact .inl hk | exact .inr (.inl hk) | exact .inr (.inr (.inr hk)) | exact .inr (.inr (.inl hk)) | (simp only [At] at hk; subst hk; exact hpF)))
                      replace hr := hr.upd hu26 (by first | exact (fun _ _ _ h => h) | (intro k hk hl e; exact hG k hk.1 hk.2 (by first | exact (hGF k hk.2 (by first | exact .inl e | exact .inr e)) | (simp only [At] at e; subst e; exact hpF))))
                      replace hb := hb.upd hu26 (by first | exact (fun h => h) | exact (fun h => (hfp _ (.inr h)).2.1 rfl) | exact hpg)
                      replace hsure := hsure.upd hu26 (by first | exact (fun _ _ _ h => h) | exact (fun k hk _ e => (hfp k (.inl hk)).2.2.1 e))
                      replace hnow := hnow.upd hu26 (by first | exact (fun _ _ _ h => h) | exact (fun k hk _ e => (hfp k (.inr hk)).2.2.1 e))
                      replace hsx := hsx.upd hu26 (by first | exact (fun _ _ _ h => h) | exact (fun k hk _ e => (hFX k hk).2.1 e))
                      replace hrow := (row_set (i := i) (t := ⟨svx, .slice An a.now.length cn, a.fresh, FS, FN⟩) (by rw [List.getElem?_set_self (by omega)])).2.1 _ (by omega) hrow
                      rw [List.set_set] at hrow
                      refine WL.val rfl rfl rfl rfl (r_nilCheck rfl (ev_t rfl)) ?_
                      first | refine WL.val rfl rfl rfl rfl (r_field0 rfl (ev_t rfl) fld_86_2) ?_ | refine WL.val rfl rfl rfl rfl (r_fieldAt rfl (ev_t rfl) fld_86_2) ?_
                      refine WL.cons (SO.store rfl (ev_t rfl) ev_c size_4 hrow (blt_of (by rw [trkC_size, List.length_set]; omega)) rfl rfl rfl rfl ?_)
                      intro w27 hu27 hrow hzs2
                      replace hnew2 := hnew2.upd hu27 (fun k hk _ e => by simp only [At, New] at hk e; have := h.row.lt; omega)
                      have hs27 := hu27.size
                      replace hU := hU.trans hu27 (by first | exact (fun _ _ h => h) | exact (fun _ _ h => h.elim) | (intro k hl hk; (try simp only [At, New, Grow, From, No] at hk ⊢); omega) | (intro k hl hk; first | exact .inl hk | exact .inr (.inl hk) | exact .inr (.inr (.inr hk)) | exact .inr (.inr (.inl hk)) | (simp only [At] at hk; subst hk; exact hpF)))
                      replace hr := hr.upd hu27 (by first | exact (fun _ _ _ h => h) | (intro k hk hl e; exact hG k hk.1 hk.2 (by first | exact (hGF k hk.2 (by first | exact .inl e | exact .inr e)) | (simp only [At] at e; subst e; exact hpF))))
                      replace hb := hb.upd hu27 (by first | exact (fun h => h) | exact (fun h => (hfp _ (.inr h)).2.1 rfl) | exact hpg)
                      replace hsure := hsure.upd hu27 (by first | exact (fun _ _ _ h => h) | exact (fun k hk _ e => (hfp k (.inl hk)).2.2.1 e))
                      replace hnow := hnow.upd hu27 (by first | exact (fun _ _ _ h => h) | exact (fun k hk _ e => (hfp k (.inr hk)).2.2.1 e))
                      replace hsx := hsx.upd hu27 (by first | exact (fun _ _ _ h => h) | exact (fun k hk _ e => (hFX k hk).2.1 e))
                      replace hrow := (row_set (i := i) (t := ⟨svx, v2, a.fresh, FS, FN⟩) (by rw [List.getElem?_set_self (by omega)])).2.2 _ (by omega) hrow
                      rw [List.set_set] at hrow
                      refine WL.nil ?_
                      refine WX.keep [(0, _), (1, _), (14, _), (15, _)] ⟨rfl, rfl, rfl, rfl, trivial⟩ ?_
                      have hnx := hnew2.lt
                      have hput : DrumAt w27 (Grow (Grow F w w') w' w27) p g (l.set i ⟨svx, v2, false, FX, fun k => wx.heap.size ≤ k ∧ k < w27.heap.size⟩) { D with l := partL D.l cuts (i + 1) } := by
                        refine h.put (a' := fallT a cut) (D' := { D with l := partL D.l cuts (i + 1) }) (t' := ⟨svx, v2, false, FX, fun k => wx.heap.size ≤ k ∧ k < w27.heap.size⟩) ht hU (by rw [show ({ D with l := partL D.l cuts i } : DS).l.length = D.l.length from partL_length _ _ _]; exact hb) (by rw [trkC_fp]; exact hrow) ⟨hsx, hnew2.mono (fun k hk => by simp only [New] at hk; omega), rfl⟩ (by rw [hcut]; exact (partL_step ha).symm) ⟨hdw.most, by rw [partL_length]; exact hD8, hdw.armed, fun u hu => ?_⟩ (fun k hk => ?_) (fun k hk hk' => ?_)
                        · obtain ⟨x, hx, h3⟩ := partL_mem hu
                          have h4 := hdw.trk x hx
                          rcases h3 with rfl | ⟨c, rfl⟩
                          · exact h4
                          · have h5 := fallS_len x c
                            simp only [fallT]
                            omega
                        · rcases hk with hk | hk
                          · have h3 := hFX k hk
                            refine ⟨?_, by omega⟩
                            rcases h3.1 with h4 | h4
                            · exact .inl h4
                            · exact .inr (.inr (by omega))
                          · exact ⟨.inr (.inr (by simp only at hk; omega)), hk.2⟩
                        · have h3 := hFX k hk
                          simp only at hk'
                          omega
                      refine WX.blockNormal ?_
                      refine WX.next ?_
                      refine WC.region ?_
                      first | refine WL.val rfl rfl rfl rfl (r_addN rfl (ev_t rfl) ev_c (by simp only [inK]; omega)) ?_ | refine WL.val rfl rfl rfl rfl (r_add rfl (ev_t rfl) ev_c) ?_
                      refine WL.val rfl rfl rfl rfl (r_move rfl (ev_t rfl)) ?_
                      refine WL.nil ?_
                      refine WX.keep [(0, _), (1, _), (14, _), (15, _)] ⟨rfl, rfl, rfl, rfl, trivial⟩ ?_
                      refine WX.meet [(0, _), (1, _), (14, _), (15, _)] ⟨rfl, rfl, rfl, rfl, trivial⟩ ?_
                      exact ⟨D.l.length - (i + 1), by omega, i + 1, by omega, rfl, hU0.trans hU hTF, ⟨g, _, hput.mono (fun k hk _ => Grow.trans hU0.size hU.size hk)⟩, hr, rfl⟩
                · try (exfalso; first | (simp at hb12_5; done) | (simp only [decide_eq_true_eq, decide_eq_false_iff_not, Bool.not_eq_true', Bool.not_eq_false', Bool.not_eq_true, Bool.not_eq_false] at hb12_5; omega) | omega)
                  all_goals
                   try simp only [decide_eq_true_eq, decide_eq_false_iff_not, Bool.not_eq_true', Bool.not_eq_false', Bool.not_eq_true, Bool.not_eq_false, Option.isNone_none, Option.isNone_some, Option.isSome_none, Option.isSome_some, ne_eq, Decidable.not_not] at hb12_5
                   refine WL.skip rfl rfl rfl ?_
                   refine WL.skip rfl rfl rfl ?_
                   refine WL.val rfl rfl rfl rfl (r_pickF rfl (ev_t rfl) ev_c) ?_
                   refine WL.val rfl rfl rfl rfl (r_assign rfl (ev_t rfl)) ?_
                   refine WL.nil ?_
                   refine WX.keep [(0, _), (1, _), (6, _), (7, _), (14, _), (15, _), (57, _)] ⟨rfl, rfl, rfl, rfl, rfl, rfl, rfl, trivial⟩ ?_
                   refine WX.next ?_
                   refine WC.cond_false rfl (ev_t rfl) ?_
                   have hfs : fallS a cut = a.sure := by
                     unfold fallS
                     rw [if_neg (by rintro ⟨x1, x2⟩; first | omega | (rw [hb10_4] at x1; cases x1; done) | (rw [hb10_4] at hb12_5; cases hb12_5; done)), if_neg (by rintro ⟨x1, x2⟩; first | omega | (rw [hb10_4] at x1; cases x1; done) | (rw [hb10_4] at hb12_5; cases hb12_5; done))]
                   obtain ⟨svx, FX, hrow, hsx, hFX⟩ : ∃ svx FX, Blk w' g (trkC (l.set i ⟨svx, .slice An a.now.length cn, a.fresh, FS, FN⟩)).toArray 86 ∧ Own w' FX 5 1 svx (fallS a cut).length ((fallS a cut).map U8) ∧ (∀ k, FX k → (FS k ∨ w'.heap.size ≤ k) ∧ k ≠ g ∧ k < w'.heap.size) := ⟨.slice As a.sure.length cs, FS, by rw [set_same ht]; exact hrow, by rw [hfs]; exact hsure, fun k hk => ⟨.inl hk, (hfp k (.inl hk)).2.2.1, (hfp k (.inl hk)).2.2.2⟩⟩
                   refine WC.skip ?_
                   refine WX.blockNormal ?_
                   refine WX.next ?_
                   obtain ⟨wx, hwx⟩ : ∃ wx, wx = w' := ⟨_, rfl⟩
                   rw [← hwx] at hFX
                   have hfl := fallS_len a cut
                   have hsz2 : w'.heap.size ≤ wx.heap.size := by rw [hwx]; omega
                   refine WC.region ?_
                   refine WL.val rfl rfl rfl rfl (r_move rfl (ev_t rfl)) ?_
                   refine WL.val rfl rfl rfl rfl (r_move rfl (ev_t rfl)) ?_
                   refine WL.val rfl rfl rfl rfl (r_move rfl (ev_t rfl)) ?_
                   refine WL.val rfl rfl rfl rfl (r_nilCheck rfl (ev_t rfl)) ?_
                   first | refine WL.val rfl rfl rfl rfl (r_field0 rfl (ev_t rfl) fld_86_0) ?_ | refine WL.val rfl rfl rfl rfl (r_fieldAt rfl (ev_t rfl) fld_86_0) ?_
                   refine WL.val rfl rfl rfl rfl (r_load rfl (ev_t rfl) flat_22 ((row_get (i := i) (t := ⟨svx, .slice An a.now.length cn, a.fresh, FS, FN⟩) hrow (by rw [List.getElem?_set_self (by omega)])).1 (by omega))) ?_
                   refine WL.cons (SO.call (clone_ok (hsx.rd (by omega))) rfl body_42 ⟨(ev_t rfl), trivial⟩ rfl rfl rfl rfl ?_)
                   rintro v2 w28 ⟨hnew2, hu28⟩
                   have hx1 : wx.heap.size ≤ w28.heap.size := by rw [hwx]; exact hu28.size
                   rw [← hwx] at hnew2
                   have hs28 := hu28.size
                   replace hU := hU.trans hu28 (by first | exact (fun _ _ h => h) | exact (fun _ _ h => h.elim) | (intro k hl hk; (try simp only [At, New, Grow, From, No] at hk ⊢); omega) | (intro k hl hk; first | exact .inl hk | exact .inr (.inl hk) | exact .inr (.inr (.inr hk)) | exact .inr (.inr (.inl hk)) | (simp only [At] at hk; subst hk; exact hpF)))
                   replace hr := hr.upd hu28 (by first | exact (fun _ _ _ h => h) | (intro k hk hl e; exact hG k hk.1 hk.2 (by first | exact (hGF k hk.2 (by first | exact .inl e | exact .inr e)) | (simp only [At] at e; subst e; exact hpF))))
                   replace hb := hb.upd hu28 (by first | exact (fun h => h) | exact (fun h => (hfp _ (.inr h)).2.1 rfl) | exact hpg)
                   replace hrow := hrow.upd hu28 (by first | exact (fun h => h) | exact (fun e => hpg e.symm))
                   replace hsure := hsure.upd hu28 (by first | exact (fun _ _ _ h => h) | exact (fun k hk _ e => (hfp k (.inl hk)).2.2.1 e))
                   replace hnow := hnow.upd hu28 (by first | exact (fun _ _ _ h => h) | exact (fun k hk _ e => (hfp k (.inr hk)).2.2.1 e))
                   replace hsx := hsx.upd hu28 (by first | exact (fun _ _ _ h => h) | exact (fun k hk _ e => (hFX k hk).2.1 e))
                   refine WL.val rfl rfl rfl rfl (r_nilCheck rfl (ev_t rfl)) ?_
                   first | refine WL.val rfl rfl rfl rfl (r_field0 rfl (ev_t rfl) fld_86_1) ?_ | refine WL.val rfl rfl rfl rfl (r_fieldAt rfl (ev_t rfl) fld_86_1) ?_
                   refine WL.cons (SO.store rfl (ev_t rfl) (ev_t rfl) size_22 hrow (blt_of (by rw [trkC_size, List.length_set]; omega)) hnew2.one rfl rfl rfl ?_)
                   intro w29 hu29 hrow hzs
                   replace hnew2 := hnew2.upd hu29 (fun k hk _ e => by simp only [At, New] at hk e; have := h.row.lt; omega)
                   have hs29 := hu29.size
                   replace hU := hU.trans hu29 (by first | exact (fun _ _ h => h) | exact (fun _ _ h => h.elim) | (intro k hl hk; (try simp only [At, New, Grow, From, No] at hk ⊢); omega) | (intro k hl hk; first | exact .inl hk | exact .inr (.inl hk) | exact .inr (.inr (.inr hk)) | exact .inr (.inr (.inl hk)) | (simp only [At] at hk; subst hk; exact hpF)))
                   replace hr := hr.upd hu29 (by first | exact (fun _ _ _ h => h) | (intro k hk hl e; exact hG k hk.1 hk.2 (by first | exact (hGF k hk.2 (by first | exact .inl e | exact .inr e)) | (simp only [At] at e; subst e; exact hpF))))
                   replace hb := hb.upd hu29 (by first | exact (fun h => h) | exact (fun h => (hfp _ (.inr h)).2.1 rfl) | exact hpg)
                   replace hsure := hsure.upd hu29 (by first | exact (fun _ _ _ h => h) | exact (fun k hk _ e => (hfp k (.inl hk)).2.2.1 e))
                   replace hnow := hnow.upd hu29 (by first | exact (fun _ _ _ h => h) | exact (fun k hk _ e => (hfp k (.inr hk)).2.2.1 e))
                   replace hsx := hsx.upd hu29 (by first | exact (fun _ _ _ h => h) | exact (fun k hk _ e => (hFX k hk).2.1 e))
                   replace hrow := (row_set (i := i) (t := ⟨svx, .slice An a.now.length cn, a.fresh, FS, FN⟩) (by rw [List.getElem?_set_self (by omega)])).2.1 _ (by omega) hrow
                   rw [List.set_set] at hrow
                   refine WL.val rfl rfl rfl rfl (r_nilCheck rfl (ev_t rfl)) ?_
                   first | refine WL.val rfl rfl rfl rfl (r_field0 rfl (ev_t rfl) fld_86_2) ?_ | refine WL.val rfl rfl rfl rfl (r_fieldAt rfl (ev_t rfl) fld_86_2) ?_
                   refine WL.cons (SO.store rfl (ev_t rfl) ev_c size_4 hrow (blt_of (by rw [trkC_size, List.length_set]; omega)) rfl rfl rfl rfl ?_)
                   intro w30 hu30 hrow hzs2
                   replace hnew2 := hnew2.upd hu30 (fun k hk _ e => by simp only [At, New] at hk e; have := h.row.lt; omega)
                   have hs30 := hu30.size
                   replace hU := hU.trans hu30 (by first | exact (fun _ _ h => h) | exact (fun _ _ h => h.elim) | (intro k hl hk; (try simp only [At, New, Grow, From, No] at hk ⊢); omega) | (intro k hl hk; first | exact .inl hk | exact .inr (.inl hk) | exact .inr (.inr (.inr hk)) | exact .inr (.inr (.inl hk)) | (simp only [At] at hk; subst hk; exact hpF)))
                   replace hr := hr.upd hu30 (by first | exact (fun _ _ _ h => h) | (intro k hk hl e; exact hG k hk.1 hk.2 (by first | exact (hGF k hk.2 (by first | exact .inl e | exact .inr e)) | (simp only [At] at e; subst e; exact hpF))))
                   replace hb := hb.upd hu30 (by first | exact (fun h => h) | exact (fun h => (hfp _ (.inr h)).2.1 rfl) | exact hpg)
                   replace hsure := hsure.upd hu30 (by first | exact (fun _ _ _ h => h) | exact (fun k hk _ e => (hfp k (.inl hk)).2.2.1 e))
                   replace hnow := hnow.upd hu30 (by first | exact (fun _ _ _ h => h) | exact (fun k hk _ e => (hfp k (.inr hk)).2.2.1 e))
                   replace hsx := hsx.upd hu30 (by first | exact (fun _ _ _ h => h) | exact (fun k hk _ e => (hFX k hk).2.1 e))
                   replace hrow := (row_set (i := i) (t := ⟨svx, v2, a.fresh, FS, FN⟩) (by rw [List.getElem?_set_self (by omega)])).2.2 _ (by omega) hrow
                   rw [List.set_set] at hrow
                   refine WL.nil ?_
                   refine WX.keep [(0, _), (1, _), (14, _), (15, _)] ⟨rfl, rfl, rfl, rfl, trivial⟩ ?_
                   have hnx := hnew2.lt
                   have hput : DrumAt w30 (Grow (Grow F w w') w' w30) p g (l.set i ⟨svx, v2, false, FX, fun k => wx.heap.size ≤ k ∧ k < w30.heap.size⟩) { D with l := partL D.l cuts (i + 1) } := by
                     refine h.put (a' := fallT a cut) (D' := { D with l := partL D.l cuts (i + 1) }) (t' := ⟨svx, v2, false, FX, fun k => wx.heap.size ≤ k ∧ k < w30.heap.size⟩) ht hU (by rw [show ({ D with l := partL D.l cuts i } : DS).l.length = D.l.length from partL_length _ _ _]; exact hb) (by rw [trkC_fp]; exact hrow) ⟨hsx, hnew2.mono (fun k hk => by simp only [New] at hk; omega), rfl⟩ (by rw [hcut]; exact (partL_step ha).symm) ⟨hdw.most, by rw [partL_length]; exact hD8, hdw.armed, fun u hu => ?_⟩ (fun k hk => ?_) (fun k hk hk' => ?_)
                     · obtain ⟨x, hx, h3⟩ := partL_mem hu
                       have h4 := hdw.trk x hx
                       rcases h3 with rfl | ⟨c, rfl⟩
                       · exact h4
                       · have h5 := fallS_len x c
                         simp only [fallT]
                         omega
                     · rcases hk with hk | hk
                       · have h3 := hFX k hk
                         refine ⟨?_, by omega⟩
                         rcases h3.1 with h4 | h4
                         · exact .inl h4
                         · exact .inr (.inr (by omega))
                       · exact ⟨.inr (.inr (by simp only at hk; omega)), hk.2⟩
                     · have h3 := hFX k hk
                       simp only at hk'
                       omega
                   refine WX.blockNormal ?_
                   refine WX.next ?_
                   refine WC.region ?_
                   first | refine WL.val rfl rfl rfl rfl (r_addN rfl (ev_t rfl) ev_c (by simp only [inK]; omega)) ?_ | refine WL.val rfl rfl rfl rfl (r_add rfl (ev_t rfl) ev_c) ?_
                   refine WL.val rfl rfl rfl rfl (r_move rfl (ev_t rfl)) ?_
                   refine WL.nil ?_
                   refine WX.keep [(0, _), (1, _), (14, _), (15, _)] ⟨rfl, rfl, rfl, rfl, trivial⟩ ?_
                   refine WX.meet [(0, _), (1, _), (14, _), (15, _)] ⟨rfl, rfl, rfl, rfl, trivial⟩ ?_
                   exact ⟨D.l.length - (i + 1), by omega, i + 1, by omega, rfl, hU0.trans hU hTF, ⟨g, _, hput.mono (fun k hk _ => Grow.trans hU0.size hU.size hk)⟩, hr, rfl⟩
          · try (exfalso; first | (simp at hc8; done) | (simp only [decide_eq_true_eq, decide_eq_false_iff_not, Bool.not_eq_true', Bool.not_eq_false', Bool.not_eq_true, Bool.not_eq_false] at hc8; omega) | omega)
            all_goals
             try simp only [decide_eq_true_eq, decide_eq_false_iff_not, Bool.not_eq_true', Bool.not_eq_false', Bool.not_eq_true, Bool.not_eq_false, Option.isNone_none, Option.isNone_some, Option.isSome_none, Option.isSome_some, ne_eq, Decidable.not_not] at hc8
             have hcm1 : cut = -1 := by rw [hcut, List.getD_eq_getElem?_getD, List.getElem?_eq_none (by omega)]; rfl
             refine WC.skip ?_
             refine WX.next ?_
             refine WC.seq ?_
             refine WC.block ?_
             refine WC.seq ?_
             refine WC.region ?_
             refine WL.val rfl rfl rfl rfl (r_move rfl (ev_t rfl)) ?_
             refine WL.val rfl rfl rfl rfl (r_nilCheck rfl (ev_t rfl)) ?_
             first | refine WL.val rfl rfl rfl rfl (r_field0 rfl (ev_t rfl) fld_86_2) ?_ | refine WL.val rfl rfl rfl rfl (r_fieldAt rfl (ev_t rfl) fld_86_2) ?_
             refine WL.val rfl rfl rfl rfl (r_load rfl (ev_t rfl) flat_4 ((row_get hrow ht).2.2 (by omega))) ?_
             refine WL.val rfl rfl rfl rfl (r_move rfl (ev_t rfl)) ?_
             refine WL.cases 37 rfl (fun hb10_4 => ?_) (fun hb10_4 => ?_)
             · try (exfalso; first | (simp at hb10_4; done) | (simp only [decide_eq_true_eq, decide_eq_false_iff_not, Bool.not_eq_true', Bool.not_eq_false', Bool.not_eq_true, Bool.not_eq_false] at hb10_4; omega) | omega)
               all_goals
                try simp only [decide_eq_true_eq, decide_eq_false_iff_not, Bool.not_eq_true', Bool.not_eq_false', Bool.not_eq_true, Bool.not_eq_false, Option.isNone_none, Option.isNone_some, Option.isSome_none, Option.isSome_some, ne_eq, Decidable.not_not] at hb10_4
                refine WL.val rfl rfl rfl rfl (r_move rfl (ev_t rfl)) ?_
                refine WL.val rfl rfl rfl rfl (r_geq rfl (ev_t rfl) ev_c) ?_
                refine WL.val rfl rfl rfl rfl (r_pickT rfl (ev_t rfl) (ev_t rfl)) ?_
                refine WL.val rfl rfl rfl rfl (r_assign rfl (ev_t rfl)) ?_
                refine WL.nil ?_
                refine WX.keep [(0, _), (1, _), (6, _), (7, _), (14, _), (15, _), (32, _)] ⟨rfl, rfl, rfl, rfl, rfl, rfl, rfl, trivial⟩ ?_
                refine WX.next ?_
                refine WC.cond rfl (ev_t rfl) (fun hc10 => ?_) (fun hc10 => ?_)
                · try (exfalso; first | (simp at hc10; done) | (simp only [decide_eq_true_eq, decide_eq_false_iff_not, Bool.not_eq_true', Bool.not_eq_false', Bool.not_eq_true, Bool.not_eq_false] at hc10; omega) | omega)
                  all_goals
                   try simp only [decide_eq_true_eq, decide_eq_false_iff_not, Bool.not_eq_true', Bool.not_eq_false', Bool.not_eq_true, Bool.not_eq_false, Option.isNone_none, Option.isNone_some, Option.isSome_none, Option.isSome_some, ne_eq, Decidable.not_not] at hc10
                   refine WC.draws' (fun u0_ u1_ => Upd No u0_ u1_) (fun j => [0, 0, 0, 0, 0, 0, 0, 0, 0, 1, 0, 0, 0, 2, 0, 0, 2].getD j 0) (.calm 0 (.calm 1 (.calm 2 (.calm 3 (.calm 5 (.calm 6 (.calm 7 (.calm 8 (.held 4 (.one 9 (.calm 10 (.calm 11 (.calm 12 (.one 13 (.calm 14 (.calm 15 (.one 16 (.done)))))))))))))))))) mixed (by kernel_rfl) (by repeat (first | with_reducible exact Deaf.body | with_reducible apply Deaf.then | with_reducible apply Deaf.block)) ?_
                   intro w31 hu31
                   have hz31 := congrArg Array.size hu31.2.2.2
                   replace hu31 := Upd.of_draw hu31
                   have hs31 := hu31.size
                   replace hU := hU.trans hu31 (by first | exact (fun _ _ h => h) | exact (fun _ _ h => h.elim) | (intro k hl hk; (try simp only [At, New, Grow, From, No] at hk ⊢); omega) | (intro k hl hk; first | exact .inl hk | exact .inr (.inl hk) | exact .inr (.inr (.inr hk)) | exact .inr (.inr (.inl hk)) | (simp only [At] at hk; subst hk; exact hpF)))
                   replace hr := hr.upd hu31 (by first | exact (fun _ _ _ h => h) | (intro k hk hl e; exact hG k hk.1 hk.2 (by first | exact (hGF k hk.2 (by first | exact .inl e | exact .inr e)) | (simp only [At] at e; subst e; exact hpF))))
                   replace hb := hb.upd hu31 (by first | exact (fun h => h) | exact (fun h => (hfp _ (.inr h)).2.1 rfl) | exact hpg)
                   replace hrow := hrow.upd hu31 (by first | exact (fun h => h) | exact (fun e => hpg e.symm))
                   replace hsure := hsure.upd hu31 (by first | exact (fun _ _ _ h => h) | exact (fun k hk _ e => (hfp k (.inl hk)).2.2.1 e))
                   replace hnow := hnow.upd hu31 (by first | exact (fun _ _ _ h => h) | exact (fun k hk _ e => (hfp k (.inr hk)).2.2.1 e))
                   have hS11 := Upd.refl No w31
                   refine WN.calm _ rfl rfl rfl rfl rfl (fun _ => r_move rfl (ev_t rfl)) ?_
                   refine WN.calm _ rfl rfl rfl rfl rfl (fun _ => r_move rfl (ev_t rfl)) ?_
                   refine WN.calm _ rfl rfl rfl rfl rfl (fun _ => r_nilCheck rfl (ev_t rfl)) ?_
                   first | refine WN.calm _ rfl rfl rfl rfl rfl (fun _ => r_field0 rfl (ev_t rfl) fld_86_1) ?_ | refine WN.calm _ rfl rfl rfl rfl rfl (fun _ => r_fieldAt rfl (ev_t rfl) fld_86_1) ?_
                   refine WN.calm _ rfl rfl rfl rfl rfl (fun _ => r_move rfl (ev_t rfl)) ?_
                   refine WN.calm _ rfl rfl rfl rfl rfl (fun _ => r_move rfl (ev_t rfl)) ?_
                   refine WN.calm _ rfl rfl rfl rfl rfl (fun _ => r_nilCheck rfl (ev_t rfl)) ?_
                   first | refine WN.calm _ rfl rfl rfl rfl rfl (fun _ => r_field0 rfl (ev_t rfl) fld_86_1) ?_ | refine WN.calm _ rfl rfl rfl rfl rfl (fun _ => r_fieldAt rfl (ev_t rfl) fld_86_1) ?_
                   refine WN.held _ rfl rfl rfl rfl rfl hS11 (fun w' hS => r_load rfl (ev_t rfl) flat_22 ((row_get (hrow.upd hS (fun h => h)) ht).2.1 (by omega))) ?_
                   refine WN.step _ rfl (SO.val rfl rfl rfl rfl (r_load rfl (ev_t rfl) flat_22 ((row_get hrow ht).2.1 (by omega))) ?_)
                   refine ⟨hS11, ?_⟩
                   refine WN.calm _ rfl rfl rfl rfl rfl (fun _ => r_lenSlice (ts := #[]) rfl (ev_t rfl) elem_22) ?_
                   refine WN.calm _ rfl rfl rfl rfl rfl (fun _ => r_min rfl (ev_t rfl) (ev_t rfl)) ?_
                   obtain ⟨kk, hkk, hk1, hk2⟩ : ∃ kk : Nat, (if (a.now.length : Int) < cut then (a.now.length : Int) else cut) = (kk : Int) ∧ kk ≤ a.now.length ∧ min kk a.now.length = min cut.toNat a.now.length := by
                     split
                     · exact ⟨a.now.length, rfl, by omega, by omega⟩
                     · exact ⟨cut.toNat, by omega, by omega, rfl⟩
                   rw [hkk]
                   refine WN.calm _ rfl rfl rfl rfl rfl (fun _ => r_slice (l := 0) (h := kk) rfl (ev_t rfl) elem_22 size_5 bnd_none (bnd_some (ev_t rfl) (by omega)) (by omega) (by omega) (by omega)) ?_
                   refine WN.step _ rfl (SO.call (clone_ok ((hnow.rd (by omega)).sliceB (lo := 0) (h := kk) (by omega) (by omega))) rfl body_42 ⟨(ev_t rfl), trivial⟩ rfl rfl rfl rfl ?_)
                   rintro v w32 ⟨hnew, hu32⟩
                   have hs32 := hu32.size
                   try replace hS11 := Upd.transA hS11 hu32
                   replace hU := hU.trans hu32 (by first | exact (fun _ _ h => h) | exact (fun _ _ h => h.elim) | (intro k hl hk; (try simp only [At, New, Grow, From, No] at hk ⊢); omega) | (intro k hl hk; first | exact .inl hk | exact .inr (.inl hk) | exact .inr (.inr (.inr hk)) | exact .inr (.inr (.inl hk)) | (simp only [At] at hk; subst hk; exact hpF)))
                   replace hr := hr.upd hu32 (by first | exact (fun _ _ _ h => h) | (intro k hk hl e; exact hG k hk.1 hk.2 (by first | exact (hGF k hk.2 (by first | exact .inl e | exact .inr e)) | (simp only [At] at e; subst e; exact hpF))))
                   replace hb := hb.upd hu32 (by first | exact (fun h => h) | exact (fun h => (hfp _ (.inr h)).2.1 rfl) | exact hpg)
                   replace hrow := hrow.upd hu32 (by first | exact (fun h => h) | exact (fun e => hpg e.symm))
                   replace hsure := hsure.upd hu32 (by first | exact (fun _ _ _ h => h) | exact (fun k hk _ e => (hfp k (.inl hk)).2.2.1 e))
                   replace hnow := hnow.upd hu32 (by first | exact (fun _ _ _ h => h) | exact (fun k hk _ e => (hfp k (.inr hk)).2.2.1 e))
                   refine ⟨trivial, ?_⟩
                   refine WN.calm _ rfl rfl rfl rfl rfl (fun _ => r_nilCheck rfl (ev_t rfl)) ?_
                   first | refine WN.calm _ rfl rfl rfl rfl rfl (fun _ => r_field0 rfl (ev_t rfl) fld_86_0) ?_ | refine WN.calm _ rfl rfl rfl rfl rfl (fun _ => r_fieldAt rfl (ev_t rfl) fld_86_0) ?_
                   refine WN.step _ rfl (SO.store rfl (ev_t rfl) (ev_t rfl) size_22 hrow (blt_of (by rw [trkC_size]; omega)) hnew.one rfl rfl rfl ?_)
                   intro w33 hu33 hrow hzs
                   replace hnew := hnew.upd hu33 (fun k hk _ e => by simp only [At, New] at hk e; have := h.row.lt; omega)
                   have hs33 := hu33.size
                   try replace hS11 := Upd.transA hS11 hu33
                   replace hU := hU.trans hu33 (by first | exact (fun _ _ h => h) | exact (fun _ _ h => h.elim) | (intro k hl hk; (try simp only [At, New, Grow, From, No] at hk ⊢); omega) | (intro k hl hk; first | exact .inl hk | exact .inr (.inl hk) | exact .inr (.inr (.inr hk)) | exact .inr (.inr (.inl hk)) | (simp only [At] at hk; subst hk; exact hpF)))
                   replace hr := hr.upd hu33 (by first | exact (fun _ _ _ h => h) | (intro k hk hl e; exact hG k hk.1 hk.2 (by first | exact (hGF k hk.2 (by first | exact .inl e | exact .inr e)) | (simp only [At] at e; subst e; exact hpF))))
                   replace hb := hb.upd hu33 (by first | exact (fun h => h) | exact (fun h => (hfp _ (.inr h)).2.1 rfl) | exact hpg)
                   replace hsure := hsure.upd hu33 (by first | exact (fun _ _ _ h => h) | exact (fun k hk _ e => (hfp k (.inl hk)).2.2.1 e))
                   replace hnow := hnow.upd hu33 (by first | exact (fun _ _ _ h => h) | exact (fun k hk _ e => (hfp k (.inr hk)).2.2.1 e))
                   replace hrow := (row_set ht).1 _ (by omega) hrow
                   refine ⟨trivial, ?_⟩
                   refine WN.done ?_
                   refine WX.keep [(0, _), (1, _), (6, _), (14, _), (15, _)] ⟨rfl, rfl, rfl, rfl, rfl, trivial⟩ ?_
                   have hfs : fallS a cut = a.now.take kk := by unfold fallS; rw [if_pos ⟨by simp [*], by omega⟩]; exact (take_same hk2).symm
                   rw [List.drop_zero, Nat.sub_zero, ← hfs] at hnew
                   have hkl : kk = (fallS a cut).length := by rw [hfs, List.length_take]; omega
                   rw [hkl] at hnew
                   obtain ⟨svx, FX, hrow, hsx, hFX⟩ : ∃ svx FX, Blk w33 g (trkC (l.set i ⟨svx, .slice An a.now.length cn, a.fresh, FS, FN⟩)).toArray 86 ∧ Own w33 FX 5 1 svx (fallS a cut).length ((fallS a cut).map U8) ∧ (∀ k, FX k → (FS k ∨ w'.heap.size ≤ k) ∧ k ≠ g ∧ k < w33.heap.size) := ⟨v, _, hrow, hnew, fun k hk => by have := h.row.lt; simp only [New] at hk; exact ⟨.inr (by omega), by omega, by omega⟩⟩
                   refine WX.blockNormal ?_
                   refine WX.next ?_
                   obtain ⟨wx, hwx⟩ : ∃ wx, wx = w33 := ⟨_, rfl⟩
                   rw [← hwx] at hFX
                   have hfl := fallS_len a cut
                   have hsz2 : w'.heap.size ≤ wx.heap.size := by rw [hwx]; omega
                   refine WC.region ?_
                   refine WL.val rfl rfl rfl rfl (r_move rfl (ev_t rfl)) ?_
                   refine WL.val rfl rfl rfl rfl (r_move rfl (ev_t rfl)) ?_
                   refine WL.val rfl rfl rfl rfl (r_move rfl (ev_t rfl)) ?_
                   refine WL.val rfl rfl rfl rfl (r_nilCheck rfl (ev_t rfl)) ?_
                   first | refine WL.val rfl rfl rfl rfl (r_field0 rfl (ev_t rfl) fld_86_0) ?_ | refine WL.val rfl rfl rfl rfl (r_fieldAt rfl (ev_t rfl) fld_86_0) ?_
                   refine WL.val rfl rfl rfl rfl (r_load rfl (ev_t rfl) flat_22 ((row_get (i := i) (t := ⟨svx, .slice An a.now.length cn, a.fresh, FS, FN⟩) hrow (by rw [List.getElem?_set_self (by omega)])).1 (by omega))) ?_
                   refine WL.cons (SO.call (clone_ok (hsx.rd (by omega))) rfl body_42 ⟨(ev_t rfl), trivial⟩ rfl rfl rfl rfl ?_)
                   rintro v2 w34 ⟨hnew2, hu34⟩
                   have hx1 : wx.heap.size ≤ w34.heap.size := by rw [hwx]; exact hu34.size
                   rw [← hwx] at hnew2
                   have hs34 := hu34.size
                   replace hU := hU.trans hu34 (by first | exact (fun _ _ h => h) | exact (fun _ _ h => h.elim) | (intro k hl hk; (try simp only [At, New, Grow, From, No] at hk ⊢); omega) | (intro k hl hk; first | exact .inl hk | exact .inr (.inl hk) | exact .inr (.inr (.inr hk)) | exact .inr (.inr (.inl hk)) | (simp only [At] at hk; subst hk; exact hpF)))
                   replace hr := hr.upd hu34 (by first | exact (fun _ _ _ h => h) | (intro k hk hl e; exact hG k hk.1 hk.2 (by first | exact (hGF k hk.2 (by first | exact .inl e | exact .inr e)) | (simp only [At] at e; subst e; exact hpF))))
                   replace hb := hb.upd hu34 (by first | exact (fun h => h) | exact (fun h => (hfp _ (.inr h)).2.1 rfl) | exact hpg)
                   replace hrow := hrow.upd hu34 (by first | exact (fun h => h) | exact (fun e => hpg e.symm))
                   replace hsure := hsure.upd hu34 (by first | exact (fun _ _ _ h => h) | exact (fun k hk _ e => (hfp k (.inl hk)).2.2.1 e))
                   replace hnow := hnow.upd hu34 (by first | exact (fun _ _ _ h => h) | exact (fun k hk _ e => (hfp k (.inr hk)).2.2.1 e))
                   replace hsx := hsx.upd hu34 (by first | exact (fun _ _ _ h => h) | exact (fun k hk _ e => (hFX k hk).2.1 e))
                   refine WL.val rfl rfl rfl rfl (r_nilCheck rfl (ev_t rfl)) ?_
                   first | refine WL.val rfl rfl rfl rfl (r_field0 rfl (ev_t rfl) fld_86_1) ?_ | refine WL.val rfl rfl rfl rfl (r_fieldAt rfl (ev_t rfl) fld_86_1) ?_
                   refine WL.cons (SO.store rfl (ev_t rfl) (ev_t rfl) size_22 hrow (blt_of (by rw [trkC_size, List.length_set]; omega)) hnew2.one rfl rfl rfl ?_)
                   intro w35 hu35 hrow hzs
                   replace hnew2 := hnew2.upd hu35 (fun k hk _ e => by simp only [At, New] at hk e; have := h.row.lt; omega)
                   have hs35 := hu35.size
                   replace hU := hU.trans hu35 (by first | exact (fun _ _ h => h) | exact (fun _ _ h => h.elim) | (intro k hl hk; (try simp only [At, New, Grow, From, No] at hk ⊢); omega) | (intro k hl hk; first | exact .inl hk | exact .inr (.inl hk) | exact .inr (.inr (.inr hk)) | exact .inr (.inr (.inl hk)) | (simp only [At] at hk; subst hk; exact hpF)))
                   replace hr := hr.upd hu35 (by first | exact (fun _ _ _ h => h) | (intro k hk hl e; exact hG k hk.1 hk.2 (by first | exact (hGF k hk.2 (by first | exact .inl e | exact .inr e)) | (simp only [At] at e; subst e; exact hpF))))
                   replace hb := hb.upd hu35 (by first | exact (fun h => h) | exact (fun h => (hfp _ (.inr h)).2.1 rfl) | exact hpg)
                   replace hsure := hsure.upd hu35 (by first | exact (fun _ _ _ h => h) | exact (fun k hk _ e => (hfp k (.inl hk)).2.2.1 e))
                   replace hnow := hnow.upd hu35 (by first | exact (fun _ _ _ h => h) | exact (fun k hk _ e => (hfp k (.inr hk)).2.2.1 e))
                   replace hsx := hsx.upd hu35 (by first | exact (fun _ _ _ h => h) | exact (fun k hk _ e => (hFX k hk).2.1 e))
                   replace hrow := (row_set (i := i) (t := ⟨svx, .slice An a.now.length cn, a.fresh, FS, FN⟩) (by rw [List.getElem?_set_self (by omega)])).2.1 _ (by omega) hrow
                   rw [List.set_set] at hrow
                   refine WL.val rfl rfl rfl rfl (r_nilCheck rfl (ev_t rfl)) ?_
                   first | refine WL.val rfl rfl rfl rfl (r_field0 rfl (ev_t rfl) fld_86_2) ?_ | refine WL.val rfl rfl rfl rfl (r_fieldAt rfl (ev_t rfl) fld_86_2) ?_
                   refine WL.cons (SO.store rfl (ev_t rfl) ev_c size_4 hrow (blt_of (by rw [trkC_size, List.length_set]; omega)) rfl rfl rfl rfl ?_)
                   intro w36 hu36 hrow hzs2
                   replace hnew2 := hnew2.upd hu36 (fun k hk _ e => by simp only [At, New] at hk e; have := h.row.lt; omega)
                   have hs36 := hu36.size
                   replace hU := hU.trans hu36 (by first | exact (fun _ _ h => h) | exact (fun _ _ h => h.elim) | (intro k hl hk; (try simp only [At, New, Grow, From, No] at hk ⊢); omega) | (intro k hl hk; first | exact .inl hk | exact .inr (.inl hk) | exact .inr (.inr (.inr hk)) | exact .inr (.inr (.inl hk)) | (simp only [At] at hk; subst hk; exact hpF)))
                   replace hr := hr.upd hu36 (by first | exact (fun _ _ _ h => h) | (intro k hk hl e; exact hG k hk.1 hk.2 (by first | exact (hGF k hk.2 (by first | exact .inl e | exact .inr e)) | (simp only [At] at e; subst e; exact hpF))))
                   replace hb := hb.upd hu36 (by first | exact (fun h => h) | exact (fun h => (hfp _ (.inr h)).2.1 rfl) | exact hpg)
                   replace hsure := hsure.upd hu36 (by first | exact (fun _ _ _ h => h) | exact (fun k hk _ e => (hfp k (.inl hk)).2.2.1 e))
                   replace hnow := hnow.upd hu36 (by first | exact (fun _ _ _ h => h) | exact (fun k hk _ e => (hfp k (.inr hk)).2.2.1 e))
                   replace hsx := hsx.upd hu36 (by first | exact (fun _ _ _ h => h) | exact (fun k hk _ e => (hFX k hk).2.1 e))
                   replace hrow := (row_set (i := i) (t := ⟨svx, v2, a.fresh, FS, FN⟩) (by rw [List.getElem?_set_self (by omega)])).2.2 _ (by omega) hrow
                   rw [List.set_set] at hrow
                   refine WL.nil ?_
                   refine WX.keep [(0, _), (1, _), (14, _), (15, _)] ⟨rfl, rfl, rfl, rfl, trivial⟩ ?_
                   have hnx := hnew2.lt
                   have hput : DrumAt w36 (Grow (Grow F w w') w' w36) p g (l.set i ⟨svx, v2, false, FX, fun k => wx.heap.size ≤ k ∧ k < w36.heap.size⟩) { D with l := partL D.l cuts (i + 1) } := by
                     refine h.put (a' := fallT a cut) (D' := { D with l := partL D.l cuts (i + 1) }) (t' := ⟨svx, v2, false, FX, fun k => wx.heap.size ≤ k ∧ k < w36.heap.size⟩) ht hU (by rw [show ({ D with l := partL D.l cuts i } : DS).l.length = D.l.length from partL_length _ _ _]; exact hb) (by rw [trkC_fp]; exact hrow) ⟨hsx, hnew2.mono (fun k hk => by simp only [New] at hk; omega), rfl⟩ (by rw [hcut]; exact (partL_step ha).symm) ⟨hdw.most, by rw [partL_length]; exact hD8, hdw.armed, fun u hu => ?_⟩ (fun k hk => ?_) (fun k hk hk' => ?_)
                     · obtain ⟨x, hx, h3⟩ := partL_mem hu
                       have h4 := hdw.trk x hx
                       rcases h3 with rfl | ⟨c, rfl⟩
                       · exact h4
                       · have h5 := fallS_len x c
                         simp only [fallT]
                         omega
                     · rcases hk with hk | hk
                       · have h3 := hFX k hk
                         refine ⟨?_, by omega⟩
                         rcases h3.1 with h4 | h4
                         · exact .inl h4
                         · exact .inr (.inr (by omega))
                       · exact ⟨.inr (.inr (by simp only at hk; omega)), hk.2⟩
                     · have h3 := hFX k hk
                       simp only at hk'
                       omega
                   refine WX.blockNormal ?_
                   refine WX.next ?_
                   refine WC.region ?_
                   first | refine WL.val rfl rfl rfl rfl (r_addN rfl (ev_t rfl) ev_c (by simp only [inK]; omega)) ?_ | refine WL.val rfl rfl rfl rfl (r_add rfl (ev_t rfl) ev_c) ?_
                   refine WL.val rfl rfl rfl rfl (r_move rfl (ev_t rfl)) ?_
                   refine WL.nil ?_
                   refine WX.keep [(0, _), (1, _), (14, _), (15, _)] ⟨rfl, rfl, rfl, rfl, trivial⟩ ?_
                   refine WX.meet [(0, _), (1, _), (14, _), (15, _)] ⟨rfl, rfl, rfl, rfl, trivial⟩ ?_
                   exact ⟨D.l.length - (i + 1), by omega, i + 1, by omega, rfl, hU0.trans hU hTF, ⟨g, _, hput.mono (fun k hk _ => Grow.trans hU0.size hU.size hk)⟩, hr, rfl⟩
                · try (exfalso; first | (simp at hc10; done) | (simp only [decide_eq_true_eq, decide_eq_false_iff_not, Bool.not_eq_true', Bool.not_eq_false', Bool.not_eq_true, Bool.not_eq_false] at hc10; omega) | omega)
                  all_goals
                   try simp only [decide_eq_true_eq, decide_eq_false_iff_not, Bool.not_eq_true', Bool.not_eq_false', Bool.not_eq_true, Bool.not_eq_false, Option.isNone_none, Option.isNone_some, Option.isSome_none, Option.isSome_some, ne_eq, Decidable.not_not] at hc10
                   refine WC.seq ?_
                   refine WC.region ?_
                   refine WL.val rfl rfl rfl rfl (r_move rfl (ev_t rfl)) ?_
                   refine WL.val rfl rfl rfl rfl (r_nilCheck rfl (ev_t rfl)) ?_
                   first | refine WL.val rfl rfl rfl rfl (r_field0 rfl (ev_t rfl) fld_86_2) ?_ | refine WL.val rfl rfl rfl rfl (r_fieldAt rfl (ev_t rfl) fld_86_2) ?_
                   refine WL.val rfl rfl rfl rfl (r_load rfl (ev_t rfl) flat_4 ((row_get hrow ht).2.2 (by omega))) ?_
                   refine WL.val rfl rfl rfl rfl (r_not rfl (ev_t rfl)) ?_
                   refine WL.val rfl rfl rfl rfl (r_move rfl (ev_t rfl)) ?_
                   refine WL.cases 63 rfl (fun hb12_5 => ?_) (fun hb12_5 => ?_)
                   · try (exfalso; first | (simp at hb12_5; done) | (simp only [decide_eq_true_eq, decide_eq_false_iff_not, Bool.not_eq_true', Bool.not_eq_false', Bool.not_eq_true, Bool.not_eq_false] at hb12_5; omega) | omega)
                     all_goals
                      try simp only [decide_eq_true_eq, decide_eq_false_iff_not, Bool.not_eq_true', Bool.not_eq_false', Bool.not_eq_true, Bool.not_eq_false, Option.isNone_none, Option.isNone_some, Option.isSome_none, Option.isSome_some, ne_eq, Decidable.not_not] at hb12_5
                      refine WL.val rfl rfl rfl rfl (r_move rfl (ev_t rfl)) ?_
                      refine WL.val rfl rfl rfl rfl (r_gtr rfl (ev_t rfl) ev_c) ?_
                      refine WL.val rfl rfl rfl rfl (r_pickT rfl (ev_t rfl) (ev_t rfl)) ?_
                      refine WL.val rfl rfl rfl rfl (r_assign rfl (ev_t rfl)) ?_
                      refine WL.nil ?_
                      refine WX.keep [(0, _), (1, _), (6, _), (7, _), (14, _), (15, _), (57, _)] ⟨rfl, rfl, rfl, rfl, rfl, rfl, rfl, trivial⟩ ?_
                      refine WX.next ?_
                      refine WC.cond rfl (ev_t rfl) (fun hc12 => ?_) (fun hc12 => ?_)
                      · try (exfalso; first | (simp at hc12; done) | (simp only [decide_eq_true_eq, decide_eq_false_iff_not, Bool.not_eq_true', Bool.not_eq_false', Bool.not_eq_true, Bool.not_eq_false] at hc12; omega) | omega)
                        all_goals
                         try simp only [decide_eq_true_eq, decide_eq_false_iff_not, Bool.not_eq_true', Bool.not_eq_false', Bool.not_eq_true, Bool.not_eq_false, Option.isNone_none, Option.isNone_some, Option.isSome_none, Option.isSome_some, ne_eq, Decidable.not_not] at hc12
                         refine WC.draws' (fun u0_ u1_ => Upd No u0_ u1_) (fun j => [0, 0, 0, 0, 0, 0, 0, 0, 0, 0, 0, 0, 0, 0, 0, 0, 0, 0, 0, 0, 0, 1, 0, 0, 0, 2, 0, 0, 2].getD j 0) (.calm 0 (.calm 1 (.calm 2 (.calm 3 (.calm 5 (.calm 6 (.calm 7 (.calm 10 (.calm 11 (.calm 12 (.calm 13 (.calm 18 (.calm 19 (.calm 20 (.held 4 (.held 8 (.calm 9 (.held 14 (.calm 15 (.calm 16 (.calm 17 (.one 21 (.calm 22 (.calm 23 (.calm 24 (.one 25 (.calm 26 (.calm 27 (.one 28 (.done)))))))))))))))))))))))))))))) mixed (by kernel_rfl) (by repeat (first | with_reducible exact Deaf.body | with_reducible apply Deaf.then | with_reducible apply Deaf.block)) ?_
                         intro w37 hu37
                         have hz37 := congrArg Array.size hu37.2.2.2
                         replace hu37 := Upd.of_draw hu37
                         have hs37 := hu37.size
                         replace hU := hU.trans hu37 (by first | exact (fun _ _ h => h) | exact (fun _ _ h => h.elim) | (intro k hl hk; (try simp only [At, New, Grow, From, No] at hk ⊢); omega) | (intro k hl hk; first | exact .inl hk | exact .inr (.inl hk) | exact .inr (.inr (.inr hk)) | exact .inr (.inr (.inl hk)) | (simp only [At] at hk; subst hk; exact hpF)))
                         replace hr := hr.upd hu37 (by first | exact (fun _ _ _ h => h) | (intro k hk hl e; exact hG k hk.1 hk.2 (by first | exact (hGF k hk.2 (by first | exact .inl e | exact .inr e)) | (simp only [At] at e; subst e; exact hpF))))
                         replace hb := hb.upd hu37 (by first | exact (fun h => h) | exact (fun h => (hfp _ (.inr h)).2.1 rfl) | exact hpg)
                         replace hrow := hrow.upd hu37 (by first | exact (fun h => h) | exact (fun e => hpg e.symm))
                         replace hsure := hsure.upd hu37 (by first | exact (fun _ _ _ h => h) | exact (fun k hk _ e => (hfp k (.inl hk)).2.2.1 e))
                         replace hnow := hnow.upd hu37 (by first | exact (fun _ _ _ h => h) | exact (fun k hk _ e => (hfp k (.inr hk)).2.2.1 e))
                         have hS13 := Upd.refl No w37
                         refine WN.calm _ rfl rfl rfl rfl rfl (fun _ => r_move rfl (ev_t rfl)) ?_
                         refine WN.calm _ rfl rfl rfl rfl rfl (fun _ => r_move rfl (ev_t rfl)) ?_
                         refine WN.calm _ rfl rfl rfl rfl rfl (fun _ => r_nilCheck rfl (ev_t rfl)) ?_
                         first | refine WN.calm _ rfl rfl rfl rfl rfl (fun _ => r_field0 rfl (ev_t rfl) fld_86_1) ?_ | refine WN.calm _ rfl rfl rfl rfl rfl (fun _ => r_fieldAt rfl (ev_t rfl) fld_86_1) ?_
                         refine WN.calm _ rfl rfl rfl rfl rfl (fun _ => r_move rfl (ev_t rfl)) ?_
                         refine WN.calm _ rfl rfl rfl rfl rfl (fun _ => r_nilCheck rfl (ev_t rfl)) ?_
                         first | refine WN.calm _ rfl rfl rfl rfl rfl (fun _ => r_field0 rfl (ev_t rfl) fld_86_0) ?_ | refine WN.calm _ rfl rfl rfl rfl rfl (fun _ => r_fieldAt rfl (ev_t rfl) fld_86_0) ?_
                         refine WN.calm _ rfl rfl rfl rfl rfl (fun _ => r_move rfl (ev_t rfl)) ?_
                         refine WN.calm _ rfl rfl rfl rfl rfl (fun _ => r_move rfl (ev_t rfl)) ?_
                         refine WN.calm _ rfl rfl rfl rfl rfl (fun _ => r_nilCheck rfl (ev_t rfl)) ?_
                         first | refine WN.calm _ rfl rfl rfl rfl rfl (fun _ => r_field0 rfl (ev_t rfl) fld_86_1) ?_ | refine WN.calm _ rfl rfl rfl rfl rfl (fun _ => r_fieldAt rfl (ev_t rfl) fld_86_1) ?_
                         refine WN.calm _ rfl rfl rfl rfl rfl (fun _ => r_move rfl (ev_t rfl)) ?_
                         refine WN.calm _ rfl rfl rfl rfl rfl (fun _ => r_nilCheck rfl (ev_t rfl)) ?_
                         first | refine WN.calm _ rfl rfl rfl rfl rfl (fun _ => r_field0 rfl (ev_t rfl) fld_86_1) ?_ | refine WN.calm _ rfl rfl rfl rfl rfl (fun _ => r_fieldAt rfl (ev_t rfl) fld_86_1) ?_
                         refine WN.held _ rfl rfl rfl rfl rfl hS13 (fun w' hS => r_load rfl (ev_t rfl) flat_22 ((row_get (hrow.upd hS (fun h => h)) ht).2.1 (by omega))) ?_
                         refine WN.held _ rfl rfl rfl rfl rfl hS13 (fun w' hS => r_load rfl (ev_t rfl) flat_22 ((row_get (hrow.upd hS (fun h => h)) ht).1 (by omega))) ?_
                         refine WN.calm _ rfl rfl rfl rfl rfl (fun _ => r_lenSlice (ts := #[]) rfl (ev_t rfl) elem_22) ?_
                         refine WN.held _ rfl rfl rfl rfl rfl hS13 (fun w' hS => r_load rfl (ev_t rfl) flat_22 ((row_get (hrow.upd hS (fun h => h)) ht).2.1 (by omega))) ?_
                         refine WN.calm _ rfl rfl rfl rfl rfl (fun _ => r_lenSlice (ts := #[]) rfl (ev_t rfl) elem_22) ?_
                         refine WN.calm _ rfl rfl rfl rfl rfl (fun _ => r_min rfl (ev_t rfl) (ev_t rfl)) ?_
                         obtain ⟨kk, hkk, hk1⟩ : ∃ kk : Nat, (if (a.now.length : Int) < cut then (a.now.length : Int) else cut) = (kk : Int) ∧ kk = (min cut a.now.length).toNat := by
                           split
                           · exact ⟨a.now.length, rfl, by omega⟩
                           · exact ⟨cut.toNat, by omega, by omega⟩
                         rw [hkk]
                         have hkn : kk ≤ a.now.length := by omega
                         first | refine WN.calm _ rfl rfl rfl rfl rfl (fun _ => r_addN rfl (ev_t rfl) (ev_t rfl) (by simp only [inK]; omega)) ?_ | refine WN.calm _ rfl rfl rfl rfl rfl (fun _ => r_add rfl (ev_t rfl) (ev_t rfl)) ?_
                         refine WN.step _ rfl (SO.val rfl rfl rfl rfl (r_load rfl (ev_t rfl) flat_22 ((row_get hrow ht).2.1 (by omega))) ?_)
                         refine ⟨hS13, ?_⟩
                         refine WN.calm _ rfl rfl rfl rfl rfl (fun _ => r_lenSlice (ts := #[]) rfl (ev_t rfl) elem_22) ?_
                         refine WN.calm _ rfl rfl rfl rfl rfl (fun _ => r_min rfl (ev_t rfl) (ev_t rfl)) ?_
                         obtain ⟨k2, hk2, hk3, hk4⟩ : ∃ k2 : Nat, (if (a.now.length : Int) < (a.sure.length : Int) + (kk : Int) then (a.now.length : Int) else (a.sure.length : Int) + (kk : Int)) = (k2 : Int) ∧ k2 ≤ a.now.length ∧ min k2 a.now.length = min (a.sure.length + kk) a.now.length := by
                           split
                           · exact ⟨a.now.length, rfl, by omega, by omega⟩
                           · exact ⟨a.sure.length + kk, by omega, by omega, rfl⟩
                         rw [hk2]
                         refine WN.calm _ rfl rfl rfl rfl rfl (fun _ => r_slice (l := 0) (h := k2) rfl (ev_t rfl) elem_22 size_5 bnd_none (bnd_some (ev_t rfl) (by omega)) (by omega) (by omega) (by omega)) ?_
                         refine WN.step _ rfl (SO.call (clone_ok ((hnow.rd (by omega)).sliceB (lo := 0) (h := k2) (by omega) (by omega))) rfl body_42 ⟨(ev_t rfl), trivial⟩ rfl rfl rfl rfl ?_)
                         rintro v w38 ⟨hnew, hu38⟩
                         have hs38 := hu38.size
                         try replace hS13 := Upd.transA hS13 hu38
                         replace hU := hU.trans hu38 (by first | exact (fun _ _ h => h) | exact (fun _ _ h => h.elim) | (intro k hl hk; (try simp only [At, New, Grow, From, No] at hk ⊢); omega) | (intro k hl hk; first | exact .inl hk | exact .inr (.inl hk) | exact .inr (.inr (.inr hk)) | exact .inr (.inr (.inl hk)) | (simp only [At] at hk; subst hk; exact hpF)))
                         replace hr := hr.upd hu38 (by first | exact (fun _ _ _ h => h) | (intro k hk hl e; exact hG k hk.1 hk.2 (by first | exact (hGF k hk.2 (by first | exact .inl e | exact .inr e)) | (simp only [At] at e; subst e; exact hpF))))
                         replace hb := hb.upd hu38 (by first | exact (fun h => h) | exact (fun h => (hfp _ (.inr h)).2.1 rfl) | exact hpg)
                         replace hrow := hrow.upd hu38 (by first | exact (fun h => h) | exact (fun e => hpg e.symm))
                         replace hsure := hsure.upd hu38 (by first | exact (fun _ _ _ h => h) | exact (fun k hk _ e => (hfp k (.inl hk)).2.2.1 e))
                         replace hnow := hnow.upd hu38 (by first | exact (fun _ _ _ h => h) | exact (fun k hk _ e => (hfp k (.inr hk)).2.2.1 e))
                         refine ⟨trivial, ?_⟩
                         refine WN.calm _ rfl rfl rfl rfl rfl (fun _ => r_nilCheck rfl (ev_t rfl)) ?_
                         first | refine WN.calm _ rfl rfl rfl rfl rfl (fun _ => r_field0 rfl (ev_t rfl) fld_86_0) ?_ | refine WN.calm _ rfl rfl rfl rfl rfl (fun _ => r_fieldAt rfl (ev_t rfl) fld_86_0) ?_
                         refine WN.step _ rfl (SO.store rfl (ev_t rfl) (ev_t rfl) size_22 hrow (blt_of (by rw [trkC_size]; omega)) hnew.one rfl rfl rfl ?_)
                         intro w39 hu39 hrow hzs
                         replace hnew := hnew.upd hu39 (fun k hk _ e => by simp only [At, New] at hk e; have := h.row.lt; omega)
                         have hs39 := hu39.size
                         try replace hS13 := Upd.transA hS13 hu39
                         replace hU := hU.trans hu39 (by first | exact (fun _ _ h => h) | exact (fun _ _ h => h.elim) | (intro k hl hk; (try simp only [At, New, Grow, From, No] at hk ⊢); omega) | (intro k hl hk; first | exact .inl hk | exact .inr (.inl hk) | exact .inr (.inr (.inr hk)) | exact .inr (.inr (.inl hk)) | (simp only [At] at hk; subst hk; exact hpF)))
                         replace hr := hr.upd hu39 (by first | exact (fun _ _ _ h => h) | (intro k hk hl e; exact hG k hk.1 hk.2 (by first | exact (hGF k hk.2 (by first | exact .inl e | exact .inr e)) | (simp only [At] at e; subst e; exact hpF))))
                         replace hb := hb.upd hu39 (by first | exact (fun h => h) | exact (fun h => (hfp _ (.inr h)).2.1 rfl) | exact hpg)
                         replace hsure := hsure.upd hu39 (by first | exact (fun _ _ _ h => h) | exact (fun k hk _ e => (hfp k (.inl hk)).2.2.1 e))
                         replace hnow := hnow.upd hu39 (by first | exact (fun _ _ _ h => h) | exact (fun k hk _ e => (hfp k (.inr hk)).2.2.1 e))
                         replace hrow := (row_set ht).1 _ (by omega) hrow
                         refine ⟨trivial, ?_⟩
                         refine WN.done ?_
                         refine WX.keep [(0, _), (1, _), (6, _), (14, _), (15, _)] ⟨rfl, rfl, rfl, rfl, rfl, trivial⟩ ?_
                         have hfs : fallS a cut = a.now.take k2 := by unfold fallS; rw [if_neg (by rintro ⟨x, _⟩; simp [*] at *), if_pos ⟨by simp [*], by omega⟩]; exact (take_same (by rw [hk4, hk1])).symm
                         rw [List.drop_zero, Nat.sub_zero, ← hfs] at hnew
                         have hkl : k2 = (fallS a cut).length := by rw [hfs, List.length_take]; omega
                         rw [hkl] at hnew
                         obtain ⟨svx, FX, hrow, hsx, hFX⟩ : ∃ svx FX, Blk w39 g (trkC (l.set i ⟨svx, .slice An a.now.length cn, a.fresh, FS, FN⟩)).toArray 86 ∧ Own w39 FX 5 1 svx (fallS a cut).length ((fallS a cut).map U8) ∧ (∀ k, FX k → (FS k ∨ w'.heap.size ≤ k) ∧ k ≠ g ∧ k < w39.heap.size) := ⟨v, _, hrow, hnew, fun k hk => by have := h.row.lt; simp only [New] at hk; exact ⟨.inr (by omega), by omega, by omega⟩⟩
                         refine WX.blockNormal ?_
                         refine WX.next ?_
                         obtain ⟨wx, hwx⟩ : ∃ wx, wx = w39 := ⟨_, rfl⟩
                         rw [← hwx] at hFX
                         have hfl := fallS_len a cut
                         have hsz2 : w'.heap.size ≤ wx.heap.size := by rw [hwx]; omega
                         refine WC.region ?_
                         refine WL.val rfl rfl rfl rfl (r_move rfl (ev_t rfl)) ?_
                         refine WL.val rfl rfl rfl rfl (r_move rfl (ev_t rfl)) ?_
                         refine WL.val rfl rfl rfl rfl (r_move rfl (ev_t rfl)) ?_
                         refine WL.val rfl rfl rfl rfl (r_nilCheck rfl (ev_t rfl)) ?_
                         first | refine WL.val rfl rfl rfl rfl (r_field0 rfl (ev_t rfl) fld_86_0) ?_ | refine WL.val rfl rfl rfl rfl (r_fieldAt rfl (ev_t rfl) fld_86_0) ?_
                         refine WL.val rfl rfl rfl rfl (r_load rfl (ev_t rfl) flat_22 ((row_get (i := i) (t := ⟨svx, .slice An a.now.length cn, a.fresh, FS, FN⟩) hrow (by rw [List.getElem?_set_self (by omega)])).1 (by omega))) ?_
                         refine WL.cons (SO.call (clone_ok (hsx.rd (by omega))) rfl body_42 ⟨(ev_t rfl), trivial⟩ rfl rfl rfl rfl ?_)
                         rintro v2 w40 ⟨hnew2, hu40⟩
                         have hx1 : wx.heap.size ≤ w40.heap.size := by rw [hwx]; exact hu40.size
                         rw [← hwx] at hnew2
                         have hs40 := hu40.size
                         replace hU := hU.trans hu40 (by first | exact (fun _ _ h => h) | exact (fun _ _ h => h.elim) | (intro k hl hk; (try simp only [At, New, Grow, From, No] at hk ⊢); omega) | (intro k hl hk; first | exact .inl hk | exact .inr (.inl hk) | exact .inr (.inr (.inr hk)) | exact .inr (.inr (.inl hk)) | (simp only [At] at hk; subst hk; exact hpF)))
                         replace hr := hr.upd hu40 (by first | exact (fun _ _ _ h => h) | (intro k hk hl e; exact hG k hk.1 hk.2 (by first | exact (hGF k hk.2 (by first | exact .inl e | exact .inr e)) | (simp only [At] at e; subst e; exact hpF))))
                         replace hb := hb.upd hu40 (by first | exact (fun h => h) | exact (fun h => (hfp _ (.inr h)).2.1 rfl) | exact hpg)
                         replace hrow := hrow.upd hu40 (by first | exact (fun h => h) | exact (fun e => hpg e.symm))
                         replace hsure := hsure.upd hu40 (by first | exact (fun _ _ _ h => h) | exact (fun k hk _ e => (hfp k (.inl hk)).2.2.1 e))
                         replace hnow := hnow.upd hu40 (by first | exact (fun _ _ _ h => h) | exact (fun k hk _ e => (hfp k (.inr hk)).2.2.1 e))
                         replace hsx := hsx.upd hu40 (by first | exact (fun _ _ _ h => h) | exact (fun k hk _ e => (hFX k hk).2.1 e))
                         refine WL.val rfl rfl rfl rfl (r_nilCheck rfl (ev_t rfl)) ?_
                         first | refine WL.val rfl rfl rfl rfl (r_field0 rfl (ev_t rfl) fld_86_1) ?_ | refine WL.val rfl rfl rfl rfl (r_fieldAt rfl (ev_t rfl) fld_86_1) ?_
                         refine WL.cons (SO.store rfl (ev_t rfl) (ev_t rfl) size_22 hrow (blt_of (by rw [trkC_size, List.length_set]; omega)) hnew2.one rfl rfl rfl ?_)
                         intro w41 hu41 hrow hzs
                         replace hnew2 := hnew2.upd hu41 (fun k hk _ e => by simp only [At, New] at hk e; have := h.row.lt; omega)
                         have hs41 := hu41.size
                         replace hU := hU.trans hu41 (by first | exact (fun _ _ h => h) | exact (fun _ _ h => h.elim) | (intro k hl hk; (try simp only [At, New, Grow, From, No] at hk ⊢); omega) | (intro k hl hk; first | exact .inl hk | exact .inr (.inl hk) | exact .inr (.inr (.inr hk)) | exact .inr (.inr (.inl hk)) | (simp only [At] at hk; subst hk; exact hpF)))
                         replace hr := hr.upd hu41 (by first | exact (fun _ _ _ h => h) | (intro k hk hl e; exact hG k hk.1 hk.2 (by first | exact (hGF k hk.2 (by first | exact .inl e | exact .inr e)) | (simp only [At] at e; subst e; exact hpF))))
                         replace hb := hb.upd hu41 (by first | exact (fun h => h) | exact (fun h => (hfp _ (.inr h)).2.1 rfl) | exact hpg)
                         replace hsure := hsure.upd hu41 (by first | exact (fun _ _ _ h => h) | exact (fun k hk _ e => (hfp k (.inl hk)).2.2.1 e))
                         replace hnow := hnow.upd hu41 (by first | exact (fun _ _ _ h => h) | exact (fun k hk _ e => (hfp k (.inr hk)).2.2.1 e))
                         replace hsx := hsx.upd hu41 (by first | exact (fun _ _ _ h => h) | exact (fun k hk _ e => (hFX k hk).2.1 e))
                         replace hrow := (row_set (i := i) (t := ⟨svx, .slice An a.now.length cn, a.fresh, FS, FN⟩) (by rw [List.getElem?_set_self (by omega)])).2.1 _ (by omega) hrow
                         rw [List.set_set] at hrow
                         refine WL.val rfl rfl rfl rfl (r_nilCheck rfl (ev_t rfl)) ?_
                         first | refine WL.val rfl rfl rfl rfl (r_field0 rfl (ev_t rfl) fld_86_2) ?_ | refine WL.val rfl rfl rfl rfl (r_fieldAt rfl (ev_t rfl) fld_86_2) ?_
                         refine WL.cons (SO.store rfl (ev_t rfl) ev_c size_4 hrow (blt_of (by rw [trkC_size, List.length_set]; omega)) rfl rfl rfl rfl ?_)
                         intro w42 hu42 hrow hzs2
                         replace hnew2 := hnew2.upd hu42 (fun k hk _ e => by simp only [At, New] at hk e; have := h.row.lt; omega)
                         have hs42 := hu42.size
                         replace hU := hU.trans hu42 (by first | exact (fun _ _ h => h) | exact (fun _ _ h => h.elim) | (intro k hl hk; (try simp only [At, New, Grow, From, No] at hk ⊢); omega) | (intro k hl hk; first | exact .inl hk | exact .inr (.inl hk) | exact .inr (.inr (.inr hk)) | exact .inr (.inr (.inl hk)) | (simp only [At] at hk; subst hk; exact hpF)))
                         replace hr := hr.upd hu42 (by first | exact (fun _ _ _ h => h) | (intro k hk hl e; exact hG k hk.1 hk.2 (by first | exact (hGF k hk.2 (by first | exact .inl e | exact .inr e)) | (simp only [At] at e; subst e; exact hpF))))
                         replace hb := hb.upd hu42 (by first | exact (fun h => h) | exact (fun h => (hfp _ (.inr h)).2.1 rfl) | exact hpg)
                         replace hsure := hsure.upd hu42 (by first | exact (fun _ _ _ h => h) | exact (fun k hk _ e => (hfp k (.inl hk)).2.2.1 e))
                         replace hnow := hnow.upd hu42 (by first | exact (fun _ _ _ h => h) | exact (fun k hk _ e => (hfp k (.inr hk)).2.2.1 e))
                         replace hsx := hsx.upd hu42 (by first | exact (fun _ _ _ h => h) | exact (fun k hk _ e => (hFX k hk).2.1 e))
                         replace hrow := (row_set (i := i) (t := ⟨svx, v2, a.fresh, FS, FN⟩) (by rw [List.getElem?_set_self (by omega)])).2.2 _ (by omega) hrow
                         rw [List.set_set] at hrow
                         refine WL.nil ?_
                         refine WX.keep [(0, _), (1, _), (14, _), (15, _)] ⟨rfl, rfl, rfl, rfl, trivial⟩ ?_
                         have hnx := hnew2.lt
                         have hput : DrumAt w42 (Grow (Grow F w w') w' w42) p g (l.set i ⟨svx, v2, false, FX, fun k => wx.heap.size ≤ k ∧ k < w42.heap.size⟩) { D with l := partL D.l cuts (i + 1) } := by
                           refine h.put (a' := fallT a cut) (D' := { D with l := partL D.l cuts (i + 1) }) (t' := ⟨svx, v2, false, FX, fun k => wx.heap.size ≤ k ∧ k < w42.heap.size⟩) ht hU (by rw [show ({ D with l := partL D.l cuts i } : DS).l.length = D.l.length from partL_length _ _ _]; exact hb) (by rw [trkC_fp]; exact hrow) ⟨hsx, hnew2.mono (fun k hk => by simp only [New] at hk; omega), rfl⟩ (by rw [hcut]; exact (partL_step ha).symm) ⟨hdw.most, by rw [partL_length]; exact hD8, hdw.armed, fun u hu => ?_⟩ (fun k hk => ?_) (fun k hk hk' => ?_)
                           · obtain ⟨x, hx, h3⟩ := partL_mem hu
                             have h4 := hdw.trk x hx
                             rcases h3 with rfl | ⟨c, rfl⟩
                             · exact h4
                             · have h5 := fallS_len x c
                               simp only [fallT]
                               omega
                           · rcases hk with hk | hk
                             · have h3 := hFX k hk
                               refine ⟨?_, by omega⟩
                               rcases h3.1 with h4 | h4
                               · exact .inl h4
                               · exact .inr (.inr (by omega))
                             · exact ⟨.inr (.inr (by simp only at hk; omega)), hk.2⟩
                           · have h3 := hFX k hk
                             simp only at hk'
                             omega
                         refine WX.blockNormal ?_
                         refine WX.next ?_
                         refine WC.region ?_
                         first | refine WL.val rfl rfl rfl rfl (r_addN rfl (ev_t rfl) ev_c (by simp only [inK]; omega)) ?_ | refine WL.val rfl rfl rfl rfl (r_add rfl (ev_t rfl) ev_c) ?_
                         refine WL.val rfl rfl rfl rfl (r_move rfl (ev_t rfl)) ?_
                         refine WL.nil ?_
                         refine WX.keep [(0, _), (1, _), (14, _), (15, _)] ⟨rfl, rfl, rfl, rfl, trivial⟩ ?_
                         refine WX.meet [(0, _), (1, _), (14, _), (15, _)] ⟨rfl, rfl, rfl, rfl, trivial⟩ ?_
                         exact ⟨D.l.length - (i + 1), by omega, i + 1, by omega, rfl, hU0.trans hU hTF, ⟨g, _, hput.mono (fun k hk _ => Grow.trans hU0.size hU.size hk)⟩, hr, rfl⟩
                      · try (exfalso; first | (simp at hc12; done) | (simp only [decide_eq_true_eq, decide_eq_false_iff_not, Bool.not_eq_true', Bool.not_eq_false', Bool.not_eq_true, Bool.not_eq_false] at hc12; omega) | omega)
                        all_goals
                         try simp only [decide_eq_true_eq, decide_eq_false_iff_not, Bool.not_eq_true', Bool.not_eq_false', Bool.not_eq_true, Bool.not_eq_false, Option.isNone_none, Option.isNone_some, Option.isSome_none, Option.isSome_some, ne_eq, Decidable.not_not] at hc12
                         have hfs : fallS a cut = a.sure := by
                           unfold fallS
                           rw [if_neg (by rintro ⟨x1, x2⟩; first | omega | (rw [hb10_4] at x1; cases x1; done) | (rw [hb10_4] at hb12_5; cases hb12_5; done)), if_neg (by rintro ⟨x1, x2⟩; first | omega | (rw [hb10_4] at x1; cases x1; done) | (rw [hb10_4] at hb12_5; cases hb12_5; done))]
                         obtain ⟨svx, FX, hrow, hsx, hFX⟩ : ∃ svx FX, Blk w' g (trkC (l.set i ⟨svx, .slice An a.now.length cn, a.fresh, FS, FN⟩)).toArray 86 ∧ Own w' FX 5 1 svx (fallS a cut).length ((fallS a cut).map U8) ∧ (∀ k, FX k → (FS k ∨ w'.heap.size ≤ k) ∧ k ≠ g ∧ k < w'.heap.size) := ⟨.slice As a.sure.length cs, FS, by rw [set_same ht]; exact hrow, by rw [hfs]; exact hsure, fun k hk => ⟨.inl hk, (hfp k (.inl hk)).2.2.1, (hfp k (.inl hk)).2.2.2⟩⟩
                         refine WC.skip ?_
                         refine WX.blockNormal ?_
                         refine WX.next ?_
                         obtain ⟨wx, hwx⟩ : ∃ wx, wx = w' := ⟨_, rfl⟩
                         rw [← hwx] at hFX
                         have hfl := fallS_len a cut
                         have hsz2 : w'.heap.size ≤ wx.heap.size := by rw [hwx]; omega
                         refine WC.region ?_
                         refine WL.val rfl rfl rfl rfl (r_move rfl (ev_t rfl)) ?_
                         refine WL.val rfl rfl rfl rfl (r_move rfl (ev_t rfl)) ?_
                         refine WL.val rfl rfl rfl rfl (r_move rfl (ev_t rfl)) ?_
                         refine WL.val rfl rfl rfl rfl (r_nilCheck rfl (ev_t rfl)) ?_
                         first | refine WL.val rfl rfl rfl rfl (r_field0 rfl (ev_t rfl) fld_86_0) ?_ | refine WL.val rfl rfl rfl rfl (r_fieldAt rfl (ev_t rfl) fld_86_0) ?_
                         refine WL.val rfl rfl rfl rfl (r_load rfl (ev_t rfl) flat_22 ((row_get (i := i) (t := ⟨svx, .slice An a.now.length cn, a.fresh, FS, FN⟩) hrow (by rw [List.getElem?_set_self (by omega)])).1 (by omega))) ?_
                         refine WL.cons (SO.call (clone_ok (hsx.rd (by omega))) rfl body_42 ⟨(ev_t rfl), trivial⟩ rfl rfl rfl rfl ?_)
                         rintro v2 w43 ⟨hnew2, hu43⟩
                         have hx1 : wx.heap.size ≤ w43.heap.size := by rw [hwx]; exact hu43.size
                         rw [← hwx] at hnew2
                         have hs43 := hu43.size
                         replace hU := hU.trans hu43 (by first | exact (fun _ _ h => h) | exact (fun _ _ h => h.elim) | (intro k hl hk; (try simp only [At, New, Grow, From, No] at hk ⊢); omega) | (intro k hl hk; first | exact .inl hk | exact .inr (.inl hk) | exact .inr (.inr (.inr hk)) | exact .inr (.inr (.inl hk)) | (simp only [At] at hk; subst hk; exact hpF)))
                         replace hr := hr.upd hu43 (by first | exact (fun _ _ _ h => h) | (intro k hk hl e; exact hG k hk.1 hk.2 (by first | exact (hGF k hk.2 (by first | exact .inl e | exact .inr e)) | (simp only [At] at e; subst e; exact hpF))))
                         replace hb := hb.upd hu43 (by first | exact (fun h => h) | exact (fun h => (hfp _ (.inr h)).2.1 rfl) | exact hpg)
                         replace hrow := hrow.upd hu43 (by first | exact (fun h => h) | exact (fun e => hpg e.symm))
                         replace hsure := hsure.upd hu43 (by first | exact (fun _ _ _ h => h) | exact (fun k hk _ e => (hfp k (.inl hk)).2.2.1 e))
                         replace hnow := hnow.upd hu43 (by first | exact (fun _ _ _ h => h) | exact (fun k hk _ e => (hfp k (.inr hk)).2.2.1 e))
                         replace hsx := hsx.upd hu43 (by first | exact (fun _ _ _ h => h) | exact (fun k hk _ e => (hFX k hk).2.1 e))
                         refine WL.val rfl rfl rfl rfl (r_nilCheck rfl (ev_t rfl)) ?_
                         first | refine WL.val rfl rfl rfl rfl (r_field0 rfl (ev_t rfl) fld_86_1) ?_ | refine WL.val rfl rfl rfl rfl (r_fieldAt rfl (ev_t rfl) fld_86_1) ?_
                         refine WL.cons (SO.store rfl (ev_t rfl) (ev_t rfl) size_22 hrow (blt_of (by rw [trkC_size, List.length_set]; omega)) hnew2.one rfl rfl rfl ?_)
                         intro w44 hu44 hrow hzs
                         replace hnew2 := hnew2.upd hu44 (fun k hk _ e => by simp only [At, New] at hk e; have := h.row.lt; omega)
                         have hs44 := hu44.size
                         replace hU := hU.trans hu44 (by first | exact (fun _ _ h => h) | exact (fun _ _ h => h.elim) | (intro k hl hk; (try simp only [At, New, Grow, From, No] at hk ⊢); omega) | (intro k hl hk; first | exact .inl hk | exact .inr (.inl hk) | exact .inr (.inr (.inr hk)) | exact .inr (.inr (.inl hk)) | (simp only [At] at hk; subst hk; exact hpF)))
                         replace hr := hr.upd hu44 (by first | exact (fun _ _ _ h => h) | (intro k hk hl e; exact hG k hk.1 hk.2 (by first | exact (hGF k hk.2 (by first | exact .inl e | exact .inr e)) | (simp only [At] at e; subst e; exact hpF))))
                         replace hb := hb.upd hu44 (by first | exact (fun h => h) | exact (fun h => (hfp _ (.inr h)).2.1 rfl) | exact hpg)
                         replace hsure := hsure.upd hu44 (by first | exact (fun _ _ _ h => h) | exact (fun k hk _ e => (hfp k (.inl hk)).2.2.1 e))
                         replace hnow := hnow.upd hu44 (by first | exact (fun _ _ _ h => h) | exact (fun k hk _ e => (hfp k (.inr hk)).2.2.1 e))
                         replace hsx := hsx.upd hu44 (by first | exact (fun _ _ _ h => h) | exact (fun k hk _ e => (hFX k hk).2.1 e))
                         replace hrow := (row_set (i := i) (t := ⟨svx, .slice An a.now.length cn, a.fresh, FS, FN⟩) (by rw [List.getElem?_set_self (by omega)])).2.1 _ (by omega) hrow
                         rw [List.set_set] at hrow
                         refine WL.val rfl rfl rfl rfl (r_nilCheck rfl (ev_t rfl)) ?_
                         first | refine WL.val rfl rfl rfl rfl (r_field0 rfl (ev_t rfl) fld_86_2) ?_ | refine WL.val rfl rfl rfl rfl (r_fieldAt rfl (ev_t rfl) fld_86_2) ?_
                         refine WL.cons (SO.store rfl (ev_t rfl) ev_c size_4 hrow (blt_of (by rw [trkC_size, List.length_set]; omega)) rfl rfl rfl rfl ?_)
                         intro w45 hu45 hrow hzs2
                         replace hnew2 := hnew2.upd hu45 (fun k hk _ e => by simp only [At, New] at hk e; have := h.row.lt; omega)
                         have hs45 := hu45.size
                         replace hU := hU.trans hu45 (by first | exact (fun _ _ h => h) | exact (fun _ _ h => h.elim) | (intro k hl hk; (try simp only [At, New, Grow, From, No] at hk ⊢); omega) | (intro k hl hk; first | exact .inl hk | exact .inr (.inl hk) | exact .inr (.inr (.inr hk)) | exact .inr (.inr (.inl hk)) | (simp only [At] at hk; subst hk; exact hpF)))
                         replace hr := hr.upd hu45 (by first | exact (fun _ _ _ h => h) | (intro k hk hl e; exact hG k hk.1 hk.2 (by first | exact (hGF k hk.2 (by first | exact .inl e | exact .inr e)) | (simp only [At] at e; subst e; exact hpF))))
                         replace hb := hb.upd hu45 (by first | exact (fun h => h) | exact (fun h => (hfp _ (.inr h)).2.1 rfl) | exact hpg)
                         replace hsure := hsure.upd hu45 (by first | exact (fun _ _ _ h => h) | exact (fun k hk _ e => (hfp k (.inl hk)).2.2.1 e))
                         replace hnow := hnow.upd hu45 (by first | exact (fun _ _ _ h => h) | exact (fun k hk _ e => (hfp k (.inr hk)).2.2.1 e))
                         replace hsx := hsx.upd hu45 (by first | exact (fun _ _ _ h => h) | exact (fun k hk _ e => (hFX k hk).2.1 e))
                         replace hrow := (row_set (i := i) (t := ⟨svx, v2, a.fresh, FS, FN⟩) (by rw [List.getElem?_set_self (by omega)])).2.2 _ (by omega) hrow
                         rw [List.set_set] at hrow
                         refine WL.nil ?_
                         refine WX.keep [(0, _), (1, _), (14, _), (15, _)] ⟨rfl, rfl, rfl, rfl, trivial⟩ ?_
                         have hnx := hnew2.lt
                         have hput : DrumAt w45 (Grow (Grow F w w') w' w45) p g (l.set i ⟨svx, v2, false, FX, fun k => wx.heap.size ≤ k ∧ k < w45.heap.size⟩) { D with l := partL D.l cuts (i + 1) } := by
                           refine h.put (a' := fallT a cut) (D' := { D with l := partL D.l cuts (i + 1) }) (t' := ⟨svx, v2, false, FX, fun k => wx.heap.size ≤ k ∧ k < w45.heap.size⟩) ht hU (by rw [show ({ D with l := partL D.l cuts i } : DS).l.length = D.l.length from partL_length _ _ _]; exact hb) (by rw [trkC_fp]; exact hrow) ⟨hsx, hnew2.mono (fun k hk => by simp only [New] at hk; omega), rfl⟩ (by rw [hcut]; exact (partL_step ha).symm) ⟨hdw.most, by rw [partL_length]; exact hD8, hdw.armed, fun u hu => ?_⟩ (fun k hk => ?_) (fun k hk hk' => ?_)
                           · obtain ⟨x, hx, h3⟩ := partL_mem hu
                             have h4 := hdw.trk x hx
                             rcases h3 with rfl | ⟨c, rfl⟩
                             · exact h4
                             · have h5 := fallS_len x c
                               simp only [fallT]
                               omega
                           · rcases hk with hk | hk
                             · have h3 := hFX k hk
                               refine ⟨?_, by omega⟩
                               rcases h3.1 with h4 | h4
                               · exact .inl h4
                               · exact .inr (.inr (by omega))
                             · exact ⟨.inr (.inr (by simp only at hk; omega)), hk.2⟩
                           · have h3 := hFX k hk
                             simp only at hk'
                             omega
                         refine WX.blockNormal ?_
                         refine WX.next ?_
                         refine WC.region ?_
                         first | refine WL.val rfl rfl rfl rfl (r_addN rfl (ev_t rfl) ev_c (by simp only [inK]; omega)) ?_ | refine WL.val rfl rfl rfl rfl (r_add rfl (ev_t rfl) ev_c) ?_
                         refine WL.val rfl rfl rfl rfl (r_move rfl (ev_t rfl)) ?_
                         refine WL.nil ?_
                         refine WX.keep [(0, _), (1, _), (14, _), (15, _)] ⟨rfl, rfl, rfl, rfl, trivial⟩ ?_
                         refine WX.meet [(0, _), (1, _), (14, _), (15, _)] ⟨rfl, rfl, rfl, rfl, trivial⟩ ?_
                         exact ⟨D.l.length - (i + 1), by omega, i + 1, by omega, rfl, hU0.trans hU hTF, ⟨g, _, hput.mono (fun k hk _ => Grow.trans hU0.size hU.size hk)⟩, hr, rfl⟩
                   · try (exfalso; first | (simp at hb12_5; done) | (simp only [decide_eq_true_eq, decide_eq_false_iff_not, Bool.not_eq_true', Bool.not_eq_false', Bool.not_eq_true, Bool.not_eq_false] at hb12_5; omega) | omega)
                     all_goals
                      try simp only [decide_eq_true_eq, decide_eq_false_iff_not, Bool.not_eq_true', Bool.not_eq_false', Bool.not_eq_true, Bool.not_eq_false, Option.isNone_none, Option.isNone_some, Option.isSome_none, Option.isSome_some, ne_eq, Decidable.not_not] at hb12_5
                      refine WL.skip rfl rfl rfl ?_
                      refine WL.skip rfl rfl rfl ?_
                      refine WL.val rfl rfl rfl rfl (r_pickF rfl (ev_t rfl) ev_c) ?_
                      refine WL.val rfl rfl rfl rfl (r_assign rfl (ev_t rfl)) ?_
                      refine WL.nil ?_
                      refine WX.keep [(0, _), (1, _), (6, _), (7, _), (14, _), (15, _), (57, _)] ⟨rfl, rfl, rfl, rfl, rfl, rfl, rfl, trivial⟩ ?_
                      refine WX.next ?_
                      refine WC.cond_false rfl (ev_t rfl) ?_
                      have hfs : fallS a cut = a.sure := by
                        unfold fallS
                        rw [if_neg (by rintro ⟨x1, x2⟩; first | omega | (rw [hb10_4] at x1; cases x1; done) | (rw [hb10_4] at hb12_5; cases hb12_5; done)), if_neg (by rintro ⟨x1, x2⟩; first | omega | (rw [hb10_4] at x1; cases x1; done) | (rw [hb10_4] at hb12_5; cases hb12_5; done))]
                      obtain ⟨svx, FX, hrow, hsx, hFX⟩ : ∃ svx FX, Blk w' g (trkC (l.set i ⟨svx, .slice An a.now.length cn, a.fresh, FS, FN⟩)).toArray 86 ∧ Own w' FX 5 1 svx (fallS a cut).length ((fallS a cut).map U8) ∧ (∀ k, FX k → (FS k ∨ w'.heap.size ≤ k) ∧ k ≠ g ∧ k < w'.heap.size) := ⟨.slice As a.sure.length cs, FS, by rw [set_same ht]; exact hrow, by rw [hfs]; exact hsure, fun k hk => ⟨.inl hk, (hfp k (.inl hk)).2.2.1, (hfp k (.inl hk)).2.2.2⟩⟩
                      refine WC.skip ?_
                      refine WX.blockNormal ?_
                      refine WX.next ?_
                      obtain ⟨wx, hwx⟩ : ∃ wx, wx = w' := ⟨_, rfl⟩
                      rw [← hwx] at hFX
                      have hfl := fallS_len a cut
                      have hsz2 : w'.heap.size ≤ wx.heap.size := by rw [hwx]; omega
                      refine WC.region ?_
                      refine WL.val rfl rfl rfl rfl (r_move rfl (ev_t rfl)) ?_
                      refine WL.val rfl rfl rfl rfl (r_move rfl (ev_t rfl)) ?_
                      refine WL.val rfl rfl rfl rfl (r_move rfl (ev_t rfl)) ?_
                      refine WL.val rfl rfl rfl rfl (r_nilCheck rfl (ev_t rfl)) ?_
                      first | refine WL.val rfl rfl rfl rfl (r_field0 rfl (ev_t rfl) fld_86_0) ?_ | refine WL.val rfl rfl rfl rfl (r_fieldAt rfl (ev_t rfl) fld_86_0) ?_
                      refine WL.val rfl rfl rfl rfl (r_load rfl (ev_t rfl) flat_22 ((row_get (i := i) (t := ⟨svx, .slice An a.now.length cn, a.fresh, FS, FN⟩) hrow (by rw [List.getElem?_set_self (by omega)])).1 (by omega))) ?_
                      refine WL.cons (SO.call (clone_ok (hsx.rd (by omega))) rfl body_42 ⟨(ev_t rfl), trivial⟩ rfl rfl rfl rfl ?_)
                      rintro v2 w46 ⟨hnew2, hu46⟩
                      have hx1 : wx.heap.size ≤ w46.heap.size := by rw [hwx]; exact hu46.size
                      rw [← hwx] at hnew2
                      have hs46 := hu46.size
                      replace hU := hU.trans hu46 (by first | exact (fun _ _ h => h) | exact (fun _ _ h => h.elim) | (intro k hl hk; (try simp only [At, New, Grow, From, No] at hk ⊢); omega) | (intro k hl hk; first | exact .inl hk | exact .inr (.inl hk) | exact .inr (.inr (.inr hk)) | exact .inr (.inr (.inl hk)) | (simp only [At] at hk; subst hk; exact hpF)))
                      replace hr := hr.upd hu46 (by first | exact (fun _ _ _ h => h) | (intro k hk hl e; exact hG k hk.1 hk.2 (by first | exact (hGF k hk.2 (by first | exact .inl e | exact .inr e)) | (simp only [At] at e; subst e; exact hpF))))
                      replace hb := hb.upd hu46 (by first | exact (fun h => h) | exact (fun h => (hfp _ (.inr h)).2.1 rfl) | exact hpg)
                      replace hrow := hrow.upd hu46 (by first | exact (fun h => h) | exact (fun e => hpg e.symm))
                      replace hsure := hsure.upd hu46 (by first | exact (fun _ _ _ h => h) | exact (fun k hk _ e => (hfp k (.inl hk)).2.2.1 e))
                      replace hnow := hnow.upd hu46 (by first | exact (fun _ _ _ h => h) | exact (fun k hk _ e => (hfp k (.inr hk)).2.2.1 e))
                      replace hsx := hsx.upd hu46 (by first | exact (fun _ _ _ h => h) | exact (fun k hk _ e => (hFX k hk).2.1 e))
                      refine WL.val rfl rfl rfl rfl (r_nilCheck rfl (ev_t rfl)) ?_
                      first | refine WL.val rfl rfl rfl rfl (r_field0 rfl (ev_t rfl) fld_86_1) ?_ | refine WL.val rfl rfl rfl rfl (r_fieldAt rfl (ev_t rfl) fld_86_1) ?_
                      refine WL.cons (SO.store rfl (ev_t rfl) (ev_t rfl) size_22 hrow (blt_of (by rw [trkC_size, List.length_set]; omega)) hnew2.one rfl rfl rfl ?_)
                      intro w47 hu47 hrow hzs
                      replace hnew2 := hnew2.upd hu47 (fun k hk _ e => by simp only [At, New] at hk e; have := h.row.lt; omega)
                      have hs47 := hu47.size
                      replace hU := hU.trans hu47 (by first | exact (fun _ _ h => h) | exact (fun _ _ h => h.elim) | (intro k hl hk; (try simp only [At, New, Grow, From, No] at hk ⊢); omega) | (intro k hl hk; first | exact .inl hk | exact .inr (.inl hk) | exact .inr (.inr (.inr hk)) | exact .inr (.inr (.inl hk)) | (simp only [At] at hk; subst hk; exact hpF)))
                      replace hr := hr.upd hu47 (by first | exact (fun _ _ _ h => h) | (intro k hk hl e; exact hG k hk.1 hk.2 (by first | exact (hGF k hk.2 (by first | exact .inl e | exact .inr e)) | (simp only [At] at e; subst e; exact hpF))))
                      replace hb := hb.upd hu47 (by first | exact (fun h => h) | exact (fun h => (hfp _ (.inr h)).2.1 rfl) | exact hpg)
                      replace hsure := hsure.upd hu47 (by first | exact (fun _ _ _ h => h) | exact (fun k hk _ e => (hfp k (.inl hk)).2.2.1 e))
                      replace hnow := hnow.upd hu47 (by first | exact (fun _ _ _ h => h) | exact (fun k hk _ e => (hfp k (.inr hk)).2.2.1 e))
                      replace hsx := hsx.upd hu47 (by first | exact (fun _ _ _ h => h) | exact (fun k hk _ e => (hFX k hk).2.1 e))
                      replace hrow := (row_set (i := i) (t := ⟨svx, .slice An a.now.length cn, a.fresh, FS, FN⟩) (by rw [List.getElem?_set_self (by omega)])).2.1 _ (by omega) hrow
                      rw [List.set_set] at hrow
                      refine WL.val rfl rfl rfl rfl (r_nilCheck rfl (ev_t rfl)) ?_
                      first | refine WL.val rfl rfl rfl rfl (r_field0 rfl (ev_t rfl) fld_86_2) ?_ | refine WL.val rfl rfl rfl rfl (r_fieldAt rfl (ev_t rfl) fld_86_2) ?_
                      refine WL.cons (SO.store rfl (ev_t rfl) ev_c size_4 hrow (blt_of (by rw [trkC_size, List.length_set]; omega)) rfl rfl rfl rfl ?_)
                      intro w48 hu48 hrow hzs2
                      replace hnew2 := hnew2.upd hu48 (fun k hk _ e => by simp only [At, New] at hk e; have := h.row.lt; omega)
                      have hs48 := hu48.size
                      replace hU := hU.trans hu48 (by first | exact (fun _ _ h => h) | exact (fun _ _ h => h.elim) | (intro k hl hk; (try simp only [At, New, Grow, From, No] at hk ⊢); omega) | (intro k hl hk; first | exact .inl hk | exact .inr (.inl hk) | exact .inr (.inr (.inr hk)) | exact .inr (.inr (.inl hk)) | (simp only [At] at hk; subst hk; exact hpF)))
                      replace hr := hr.upd hu48 (by first | exact (fun _ _ _ h => h) | (intro k hk hl e; exact hG k hk.1 hk.2 (by first | exact (hGF k hk.2 (by first | exact .inl e | exact .inr e)) | (simp only [At] at e; subst e; exact hpF))))
                      replace hb := hb.upd hu48 (by first | exact (fun h => h) | exact (fun h => (hfp _ (.inr h)).2.1 rfl) | exact hpg)
                      replace hsure := hsure.upd hu48 (by first | exact (fun _ _ _ h => h) | exact (fun k hk _ e => (hfp k (.inl hk)).2.2.1 e))
                      replace hnow := hnow.upd hu48 (by first | exact (fun _ _ _ h => h) | exact (fun k hk _ e => (hfp k (.inr hk)).2.2.1 e))
                      replace hsx := hsx.upd hu48 (by first | exact (fun _ _ _ h => h) | exact (fun k hk _ e => (hFX k hk).2.1 e))
                      replace hrow := (row_set (i := i) (t := ⟨svx, v2, a.fresh, FS, FN⟩) (by rw [List.getElem?_set_self (by omega)])).2.2 _ (by omega) hrow
                      rw [List.set_set] at hrow
                      refine WL.nil ?_
                      refine WX.keep [(0, _), (1, _), (14, _), (15, _)] ⟨rfl, rfl, rfl, rfl, trivial⟩ ?_
                      have hnx := hnew2.lt
                      have hput : DrumAt w48 (Grow (Grow F w w') w' w48) p g (l.set i ⟨svx, v2, false, FX, fun k => wx.heap.size ≤ k ∧ k < w48.heap.size⟩) { D with l := partL D.l cuts (i + 1) } := by
                        refine h.put (a' := fallT a cut) (D' := { D with l := partL D.l cuts (i + 1) }) (t' := ⟨svx, v2, false, FX, fun k => wx.heap.size ≤ k ∧ k < w48.heap.size⟩) ht hU (by rw [show ({ D with l := partL D.l cuts i } : DS).l.length = D.l.length from partL_length _ _ _]; exact hb) (by rw [trkC_fp]; exact hrow) ⟨hsx, hnew2.mono (fun k hk => by simp only [New] at hk; omega), rfl⟩ (by rw [hcut]; exact (partL_step ha).symm) ⟨hdw.most, by rw [partL_length]; exact hD8, hdw.armed, fun u hu => ?_⟩ (fun k hk => ?_) (fun k hk hk' => ?_)
                        · obtain ⟨x, hx, h3⟩ := partL_mem hu
                          have h4 := hdw.trk x hx
                          rcases h3 with rfl | ⟨c, rfl⟩
                          · exact h4
                          · have h5 := fallS_len x c
                            simp only [fallT]
                            omega
                        · rcases hk with hk | hk
                          · have h3 := hFX k hk
                            refine ⟨?_, by omega⟩
                            rcases h3.1 with h4 | h4
                            · exact .inl h4
                            · exact .inr (.inr (by omega))
                          · exact ⟨.inr (.inr (by simp only at hk; omega)), hk.2⟩
                        · have h3 := hFX k hk
                          simp only at hk'
                          omega
                      refine WX.blockNormal ?_
                      refine WX.next ?_
                      refine WC.region ?_
                      first | refine WL.val rfl rfl rfl rfl (r_addN rfl (ev_t rfl) ev_c (by simp only [inK]; omega)) ?_ | refine WL.val rfl rfl rfl rfl (r_add rfl (ev_t rfl) ev_c) ?_
                      refine WL.val rfl rfl rfl rfl (r_move rfl (ev_t rfl)) ?_
                      refine WL.nil ?_
                      refine WX.keep [(0, _), (1, _), (14, _), (15, _)] ⟨rfl, rfl, rfl, rfl, trivial⟩ ?_
                      refine WX.meet [(0, _), (1, _), (14, _), (15, _)] ⟨rfl, rfl, rfl, rfl, trivial⟩ ?_
                      exact ⟨D.l.length - (i + 1), by omega, i + 1, by omega, rfl, hU0.trans hU hTF, ⟨g, _, hput.mono (fun k hk _ => Grow.trans hU0.size hU.size hk)⟩, hr, rfl⟩
             · try (exfalso; first | (simp at hb10_4; done) | (simp only [decide_eq_true_eq, decide_eq_false_iff_not, Bool.not_eq_true', Bool.not_eq_false', Bool.not_eq_true, Bool.not_eq_false] at hb10_4; omega) | omega)
               all_goals
                try simp only [decide_eq_true_eq, decide_eq_false_iff_not, Bool.not_eq_true', Bool.not_eq_false', Bool.not_eq_true, Bool.not_eq_false, Option.isNone_none, Option.isNone_some, Option.isSome_none, Option.isSome_some, ne_eq, Decidable.not_not] at hb10_4
                refine WL.skip rfl rfl rfl ?_
                refine WL.skip rfl rfl rfl ?_
                refine WL.val rfl rfl rfl rfl (r_pickF rfl (ev_t rfl) ev_c) ?_
                refine WL.val rfl rfl rfl rfl (r_assign rfl (ev_t rfl)) ?_
                refine WL.nil ?_
                refine WX.keep [(0, _), (1, _), (6, _), (7, _), (14, _), (15, _), (32, _)] ⟨rfl, rfl, rfl, rfl, rfl, rfl, rfl, trivial⟩ ?_
                refine WX.next ?_
                refine WC.cond_false rfl (ev_t rfl) ?_
                refine WC.seq ?_
                refine WC.region ?_
                refine WL.val rfl rfl rfl rfl (r_move rfl (ev_t rfl)) ?_
                refine WL.val rfl rfl rfl rfl (r_nilCheck rfl (ev_t rfl)) ?_
                first | refine WL.val rfl rfl rfl rfl (r_field0 rfl (ev_t rfl) fld_86_2) ?_ | refine WL.val rfl rfl rfl rfl (r_fieldAt rfl (ev_t rfl) fld_86_2) ?_
                refine WL.val rfl rfl rfl rfl (r_load rfl (ev_t rfl) flat_4 ((row_get hrow ht).2.2 (by omega))) ?_
                refine WL.val rfl rfl rfl rfl (r_not rfl (ev_t rfl)) ?_
                refine WL.val rfl rfl rfl rfl (r_move rfl (ev_t rfl)) ?_
                refine WL.cases 63 rfl (fun hb12_5 => ?_) (fun hb12_5 => ?_)
                · try (exfalso; first | (simp at hb12_5; done) | (simp only [decide_eq_true_eq, decide_eq_false_iff_not, Bool.not_eq_true', Bool.not_eq_false', Bool.not_eq_true, Bool.not_eq_false] at hb12_5; omega) | omega)
                  all_goals
                   try simp only [decide_eq_true_eq, decide_eq_false_iff_not, Bool.not_eq_true', Bool.not_eq_false', Bool.not_eq_true, Bool.not_eq_false, Option.isNone_none, Option.isNone_some, Option.isSome_none, Option.isSome_some, ne_eq, Decidable.not_not] at hb12_5
                   refine WL.val rfl rfl rfl rfl (r_move rfl (ev_t rfl)) ?_
                   refine WL.val rfl rfl rfl rfl (r_gtr rfl (ev_t rfl) ev_c) ?_
                   refine WL.val rfl rfl rfl rfl (r_pickT rfl (ev_t rfl) (ev_t rfl)) ?_
                   refine WL.val rfl rfl rfl rfl (r_assign rfl (ev_t rfl)) ?_
                   refine WL.nil ?_
                   refine WX.keep [(0, _), (1, _), (6, _), (7, _), (14, _), (15, _), (57, _)] ⟨rfl, rfl, rfl, rfl, rfl, rfl, rfl, trivial⟩ ?_
                   refine WX.next ?_
                   refine WC.cond rfl (ev_t rfl) (fun hc12 => ?_) (fun hc12 => ?_)
                   · try (exfalso; first | (simp at hc12; done) | (simp only [decide_eq_true_eq, decide_eq_false_iff_not, Bool.not_eq_true', Bool.not_eq_false', Bool.not_eq_true, Bool.not_eq_false] at hc12; omega) | omega)
                     all_goals
                      try simp only [decide_eq_true_eq, decide_eq_false_iff_not, Bool.not_eq_true', Bool.not_eq_false', Bool.not_eq_true, Bool.not_eq_false, Option.isNone_none, Option.isNone_some, Option.isSome_none, Option.isSome_some, ne_eq, Decidable.not_not] at hc12
                      refine WC.draws' (fun u0_ u1_ => Upd No u0_ u1_) (fun j => [0, 0, 0, 0, 0, 0, 0, 0, 0, 0, 0, 0, 0, 0, 0, 0, 0, 0, 0, 0, 0, 1, 0, 0, 0, 2, 0, 0, 2].getD j 0) (.calm 0 (.calm 1 (.calm 2 (.calm 3 (.calm 5 (.calm 6 (.calm 7 (.calm 10 (.calm 11 (.calm 12 (.calm 13 (.calm 18 (.calm 19 (.calm 20 (.held 4 (.held 8 (.calm 9 (.held 14 (.calm 15 (.calm 16 (.calm 17 (.one 21 (.calm 22 (.calm 23 (.calm 24 (.one 25 (.calm 26 (.calm 27 (.one 28 (.done)))))))))))))))))))))))))))))) mixed (by kernel_rfl) (by repeat (first | with_reducible exact Deaf.body | with_reducible apply Deaf.then | with_reducible apply Deaf.block)) ?_
                      intro w49 hu49
                      have hz49 := congrArg Array.size hu49.2.2.2
                      replace hu49 := Upd.of_draw hu49
                      have hs49 := hu49.size
                      replace hU := hU.trans hu49 (by first | exact (fun _ _ h => h) | exact (fun _ _ h => h.elim) | (intro k hl hk; (try simp only [At, New, Grow, From, No] at hk ⊢); omega) | (intro k hl hk; first | exact .inl hk | exact .inr (.inl hk) | exact .inr (.inr (.inr hk)) | exact .inr (.inr (.inl hk)) | (simp only [At] at hk; subst hk; exact hpF)))
                      replace hr := hr.upd hu49 (by first | exact (fun _ _ _ h => h) | (intro k hk hl e; exact hG k hk.1 hk.2 (by first | exact (hGF k hk.2 (by first | exact .inl e | exact .inr e)) | (simp only [At] at e; subst e; exact hpF))))
                      replace hb := hb.upd hu49 (by first | exact (fun h => h) | exact (fun h => (hfp _ (.inr h)).2.1 rfl) | exact hpg)
                      replace hrow := hrow.upd hu49 (by first | exact (fun h => h) | exact (fun e => hpg e.symm))
                      replace hsure := hsure.upd hu49 (by first | exact (fun _ _ _ h => h) | exact (fun k hk _ e => (hfp k (.inl hk)).2.2.1 e))
                      replace hnow := hnow.upd hu49 (by first | exact (fun _ _ _ h => h) | exact (fun k hk _ e => (hfp k (.inr hk)).2.2.1 e))
                      have hS13 := Upd.refl No w49
                      refine WN.calm _ rfl rfl rfl rfl rfl (fun _ => r_move rfl (ev_t rfl)) ?_
                      refine WN.calm _ rfl rfl rfl rfl rfl (fun _ => r_move rfl (ev_t rfl)) ?_
                      refine WN.calm _ rfl rfl rfl rfl rfl (fun _ => r_nilCheck rfl (ev_t rfl)) ?_
                      first | refine WN.calm _ rfl rfl rfl rfl rfl (fun _ => r_field0 rfl (ev_t rfl) fld_86_1) ?_ | refine WN.calm _ rfl rfl rfl rfl rfl (fun _ => r_fieldAt rfl (ev_t rfl) fld_86_1) ?_
                      refine WN.calm _ rfl rfl rfl rfl rfl (fun _ => r_move rfl (ev_t rfl)) ?_
                      refine WN.calm _ rfl rfl rfl rfl rfl (fun _ => r_nilCheck rfl (ev_t rfl)) ?_
                      first | refine WN.calm _ rfl rfl rfl rfl rfl (fun _ => r_field0 rfl (ev_t rfl) fld_86_0) ?_ | refine WN.calm _ rfl rfl rfl rfl rfl (fun _ => r_fieldAt rfl (ev_t rfl) fld_86_0) ?_
                      refine WN.calm _ rfl rfl rfl rfl rfl (fun _ => r_move rfl (ev_t rfl)) ?_
                      refine WN.calm _ rfl rfl rfl rfl rfl (fun _ => r_move rfl (ev_t rfl)) ?_
                      refine WN.calm _ rfl rfl rfl rfl rfl (fun _ => r_nilCheck rfl (ev_t rfl)) ?_
                      first | refine WN.calm _ rfl rfl rfl rfl rfl (fun _ => r_field0 rfl (ev_t rfl) fld_86_1) ?_ | refine WN.calm _ rfl rfl rfl rfl rfl (fun _ => r_fieldAt rfl (ev_t rfl) fld_86_1) ?_
                      refine WN.calm _ rfl rfl rfl rfl rfl (fun _ => r_move rfl (ev_t rfl)) ?_
                      refine WN.calm _ rfl rfl rfl rfl rfl (fun _ => r_nilCheck rfl (ev_t rfl)) ?_
                      first | refine WN.calm _ rfl rfl rfl rfl rfl (fun _ => r_field0 rfl (ev_t rfl) fld_86_1) ?_ | refine WN.calm _ rfl rfl rfl rfl rfl (fun _ => r_fieldAt rfl (ev_t rfl) fld_86_1) ?_
                      refine WN.held _ rfl rfl rfl rfl rfl hS13 (fun w' hS => r_load rfl (ev_t rfl) flat_22 ((row_get (hrow.upd hS (fun h => h)) ht).2.1 (by omega))) ?_
                      refine WN.held _ rfl rfl rfl rfl rfl hS13 (fun w' hS => r_load rfl (ev_t rfl) flat_22 ((row_get (hrow.upd hS (fun h => h)) ht).1 (by omega))) ?_
                      refine WN.calm _ rfl rfl rfl rfl rfl (fun _ => r_lenSlice (ts := #[]) rfl (ev_t rfl) elem_22) ?_
                      refine WN.held _ rfl rfl rfl rfl rfl hS13 (fun w' hS => r_load rfl (ev_t rfl) flat_22 ((row_get (hrow.upd hS (fun h => h)) ht).2.1 (by omega))) ?_
                      refine WN.calm _ rfl rfl rfl rfl rfl (fun _ => r_lenSlice (ts := #[]) rfl (ev_t rfl) elem_22) ?_
                      refine WN.calm _ rfl rfl rfl rfl rfl (fun _ => r_min rfl (ev_t rfl) (ev_t rfl)) ?_
                      obtain ⟨kk, hkk, hk1⟩ : ∃ kk : Nat, (if (a.now.length : Int) < cut then (a.now.length : Int) else cut) = (kk : Int) ∧ kk = (min cut a.now.length).toNat := by
                        split
                        · exact ⟨a.now.length, rfl, by omega⟩
                        · exact ⟨cut.toNat, by omega, by omega⟩
                      rw [hkk]
                      have hkn : kk ≤ a.now.length := by omega
                      first | refine WN.calm _ rfl rfl rfl rfl rfl (fun _ => r_addN rfl (ev_t rfl) (ev_t rfl) (by simp only [inK]; omega)) ?_ | refine WN.calm _ rfl rfl rfl rfl rfl (fun _ => r_add rfl (ev_t rfl) (ev_t rfl)) ?_
                      refine WN.step _ rfl (SO.val rfl rfl rfl rfl (r_load rfl (ev_t rfl) flat_22 ((row_get hrow ht).2.1 (by omega))) ?_)
                      refine ⟨hS13, ?_⟩
                      refine WN.calm _ rfl rfl rfl rfl rfl (fun _ => r_lenSlice (ts := #[]) rfl (ev_t rfl) elem_22) ?_
                      refine WN.calm _ rfl rfl rfl rfl rfl (fun _ => r_min rfl (ev_t rfl) (ev_t rfl)) ?_
                      obtain ⟨k2, hk2, hk3, hk4⟩ : ∃ k2 : Nat, (if (a.now.length : Int) < (a.sure.length : Int) + (kk : Int) then (a.now.length : Int) else (a.sure.length : Int) + (kk : Int)) = (k2 : Int) ∧ k2 ≤ a.now.length ∧ min k2 a.now.length = min (a.sure.length + kk) a.now.length := by
                        split
                        · exact ⟨a.now.length, rfl, by omega, by omega⟩
                        · exact ⟨a.sure.length + kk, by omega, by omega, rfl⟩
                      rw [hk2]
                      refine WN.calm _ rfl rfl rfl rfl rfl (fun _ => r_slice (l := 0) (h := k2) rfl (ev_t rfl) elem_22 size_5 bnd_none (bnd_some (ev_t rfl) (by omega)) (by omega) (by omega) (by omega)) ?_
                      refine WN.step _ rfl (SO.call (clone_ok ((hnow.rd (by omega)).sliceB (lo := 0) (h := k2) (by omega) (by omega))) rfl body_42 ⟨(ev_t rfl), trivial⟩ rfl rfl rfl rfl ?_)
                      rintro v w50 ⟨hnew, hu50⟩
                      have hs50 := hu50.size
                      try replace hS13 := Upd.transA hS13 hu50
                      replace hU := hU.trans hu50 (by first | exact (fun _ _ h => h) | exact (fun _ _ h => h.elim) | (intro k hl hk; (try simp only [At, New, Grow, From, No] at hk ⊢); omega) | (intro k hl hk; first | exact .inl hk | exact .inr (.inl hk) | exact .inr (.inr (.inr hk)) | exact .inr (.inr (.inl hk)) | (simp only [At] at hk; subst hk; exact hpF)))
                      replace hr := hr.upd hu50 (by first | exact (fun _ _ _ h => h) | (intro k hk hl e; exact hG k hk.1 hk.2 (by first | exact (hGF k hk.2 (by first | exact .inl e | exact .inr e)) | (simp only [At] at e; subst e; exact hpF))))
                      replace hb := hb.upd hu50 (by first | exact (fun h => h) | exact (fun h => (hfp _ (.inr h)).2.1 rfl) | exact hpg)
                      replace hrow := hrow.upd hu50 (by first | exact (fun h => h) | exact (fun e => hpg e.symm))
                      replace hsure := hsure.upd hu50 (by first | exact (fun _ _ _ h => h) | exact (fun k hk _ e => (hfp k (.inl hk)).2.2.1 e))
                      replace hnow := hnow.upd hu50 (by first | exact (fun _ _ _ h => h) | exact (fun k hk _ e => (hfp k (.inr hk)).2.2.1 e))
                      refine ⟨trivial, ?_⟩
                      refine WN.calm _ rfl rfl rfl rfl rfl (fun _ => r_nilCheck rfl (ev_t rfl)) ?_
                      first | refine WN.calm _ rfl rfl rfl rfl rfl (fun _ => r_field0 rfl (ev_t rfl) fld_86_0) ?_ | refine WN.calm _ rfl rfl rfl rfl rfl (fun _ => r_fieldAt rfl (ev_t rfl) fld_86_0) ?_
                      refine WN.step _ rfl (SO.store rfl (ev_t rfl) (ev_t rfl) size_22 hrow (blt_of (by rw [trkC_size]; omega)) hnew.one rfl rfl rfl ?_)
                      intro w51 hu51 hrow hzs
                      replace hnew := hnew.upd hu51 (fun k hk _ e => by simp only [At, New] at hk e; have := h.row.lt; omega)
                      have hs51 := hu51.size
                      try replace hS13 := Upd.transA hS13 hu51
                      replace hU := hU.trans hu51 (by first | exact (fun _ _ h => h) | exact (fun _ _ h => h.elim) | (intro k hl hk; (try simp only [At, New, Grow, From, No] at hk ⊢); omega) | (intro k hl hk; first | exact .inl hk | exact .inr (.inl hk) | exact .inr (.inr (.inr hk)) | exact .inr (.inr (.inl hk)) | (simp only [At] at hk; subst hk; exact hpF)))
                      replace hr := hr.upd hu51 (by first | exact (fun _ _ _ h => h) | (intro k hk hl e; exact hG k hk.1 hk.2 (by first | exact (hGF k hk.2 (by first | exact .inl e | exact .inr e)) | (simp only [At] at e; subst e; exact hpF))))
                      replace hb := hb.upd hu51 (by first | exact (fun h => h) | exact (fun h => (hfp _ (.inr h)).2.1 rfl) | exact hpg)
                      replace hsure := hsure.upd hu51 (by first | exact (fun _ _ _ h => h) | exact (fun k hk _ e => (hfp k (.inl hk)).2.2.1 e))
                      replace hnow := hnow.upd hu51 (by first | exact (fun _ _ _ h => h) | exact (fun k hk _ e => (hfp k (.inr hk)).2.2.1 e))
                      replace hrow := (row_set ht).1 _ (by omega) hrow
                      refine ⟨trivial, ?_⟩
                      refine WN.done ?_
                      refine WX.keep [(0, _), (1, _), (6, _), (14, _), (15, _)] ⟨rfl, rfl, rfl, rfl, rfl, trivial⟩ ?_
                      have hfs : fallS a cut = a.now.take k2 := by unfold fallS; rw [if_neg (by rintro ⟨x, _⟩; simp [*] at *), if_pos ⟨by simp [*], by omega⟩]; exact (take_same (by rw [hk4, hk1])).symm
                      rw [List.drop_zero, Nat.sub_zero, ← hfs] at hnew
                      have hkl : k2 = (fallS a cut).length := by rw [hfs, List.length_take]; omega
                      rw [hkl] at hnew
                      obtain ⟨svx, FX, hrow, hsx, hFX⟩ : ∃ svx FX, Blk w51 g (trkC (l.set i ⟨svx, .slice An a.now.length cn, a.fresh, FS, FN⟩)).toArray 86 ∧ Own w51 FX 5 1 svx (fallS a cut).length ((fallS a cut).map U8) ∧ (∀ k, FX k → (FS k ∨ w'.heap.size ≤ k) ∧ k ≠ g ∧ k < w51.heap.size) := ⟨v, _, hrow, hnew, fun k hk => by have := h.row.lt; simp only [New] at hk; exact ⟨.inr (by omega), by omega, by omega⟩⟩
                      refine WX.blockNormal ?_
                      refine WX.next ?_
                      obtain ⟨wx, hwx⟩ : ∃ wx, wx = w51 := ⟨_, rfl⟩
                      rw [← hwx] at hFX
                      have hfl := fallS_len a cut
                      have hsz2 : w'.heap.size ≤ wx.heap.size := by rw [hwx]; omega
                      refine WC.region ?_
                      refine WL.val rfl rfl rfl rfl (r_move rfl (ev_t rfl)) ?_
                      refine WL.val rfl rfl rfl rfl (r_move rfl (ev_t rfl)) ?_
                      refine WL.val rfl rfl rfl rfl (r_move rfl (ev_t rfl)) ?_
                      refine WL.val rfl rfl rfl rfl (r_nilCheck rfl (ev_t rfl)) ?_
                      first | refine WL.val rfl rfl rfl rfl (r_field0 rfl (ev_t rfl) fld_86_0) ?_ | refine WL.val rfl rfl rfl rfl (r_fieldAt rfl (ev_t rfl) fld_86_0) ?_
                      refine WL.val rfl rfl rfl rfl (r_load rfl (ev_t rfl) flat_22 ((row_get (i := i) (t := ⟨svx, .slice An a.now.length cn, a.fresh, FS, FN⟩) hrow (by rw [List.getElem?_set_self (by omega)])).1 (by omega))) ?_
                      refine WL.cons (SO.call (clone_ok (hsx.rd (by omega))) rfl body_42 ⟨(ev_t rfl), trivial⟩ rfl rfl rfl rfl ?_)
                      rintro v2 w52 ⟨hnew2, hu52⟩
                      have hx1 : wx.heap.size ≤ w52.heap.size := by rw [hwx]; exact hu52.size
                      rw [← hwx] at hnew2
                      have hs52 := hu52.size
                      replace hU := hU.trans hu52 (by first | exact (fun _ _ h => h) | exact (fun _ _ h => h.elim) | (intro k hl hk; (try simp only [At, New, Grow, From, No] at hk ⊢); omega) | (intro k hl hk; first | exact .inl hk | exact .inr (.inl hk) | exact .inr (.inr (.inr hk)) | exact .inr (.inr (.inl hk)) | (simp only [At] at hk; subst hk; exact hpF)))
                      replace hr := hr.upd hu52 (by first | exact (fun _ _ _ h => h) | (intro k hk hl e; exact hG k hk.1 hk.2 (by first | exact (hGF k hk.2 (by first | exact .inl e | exact .inr e)) | (simp only [At] at e; subst e; exact hpF))))
                      replace hb := hb.upd hu52 (by first | exact (fun h => h) | exact (fun h => (hfp _ (.inr h)).2.1 rfl) | exact hpg)
                      replace hrow := hrow.upd hu52 (by first | exact (fun h => h) | exact (fun e => hpg e.symm))
                      replace hsure := hsure.upd hu52 (by first | exact (fun _ _ _ h => h) | exact (fun k hk _ e => (hfp k (.inl hk)).2.2.1 e))
                      replace hnow := hnow.upd hu52 (by first | exact (fun _ _ _ h => h) | exact (fun k hk _ e => (hfp k (.inr hk)).2.2.1 e))
                      replace hsx := hsx.upd hu52 (by first | exact (fun _ _ _ h => h) | exact (fun k hk _ e => (hFX k hk).2.1 e))
                      refine WL.val rfl rfl rfl rfl (r_nilCheck rfl (ev_t rfl)) ?_
                      first | refine WL.val rfl rfl rfl rfl (r_field0 rfl (ev_t rfl) fld_86_1) ?_ | refine WL.val rfl rfl rfl rfl (r_fieldAt rfl (ev_t rfl) fld_86_1) ?_
                      refine WL.cons (SO.store rfl (ev_t rfl) (ev_t rfl) size_22 hrow (blt_of (by rw [trkC_size, List.length_set]; omega)) hnew2.one rfl rfl rfl ?_)
                      intro w53 hu53 hrow hzs
                      replace hnew2 := hnew2.upd hu53 (fun k hk _ e => by simp only [At, New] at hk e; have := h.row.lt; omega)
                      have hs53 := hu53.size
                      replace hU := hU.trans hu53 (by first | exact (fun _ _ h => h) | exact (fun _ _ h => h.elim) | (intro k hl hk; (try simp only [At, New, Grow, From, No] at hk ⊢); omega) | (intro k hl hk; first | exact .inl hk | exact .inr (.inl hk) | exact .inr (.inr (.inr hk)) | exact .inr (.inr (.inl hk)) | (simp only [At] at hk; subst hk; exact hpF)))
                      replace hr := hr.upd hu53 (by first | exact (fun _ _ _ h => h) | (intro k hk hl e; exact hG k hk.1 hk.2 (by first | exact (hGF k hk.2 (by first | exact .inl e | exact .inr e)) | (simp only [At] at e; subst e; exact hpF))))
                      replace hb := hb.upd hu53 (by first | exact (fun h => h) | exact (fun h => (hfp _ (.inr h)).2.1 rfl) | exact hpg)
                      replace hsure := hsure.upd hu53 (by first | exact (fun _ _ _ h => h) | exact (fun k hk _ e => (hfp k (.inl hk)).2.2.1 e))
                      replace hnow := hnow.upd hu53 (by first | exact (fun _ _ _ h => h) | exact (fun k hk _ e => (hfp k (.inr hk)).2.2.1 e))
                      replace hsx := hsx.upd hu53 (by first | exact (fun _ _ _ h => h) | exact (fun k hk _ e => (hFX k hk).2.1 e))
                      replace hrow := (row_set (i := i) (t := ⟨svx, .slice An a.now.length cn, a.fresh, FS, FN⟩) (by rw [List.getElem?_set_self (by omega)])).2.1 _ (by omega) hrow
                      rw [List.set_set] at hrow
                      refine WL.val rfl rfl rfl rfl (r_nilCheck rfl (ev_t rfl)) ?_
                      first | refine WL.val rfl rfl rfl rfl (r_field0 rfl (ev_t rfl) fld_86_2) ?_ | refine WL.val rfl rfl rfl rfl (r_fieldAt rfl (ev_t rfl) fld_86_2) ?_
                      refine WL.cons (SO.store rfl (ev_t rfl) ev_c size_4 hrow (blt_of (by rw [trkC_size, List.length_set]; omega)) rfl rfl rfl rfl ?_)
                      intro w54 hu54 hrow hzs2
                      replace hnew2 := hnew2.upd hu54 (fun k hk _ e => by simp only [At, New] at hk e; have := h.row.lt; omega)
                      have hs54 := hu54.size
                      replace hU := hU.trans hu54 (by first | exact (fun _ _ h => h) | exact (fun _ _ h => h.elim) | (intro k hl hk; (try simp only [At, New, Grow, From, No] at hk ⊢); omega) | (intro k hl hk; first | exact .inl hk | exact .inr (.inl hk) | exact .inr (.inr (.inr hk)) | exact .inr (.inr (.inl hk)) | (simp only [At] at hk; subst hk; exact hpF)))
                      replace hr := hr.upd hu54 (by first | exact (fun _ _ _ h => h) | (intro k hk hl e; exact hG k hk.1 hk.2 (by first | exact (hGF k hk.2 (by first | exact .inl e | exact .inr e)) | (simp only [At] at e; subst e; exact hpF))))
                      replace hb := hb.upd hu54 (by first | exact (fun h => h) | exact (fun h => (hfp _ (.inr h)).2.1 rfl) | exact hpg)
                      replace hsure := hsure.upd hu54 (by first | exact (fun _ _ _ h => h) | exact (fun k hk _ e => (hfp k (.inl hk)).2.2.1 e))
                      replace hnow := hnow.upd hu54 (by first | exact (fun _ _ _ h => h) | exact (fun k hk _ e => (hfp k (.inr hk)).2.2.1 e))
                      replace hsx := hsx.upd hu54 (by first | exact (fun _ _ _ h => h) | exact (fun k hk _ e => (hFX k hk).2.1 e))
                      replace hrow := (row_set (i := i) (t := ⟨svx, v2, a.fresh, FS, FN⟩) (by rw [List.getElem?_set_self (by omega)])).2.2 _ (by omega) hrow
                      rw [List.set_set] at hrow
                      refine WL.nil ?_
                      refine WX.keep [(0, _), (1, _), (14, _), (15, _)] ⟨rfl, rfl, rfl, rfl, trivial⟩ ?_
                      have hnx := hnew2.lt
                      have hput : DrumAt w54 (Grow (Grow F w w') w' w54) p g (l.set i ⟨svx, v2, false, FX, fun k => wx.heap.size ≤ k ∧ k < w54.heap.size⟩) { D with l := partL D.l cuts (i + 1) } := by
                        refine h.put (a' := fallT a cut) (D' := { D with l := partL D.l cuts (i + 1) }) (t' := ⟨svx, v2, false, FX, fun k => wx.heap.size ≤ k ∧ k < w54.heap.size⟩) ht hU (by rw [show ({ D with l := partL D.l cuts i } : DS).l.length = D.l.length from partL_length _ _ _]; exact hb) (by rw [trkC_fp]; exact hrow) ⟨hsx, hnew2.mono (fun k hk => by simp only [New] at hk; omega), rfl⟩ (by rw [hcut]; exact (partL_step ha).symm) ⟨hdw.most, by rw [partL_length]; exact hD8, hdw.armed, fun u hu => ?_⟩ (fun k hk => ?_) (fun k hk hk' => ?_)
                        · obtain ⟨x, hx, h3⟩ := partL_mem hu
                          have h4 := hdw.trk x hx
                          rcases h3 with rfl | ⟨c, rfl⟩
                          · exact h4
                          · have h5 := fallS_len x c
                            simp only [fallT]
                            omega
                        · rcases hk with hk | hk
                          · have h3 := hFX k hk
                            refine ⟨?_, by omega⟩
                            rcases h3.1 with h4 | h4
                            · exact .inl h4
                            · exact .inr (.inr (by omega))
                          · exact ⟨.inr (.inr (by simp only at hk; omega)), hk.2⟩
                        · have h3 := hFX k hk
                          simp only at hk'
                          omega
                      refine WX.blockNormal ?_
                      refine WX.next ?_
                      refine WC.region ?_
                      first | refine WL.val rfl rfl rfl rfl (r_addN rfl (ev_t rfl) ev_c (by simp only [inK]; omega)) ?_ | refine WL.val rfl rfl rfl rfl (r_add rfl (ev_t rfl) ev_c) ?_
                      refine WL.val rfl rfl rfl rfl (r_move rfl (ev_t rfl)) ?_
                      refine WL.nil ?_
                      refine WX.keep [(0, _), (1, _), (14, _), (15, _)] ⟨rfl, rfl, rfl, rfl, trivial⟩ ?_
                      refine WX.meet [(0, _), (1, _), (14, _), (15, _)] ⟨rfl, rfl, rfl, rfl, trivial⟩ ?_
                      exact ⟨D.l.length - (i + 1), by omega, i + 1, by omega, rfl, hU0.trans hU hTF, ⟨g, _, hput.mono (fun k hk _ => Grow.trans hU0.size hU.size hk)⟩, hr, rfl⟩
                   · try (exfalso; first | (simp at hc12; done) | (simp only [decide_eq_true_eq, decide_eq_false_iff_not, Bool.not_eq_true', Bool.not_eq_false', Bool.not_eq_true, Bool.not_eq_false] at hc12; omega) | omega)
                     all_goals
                      try simp only [decide_eq_true_eq, decide_eq_false_iff_not, Bool.not_eq_true', Bool.not_eq_false', Bool.not_eq_true, Bool.not_eq_false, Option.isNone_none, Option.isNone_some, Option.isSome_none, Option.isSome_some, ne_eq, Decidable.not_not] at hc12
                      have hfs : fallS a cut = a.sure := by
                        unfold fallS
                        rw [if_neg (by rintro ⟨x1, x2⟩; first | omega | (rw [hb10_4] at x1; cases x1; done) | (rw [hb10_4] at hb12_5; cases hb12_5; done)), if_neg (by rintro ⟨x1, x2⟩; first | omega | (rw [hb10_4] at x1; cases x1; done) | (rw [hb10_4] at hb12_5; cases hb12_5; done))]
                      obtain ⟨svx, FX, hrow, hsx, hFX⟩ : ∃ svx FX, Blk w' g (trkC (l.set i ⟨svx, .slice An a.now.length cn, a.fresh, FS, FN⟩)).toArray 86 ∧ Own w' FX 5 1 svx (fallS a cut).length ((fallS a cut).map U8) ∧ (∀ k, FX k → (FS k ∨ w'.heap.size ≤ k) ∧ k ≠ g ∧ k < w'.heap.size) := ⟨.slice As a.sure.length cs, FS, by rw [set_same ht]; exact hrow, by rw [hfs]; exact hsure, fun k hk => ⟨.inl hk, (hfp k (.inl hk)).2.2.1, (hfp k (.inl hk)).2.2.2⟩⟩
                      refine WC.skip ?_
                      refine WX.blockNormal ?_
                      refine WX.next ?_
                      obtain ⟨wx, hwx⟩ : ∃ wx, wx = w' := ⟨_, rfl⟩
                      rw [← hwx] at hFX
                      have hfl := fallS_len a cut
                      have hsz2 : w'.heap.size ≤ wx.heap.size := by rw [hwx]; omega
                      refine WC.region ?_
                      refine WL.val rfl rfl rfl rfl (r_move rfl (ev_t rfl)) ?_
                      refine WL.val rfl rfl rfl rfl (r_move rfl (ev_t rfl)) ?_
                      refine WL.val rfl rfl rfl rfl (r_move rfl (ev_t rfl)) ?_
                      refine WL.val rfl rfl rfl rfl (r_nilCheck rfl (ev_t rfl)) ?_
                      first | refine WL.val rfl rfl rfl rfl (r_field0 rfl (ev_t rfl) fld_86_0) ?_ | refine WL.val rfl rfl rfl rfl (r_fieldAt rfl (ev_t rfl) fld_86_0) ?_
                      refine WL.val rfl rfl rfl rfl (r_load rfl (ev_t rfl) flat_22 ((row_get (i := i) (t := ⟨svx, .slice An a.now.length cn, a.fresh, FS, FN⟩) hrow (by rw [List.getElem?_set_self (by omega)])).1 (by omega))) ?_
                      refine WL.cons (SO.call (clone_ok (hsx.rd (by omega))) rfl body_42 ⟨(ev_t rfl), trivial⟩ rfl rfl rfl rfl ?_)
                      rintro v2 w55 ⟨hnew2, hu55⟩
                      have hx1 : wx.heap.size ≤ w55.heap.size := by rw [hwx]; exact hu55.size
                      rw [← hwx] at hnew2
                      have hs55 := hu55.size
                      replace hU := hU.trans hu55 (by first | exact (fun _ _ h => h) | exact (fun _ _ h => h.elim) | (intro k hl hk; (try simp only [At, New, Grow, From, No] at hk ⊢); omega) | (intro k hl hk; first | exact .inl hk | exact .inr (.inl hk) | exact .inr (.inr (.inr hk)) | exact .inr (.inr (.inl hk)) | (simp only [At] at hk; subst hk; exact hpF)))
                      replace hr := hr.upd hu55 (by first | exact (fun _ _ _ h => h) | (intro k hk hl e; exact hG k hk.1 hk.2 (by first | exact (hGF k hk.2 (by first | exact .inl e | exact .inr e)) | (simp only [At] at e; subst e; exact hpF))))
                      replace hb := hb.upd hu55 (by first | exact (fun h => h) | exact (fun h => (hfp _ (.inr h)).2.1 rfl) | exact hpg)
                      replace hrow := hrow.upd hu55 (by first | exact (fun h => h) | exact (fun e => hpg e.symm))
                      replace hsure := hsure.upd hu55 (by first | exact (fun _ _ _ h => h) | exact (fun k hk _ e => (hfp k (.inl hk)).2.2.1 e))
                      replace hnow := hnow.upd hu55 (by first | exact (fun _ _ _ h => h) | exact (fun k hk _ e => (hfp k (.inr hk)).2.2.1 e))
                      replace hsx := hsx.upd hu55 (by first | exact (fun _ _ _ h => h) | exact (fun k hk _ e => (hFX k hk).2.1 e))
                      refine WL.val rfl rfl rfl rfl (r_nilCheck rfl (ev_t rfl)) ?_
                      first | refine WL.val rfl rfl rfl rfl (r_field0 rfl (ev_t rfl) fld_86_1) ?_ | refine WL.val rfl rfl rfl rfl (r_fieldAt rfl (ev_t rfl) fld_86_1) ?_
                      refine WL.cons (SO.store rfl (ev_t rfl) (ev_t rfl) size_22 hrow (blt_of (by rw [trkC_size, List.length_set]; omega)) hnew2.one rfl rfl rfl ?_)
                      intro w56 hu56 hrow hzs
                      replace hnew2 := hnew2.upd hu56 (fun k hk _ e => by simp only [At, New] at hk e; have := h.row.lt; omega)
                      have hs56 := hu56.size
                      replace hU := hU.trans hu56 (by first | exact (fun _ _ h => h) | exact (fun _ _ h => h.elim) | (intro k hl hk; (try simp only [At, New, Grow, From, No] at hk ⊢); omega) | (intro k hl hk; first | exact .inl hk | exact .inr (.inl hk) | exact .inr (.inr (.inr hk)) | exact .inr (.inr (.inl hk)) | (simp only [At] at hk; subst hk; exact hpF)))
                      replace hr := hr.upd hu56 (by first | exact (fun _ _ _ h => h) | (intro k hk hl e; exact hG k hk.1 hk.2 (by first | exact (hGF k hk.2 (by first | exact .inl e | exact .inr e)) | (simp only [At] at e; subst e; exact hpF))))
                      replace hb := hb.upd hu56 (by first | exact (fun h => h) | exact (fun h => (hfp _ (.inr h)).2.1 rfl) | exact hpg)
                      replace hsure := hsure.upd hu56 (by first | exact (fun _ _ _ h => h) | exact (fun k hk _ e => (hfp k (.inl hk)).2.2.1 e))
                      replace hnow := hnow.upd hu56 (by first | exact (fun _ _ _ h => h) | exact (fun k hk _ e => (hfp k (.inr hk)).2.2.1 e))
                      replace hsx := hsx.upd hu56 (by first | exact (fun _ _ _ h => h) | exact (fun k hk _ e => (hFX k hk).2.1 e))
                      replace hrow := (row_set (i := i) (t := ⟨svx, .slice An a.now.length cn, a.fresh, FS, FN⟩) (by rw [List.getElem?_set_self (by omega)])).2.1 _ (by omega) hrow
                      rw [List.set_set] at hrow
                      refine WL.val rfl rfl rfl rfl (r_nilCheck rfl (ev_t rfl)) ?_
                      first | refine WL.val rfl rfl rfl rfl (r_field0 rfl (ev_t rfl) fld_86_2) ?_ | refine WL.val rfl rfl rfl rfl (r_fieldAt rfl (ev_t rfl) fld_86_2) ?_
                      refine WL.cons (SO.store rfl (ev_t rfl) ev_c size_4 hrow (blt_of (by rw [trkC_size, List.length_set]; omega)) rfl rfl rfl rfl ?_)
                      intro w57 hu57 hrow hzs2
                      replace hnew2 := hnew2.upd hu57 (fun k hk _ e => by simp only [At, New] at hk e; have := h.row.lt; omega)
                      have hs57 := hu57.size
                      replace hU := hU.trans hu57 (by first | exact (fun _ _ h => h) | exact (fun _ _ h => h.elim) | (intro k hl hk; (try simp only [At, New, Grow, From, No] at hk ⊢); omega) | (intro k hl hk; first | exact .inl hk | exact .inr (.inl hk) | exact .inr (.inr (.inr hk)) | exact .inr (.inr (.inl hk)) | (simp only [At] at hk; subst hk; exact hpF)))
                      replace hr := hr.upd hu57 (by first | exact (fun _ _ _ h => h) | (intro k hk hl e; exact hG k hk.1 hk.2 (by first | exact (hGF k hk.2 (by first | exact .inl e | exact .inr e)) | (simp only [At] at e; subst e; exact hpF))))
                      replace hb := hb.upd hu57 (by first | exact (fun h => h) | exact (fun h => (hfp _ (.inr h)).2.1 rfl) | exact hpg)
                      replace hsure := hsure.upd hu57 (by first | exact (fun _ _ _ h => h) | exact (fun k hk _ e => (hfp k (.inl hk)).2.2.1 e))
                      replace hnow := hnow.upd hu57 (by first | exact (fun _ _ _ h => h) | exact (fun k hk _ e => (hfp k (.inr hk)).2.2.1 e))
                      replace hsx := hsx.upd hu57 (by first | exact (fun _ _ _ h => h) | exact (fun k hk _ e => (hFX k hk).2.1 e))
                      replace hrow := (row_set (i := i) (t := ⟨svx, v2, a.fresh, FS, FN⟩) (by rw [List.getElem?_set_self (by omega)])).2.2 _ (by omega) hrow
                      rw [List.set_set] at hrow
                      refine WL.nil ?_
                      refine WX.keep [(0, _), (1, _), (14, _), (15, _)] ⟨rfl, rfl, rfl, rfl, trivial⟩ ?_
                      have hnx := hnew2.lt
                      have hput : DrumAt w57 (Grow (Grow F w w') w' w57) p g (l.set i ⟨svx, v2, false, FX, fun k => wx.heap.size ≤ k ∧ k < w57.heap.size⟩) { D with l := partL D.l cuts (i + 1) } := by
                        refine h.put (a' := fallT a cut) (D' := { D with l := partL D.l cuts (i + 1) }) (t' := ⟨svx, v2, false, FX, fun k => wx.heap.size ≤ k ∧ k < w57.heap.size⟩) ht hU (by rw [show ({ D with l := partL D.l cuts i } : DS).l.length = D.l.length from partL_length _ _ _]; exact hb) (by rw [trkC_fp]; exact hrow) ⟨hsx, hnew2.mono (fun k hk => by simp only [New] at hk; omega), rfl⟩ (by rw [hcut]; exact (partL_step ha).symm) ⟨hdw.most, by rw [partL_length]; exact hD8, hdw.armed, fun u hu => ?_⟩ (fun k hk => ?_) (fun k hk hk' => ?_)
                        · obtain ⟨x, hx, h3⟩ := partL_mem hu
                          have h4 := hdw.trk x hx
                          rcases h3 with rfl | ⟨c, rfl⟩
                          · exact h4
                          · have h5 := fallS_len x c
                            simp only [fallT]
                            omega
                        · rcases hk with hk | hk
                          · have h3 := hFX k hk
                            refine ⟨?_, by omega⟩
                            rcases h3.1 with h4 | h4
                            · exact .inl h4
                            · exact .inr (.inr (by omega))
                          · exact ⟨.inr (.inr (by simp only at hk; omega)), hk.2⟩
                        · have h3 := hFX k hk
                          simp only at hk'
                          omega
                      refine WX.blockNormal ?_
                      refine WX.next ?_
                      refine WC.region ?_
                      first | refine WL.val rfl rfl rfl rfl (r_addN rfl (ev_t rfl) ev_c (by simp only [inK]; omega)) ?_ | refine WL.val rfl rfl rfl rfl (r_add rfl (ev_t rfl) ev_c) ?_
                      refine WL.val rfl rfl rfl rfl (r_move rfl (ev_t rfl)) ?_
                      refine WL.nil ?_
                      refine WX.keep [(0, _), (1, _), (14, _), (15, _)] ⟨rfl, rfl, rfl, rfl, trivial⟩ ?_
                      refine WX.meet [(0, _), (1, _), (14, _), (15, _)] ⟨rfl, rfl, rfl, rfl, trivial⟩ ?_
                      exact ⟨D.l.length - (i + 1), by omega, i + 1, by omega, rfl, hU0.trans hU hTF, ⟨g, _, hput.mono (fun k hk _ => Grow.trans hU0.size hU.size hk)⟩, hr, rfl⟩
                · try (exfalso; first | (simp at hb12_5; done) | (simp only [decide_eq_true_eq, decide_eq_false_iff_not, Bool.not_eq_true', Bool.not_eq_false', Bool.not_eq_true, Bool.not_eq_false] at hb12_5; omega) | omega)
                  all_goals
                   try simp only [decide_eq_true_eq, decide_eq_false_iff_not, Bool.not_eq_true', Bool.not_eq_false', Bool.not_eq_true, Bool.not_eq_false, Option.isNone_none, Option.isNone_some, Option.isSome_none, Option.isSome_some, ne_eq, Decidable.not_not] at hb12_5
                   refine WL.skip rfl rfl rfl ?_
                   refine WL.skip rfl rfl rfl ?_
                   refine WL.val rfl rfl rfl rfl (r_pickF rfl (ev_t rfl) ev_c) ?_
                   refine WL.val rfl rfl rfl rfl (r_assign rfl (ev_t rfl)) ?_
                   refine WL.nil ?_
                   refine WX.keep [(0, _), (1, _), (6, _), (7, _), (14, _), (15, _), (57, _)] ⟨rfl, rfl, rfl, rfl, rfl, rfl, rfl, trivial⟩ ?_
                   refine WX.next ?_
                   refine WC.cond_false rfl (ev_t rfl) ?_
                   have hfs : fallS a cut = a.sure := by
                     unfold fallS
                     rw [if_neg (by rintro ⟨x1, x2⟩; first | omega | (rw [hb10_4] at x1; cases x1; done) | (rw [hb10_4] at hb12_5; cases hb12_5; done)), if_neg (by rintro ⟨x1, x2⟩; first | omega | (rw [hb10_4] at x1; cases x1; done) | (rw [hb10_4] at hb12_5; cases hb12_5; done))]
                   obtain ⟨svx, FX, hrow, hsx, hFX⟩ : ∃ svx FX, Blk w' g (trkC (l.set i ⟨svx, .slice An a.now.length cn, a.fresh, FS, FN⟩)).toArray 86 ∧ Own w' FX 5 1 svx (fallS a cut).length ((fallS a cut).map U8) ∧ (∀ k, FX k → (FS k ∨ w'.heap.size ≤ k) ∧ k ≠ g ∧ k < w'.heap.size) := ⟨.slice As a.sure.length cs, FS, by rw [set_same ht]; exact hrow, by rw [hfs]; exact hsure, fun k hk => ⟨.inl hk, (hfp k (.inl hk)).2.2.1, (hfp k (.inl hk)).2.2.2⟩⟩
                   refine WC.skip ?_
                   refine WX.blockNormal ?_
                   refine WX.next ?_
                   obtain ⟨wx, hwx⟩ : ∃ wx, wx = w' := ⟨_, rfl⟩
                   rw [← hwx] at hFX
                   have hfl := fallS_len a cut
                   have hsz2 : w'.heap.size ≤ wx.heap.size := by rw [hwx]; omega
                   refine WC.region ?_
                   refine WL.val rfl rfl rfl rfl (r_move rfl (ev_t rfl)) ?_
                   refine WL.val rfl rfl rfl rfl (r_move rfl (ev_t rfl)) ?_
                   refine WL.val rfl rfl rfl rfl (r_move rfl (ev_t rfl)) ?_
                   refine WL.val rfl rfl rfl rfl (r_nilCheck rfl (ev_t rfl)) ?_
                   first | refine WL.val rfl rfl rfl rfl (r_field0 rfl (ev_t rfl) fld_86_0) ?_ | refine WL.val rfl rfl rfl rfl (r_fieldAt rfl (ev_t rfl) fld_86_0) ?_
                   refine WL.val rfl rfl rfl rfl (r_load rfl (ev_t rfl) flat_22 ((row_get (i := i) (t := ⟨svx, .slice An a.now.length cn, a.fresh, FS, FN⟩) hrow (by rw [List.getElem?_set_self (by omega)])).1 (by omega))) ?_
                   refine WL.cons (SO.call (clone_ok (hsx.rd (by omega))) rfl body_42 ⟨(ev_t rfl), trivial⟩ rfl rfl rfl rfl ?_)
                   rintro v2 w58 ⟨hnew2, hu58⟩
                   have hx1 : wx.heap.size ≤ w58.heap.size := by rw [hwx]; exact hu58.size
                   rw [← hwx] at hnew2
                   have hs58 := hu58.size
                   replace hU := hU.trans hu58 (by first | exact (fun _ _ h => h) | exact (fun _ _ h => h.elim) | (intro k hl hk; (try simp only [At, New, Grow, From, No] at hk ⊢); omega) | (intro k hl hk; first | exact .inl hk | exact .inr (.inl hk) | exact .inr (.inr (.inr hk)) | exact .inr (.inr (.inl hk)) | (simp only [At] at hk; subst hk; exact hpF)))
                   replace hr := hr.upd hu58 (by first | exact (fun _ _ _ h => h) | (intro k hk hl e; exact hG k hk.1 hk.2 (by first | exact (hGF k hk.2 (by first | exact .inl e | exact .inr e)) | (simp only [At] at e; subst e; exact hpF))))
                   replace hb := hb.upd hu58 (by first | exact (fun h => h) | exact (fun h => (hfp _ (.inr h)).2.1 rfl) | exact hpg)
                   replace hrow := hrow.upd hu58 (by first | exact (fun h => h) | exact (fun e => hpg e.symm))
                   replace hsure := hsure.upd hu58 (by first | exact (fun _ _ _ h => h) | exact (fun k hk _ e => (hfp k (.inl hk)).2.2.1 e))
                   replace hnow := hnow.upd hu58 (by first | exact (fun _ _ _ h => h) | exact (fun k hk _ e => (hfp k (.inr hk)).2.2.1 e))
                   replace hsx := hsx.upd hu58 (by first | exact (fun _ _ _ h => h) | exact (fun k hk _ e => (hFX k hk).2.1 e))
                   refine WL.val rfl rfl rfl rfl (r_nilCheck rfl (ev_t rfl)) ?_
                   first | refine WL.val rfl rfl rfl rfl (r_field0 rfl (ev_t rfl) fld_86_1) ?_ | refine WL.val rfl rfl rfl rfl (r_fieldAt rfl (ev_t rfl) fld_86_1) ?_
                   refine WL.cons (SO.store rfl (ev_t rfl) (ev_t rfl) size_22 hrow (blt_of (by rw [trkC_size, List.length_set]; omega)) hnew2.one rfl rfl rfl ?_)
                   intro w59 hu59 hrow hzs
                   replace hnew2 := hnew2.upd hu59 (fun k hk _ e => by simp only [At, New] at hk e; have := h.row.lt; omega)
                   have hs59 := hu59.size
                   replace hU := hU.trans hu59 (by first | exact (fun _ _ h => h) | exact (fun _ _ h => h.elim) | (intro k hl hk; (try simp only [At, New, Grow, From, No] at hk ⊢); omega) | (intro k hl hk; first | exact .inl hk | exact .inr (.inl hk) | exact .inr (.inr (.inr hk)) | exact .inr (.inr (.inl hk)) | (simp only [At] at hk; subst hk; exact hpF)))
                   replace hr := hr.upd hu59 (by first | exact (fun _ _ _ h => h) | (intro k hk hl e; exact hG k hk.1 hk.2 (by first | exact (hGF k hk.2 (by first | exact .inl e | exact .inr e)) | (simp only [At] at e; subst e; exact hpF))))
                   replace hb := hb.upd hu59 (by first | exact (fun h => h) | exact (fun h => (hfp _ (.inr h)).2.1 rfl) | exact hpg)
                   replace hsure := hsure.upd hu59 (by first | exact (fun _ _ _ h => h) | exact (fun k hk _ e => (hfp k (.inl hk)).2.2.1 e))
                   replace hnow := hnow.upd hu59 (by first | exact (fun _ _ _ h => h) | exact (fun k hk _ e => (hfp k (.inr hk)).2.2.1 e))
                   replace hsx := hsx.upd hu59 (by first | exact (fun _ _ _ h => h) | exact (fun k hk _ e => (hFX k hk).2.1 e))
                   replace hrow := (row_set (i := i) (t := ⟨svx, .slice An a.now.length cn, a.fresh, FS, FN⟩) (by rw [List.getElem?_set_self (by omega)])).2.1 _ (by omega) hrow
                   rw [List.set_set] at hrow
                   refine WL.val rfl rfl rfl rfl (r_nilCheck rfl (ev_t rfl)) ?_
                   first | refine WL.val rfl rfl rfl rfl (r_field0 rfl (ev_t rfl) fld_86_2) ?_ | refine WL.val rfl rfl rfl rfl (r_fieldAt rfl (ev_t rfl) fld_86_2) ?_
                   refine WL.cons (SO.store rfl (ev_t rfl) ev_c size_4 hrow (blt_of (by rw [trkC_size, List.length_set]; omega)) rfl rfl rfl rfl ?_)
                   intro w60 hu60 hrow hzs2
                   replace hnew2 := hnew2.upd hu60 (fun k hk _ e => by simp only [At, New] at hk e; have := h.row.lt; omega)
                   have hs60 := hu60.size
                   replace hU := hU.trans hu60 (by first | exact (fun _ _ h => h) | exact (fun _ _ h => h.elim) | (intro k hl hk; (try simp only [At, New, Grow, From, No] at hk ⊢); omega) | (intro k hl hk; first | exact .inl hk | exact .inr (.inl hk) | exact .inr (.inr (.inr hk)) | exact .inr (.inr (.inl hk)) | (simp only [At] at hk; subst hk; exact hpF)))
                   replace hr := hr.upd hu60 (by first | exact (fun _ _ _ h => h) | (intro k hk hl e; exact hG k hk.1 hk.2 (by first | exact (hGF k hk.2 (by first | exact .inl e | exact .inr e)) | (simp only [At] at e; subst e; exact hpF))))
                   replace hb := hb.upd hu60 (by first | exact (fun h => h) | exact (fun h => (hfp _ (.inr h)).2.1 rfl) | exact hpg)
                   replace hsure := hsure.upd hu60 (by first | exact (fun _ _ _ h => h) | exact (fun k hk _ e => (hfp k (.inl hk)).2.2.1 e))
                   replace hnow := hnow.upd hu60 (by first | exact (fun _ _ _ h => h) | exact (fun k hk _ e => (hfp k (.inr hk)).2.2.1 e))
                   replace hsx := hsx.upd hu60 (by first | exact (fun _ _ _ h => h) | exact (fun k hk _ e => (hFX k hk).2.1 e))
                   replace hrow := (row_set (i := i) (t := ⟨svx, v2, a.fresh, FS, FN⟩) (by rw [List.getElem?_set_self (by omega)])).2.2 _ (by omega) hrow
                   rw [List.set_set] at hrow
                   refine WL.nil ?_
                   refine WX.keep [(0, _), (1, _), (14, _), (15, _)] ⟨rfl, rfl, rfl, rfl, trivial⟩ ?_
                   have hnx := hnew2.lt
                   have hput : DrumAt w60 (Grow (Grow F w w') w' w60) p g (l.set i ⟨svx, v2, false, FX, fun k => wx.heap.size ≤ k ∧ k < w60.heap.size⟩) { D with l := partL D.l cuts (i + 1) } := by
                     refine h.put (a' := fallT a cut) (D' := { D with l := partL D.l cuts (i + 1) }) (t' := ⟨svx, v2, false, FX, fun k => wx.heap.size ≤ k ∧ k < w60.heap.size⟩) ht hU (by rw [show ({ D with l := partL D.l cuts i } : DS).l.length = D.l.length from partL_length _ _ _]; exact hb) (by rw [trkC_fp]; exact hrow) ⟨hsx, hnew2.mono (fun k hk => by simp only [New] at hk; omega), rfl⟩ (by rw [hcut]; exact (partL_step ha).symm) ⟨hdw.most, by rw [partL_length]; exact hD8, hdw.armed, fun u hu => ?_⟩ (fun k hk => ?_) (fun k hk hk' => ?_)
                     · obtain ⟨x, hx, h3⟩ := partL_mem hu
                       have h4 := hdw.trk x hx
                       rcases h3 with rfl | ⟨c, rfl⟩
                       · exact h4
                       · have h5 := fallS_len x c
                         simp only [fallT]
                         omega
                     · rcases hk with hk | hk
                       · have h3 := hFX k hk
                         refine ⟨?_, by omega⟩
                         rcases h3.1 with h4 | h4
                         · exact .inl h4
                         · exact .inr (.inr (by omega))
                       · exact ⟨.inr (.inr (by simp only at hk; omega)), hk.2⟩
                     · have h3 := hFX k hk
                       simp only at hk'
                       omega
                   refine WX.blockNormal ?_
                   refine WX.next ?_
                   refine WC.region ?_
                   first | refine WL.val rfl rfl rfl rfl (r_addN rfl (ev_t rfl) ev_c (by simp only [inK]; omega)) ?_ | refine WL.val rfl rfl rfl rfl (r_add rfl (ev_t rfl) ev_c) ?_
                   refine WL.val rfl rfl rfl rfl (r_move rfl (ev_t rfl)) ?_
                   refine WL.nil ?_
                   refine WX.keep [(0, _), (1, _), (14, _), (15, _)] ⟨rfl, rfl, rfl, rfl, trivial⟩ ?_
                   refine WX.meet [(0, _), (1, _), (14, _), (15, _)] ⟨rfl, rfl, rfl, rfl, trivial⟩ ?_
                   exact ⟨D.l.length - (i + 1), by omega, i + 1, by omega, rfl, hU0.trans hU hTF, ⟨g, _, hput.mono (fun k hk _ => Grow.trans hU0.size hU.size hk)⟩, hr, rfl⟩
       · try (exfalso; first | (simp at hc4; done) | (simp only [decide_eq_true_eq, decide_eq_false_iff_not, Bool.not_eq_true', Bool.not_eq_false', Bool.not_eq_true, Bool.not_eq_false] at hc4; omega) | omega)
         all_goals
          try simp only [decide_eq_true_eq, decide_eq_false_iff_not, Bool.not_eq_true', Bool.not_eq_false', Bool.not_eq_true, Bool.not_eq_false, Option.isNone_none, Option.isNone_some, Option.isSome_none, Option.isSome_some, ne_eq, Decidable.not_not] at hc4
          obtain rfl : i = D.l.length := by omega
          rw [partL_all] at h hb
          have hU0 := hU
          replace hU := Upd.refl (At p) w'
          refine WC.exit ?_
          refine WX.thenExit ?_
          refine WX.thenExit ?_
          refine WX.blockHere ?_
          refine WX.next ?_
          refine WC.seq ?_
          refine WC.region ?_
          refine WL.val rfl rfl rfl rfl (r_move rfl (ev_t rfl)) ?_
          refine WL.val rfl rfl rfl rfl (r_move rfl (ev_t rfl)) ?_
          refine WL.val rfl rfl rfl rfl (r_nilCheck rfl (ev_t rfl)) ?_
          first | refine WL.val rfl rfl rfl rfl (r_field0 rfl (ev_t rfl) fld_83_4) ?_ | refine WL.val rfl rfl rfl rfl (r_fieldAt rfl (ev_t rfl) fld_83_4) ?_
          refine WL.cons (SO.store rfl (ev_t rfl) ev_c size_4 hb rfl rfl rfl rfl rfl ?_)
          intro w61 hu61 hb hz61
          have hs61 := hu61.size
          replace hU := hU.trans hu61 (by first | exact (fun _ _ h => h) | exact (fun _ _ h => h.elim) | (intro k hl hk; (try simp only [At, New, Grow, From, No] at hk ⊢); omega) | (intro k hl hk; first | exact .inl hk | exact .inr (.inl hk) | exact .inr (.inr (.inr hk)) | exact .inr (.inr (.inl hk)) | (simp only [At] at hk; subst hk; exact hpF)))
          replace hr := hr.upd hu61 (by first | exact (fun _ _ _ h => h) | (intro k hk hl e; exact hG k hk.1 hk.2 (by first | exact (hGF k hk.2 (by first | exact .inl e | exact .inr e)) | (simp only [At] at e; subst e; exact hpF))))
          replace hrow := hrow.upd hu61 (by first | exact (fun h => h) | exact (fun e => hpg e.symm))
          refine WL.val rfl rfl rfl rfl (r_nilCheck rfl (ev_t rfl)) ?_
          first | refine WL.val rfl rfl rfl rfl (r_field0 rfl (ev_t rfl) fld_83_3) ?_ | refine WL.val rfl rfl rfl rfl (r_fieldAt rfl (ev_t rfl) fld_83_3) ?_
          refine WL.cons (SO.store rfl (ev_t rfl) ev_c size_3 hb rfl rfl rfl rfl rfl ?_)
          intro w62 hu62 hb hz62
          have hs62 := hu62.size
          replace hU := hU.trans hu62 (by first | exact (fun _ _ h => h) | exact (fun _ _ h => h.elim) | (intro k hl hk; (try simp only [At, New, Grow, From, No] at hk ⊢); omega) | (intro k hl hk; first | exact .inl hk | exact .inr (.inl hk) | exact .inr (.inr (.inr hk)) | exact .inr (.inr (.inl hk)) | (simp only [At] at hk; subst hk; exact hpF)))
          replace hr := hr.upd hu62 (by first | exact (fun _ _ _ h => h) | (intro k hk hl e; exact hG k hk.1 hk.2 (by first | exact (hGF k hk.2 (by first | exact .inl e | exact .inr e)) | (simp only [At] at e; subst e; exact hpF))))
          replace hrow := hrow.upd hu62 (by first | exact (fun h => h) | exact (fun e => hpg e.symm))
          refine WL.nil ?_
          refine WX.keep [] trivial ?_
          refine WX.next ?_
          refine WC.seq ?_
          refine WC.region ?_
          refine WL.val rfl rfl rfl rfl (r_assign rfl ev_c) ?_
          refine WL.nil ?_
          refine WX.keep [(4, _)] ⟨rfl, trivial⟩ ?_
          refine WX.next ?_
          refine WC.ret ?_
          refine WX.retE1 rfl rfl ?_
          exact ⟨rfl, ⟨g, l, (h.head (D' := D.restart cuts) hU (by rw [show ({ D with l := fallL D.l cuts } : DS).l.length = D.l.length by simp [fallL]]; exact hb) rfl ⟨hdw.most, h.wf.len, by simp [DS.restart, inK], h.wf.trk⟩).mono (fun k hk _ => Grow.le hU.size hk)⟩, hU0.trans hU (fun k _ hk => by simp only [At] at hk; subst hk; exact hpF)⟩
end Go.Proofs.Ytejlmcdmoghmaaa
