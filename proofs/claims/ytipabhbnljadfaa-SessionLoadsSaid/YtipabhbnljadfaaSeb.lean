/-
  session.Table: find, Len, Ask.
-/
import Derived.Test.YtipabhbnljadfaaSea
namespace Go.Proofs.Ytipabhbnljadfaa
open Go
set_option linter.unusedSimpArgs false
set_option linter.unusedVariables false

/-- a table, in blocks of R -/
def IsT (w : World) (R : Nat → Prop) (t : Nat) (L : List Ls) : Prop := ∃ (A : Option Addr) (c : Nat) (V : List LsV) (G H : Nat → Prop), Blk w t #[.slice A V.length c] 55 ∧
  Own w G 58 3 (.slice A V.length c) V.length (V.flatMap LsV.cells) ∧ (∀ r ∈ V, Rd w H r.v r.x.data.length 1 (r.x.data.map U8)) ∧ lsOf V = L ∧ R t ∧ t < w.heap.size ∧
  (∀ k, G k → R k ∧ k ≠ t ∧ k < w.heap.size) ∧ ∀ k, H k → R k ∧ k ≠ t ∧ ¬ G k ∧ k < w.heap.size
theorem IsT.upd {w w' : World} {R S : Nat → Prop} {t : Nat} {L : List Ls} (h : IsT w R t L) (hu : Upd S w w') (hn : ∀ k, R k → k < w.heap.size → ¬ S k) : IsT w' R t L := by
  obtain ⟨A, c, V, G, H, h1, h2, h3, h4, h5, h6, h7, h8⟩ := h
  refine ⟨A, c, V, G, H, h1.upd hu (hn t h5 h6), h2.upd hu (fun k hk hl => hn k (h7 k hk).1 hl), fun r hr => (h3 r hr).upd hu (fun k hk hl => hn k (h8 k hk).1 hl), h4, h5, Nat.lt_of_lt_of_le h6 hu.size, fun k hk => ?_, fun k hk => ?_⟩
  · have := h7 k hk
    exact ⟨this.1, this.2.1, Nat.lt_of_lt_of_le this.2.2 hu.size⟩
  · have := h8 k hk
    exact ⟨this.1, this.2.1, this.2.2.1, Nat.lt_of_lt_of_le this.2.2.2 hu.size⟩
theorem IsT.mono {w : World} {R R' : Nat → Prop} {t : Nat} {L : List Ls} (h : IsT w R t L) (hR : ∀ k, R k → k < w.heap.size → R' k) : IsT w R' t L := by
  obtain ⟨A, c, V, G, H, h1, h2, h3, h4, h5, h6, h7, h8⟩ := h
  exact ⟨A, c, V, G, H, h1, h2, h3, h4, hR t h5 h6, h6, fun k hk => ⟨hR k (h7 k hk).1 (h7 k hk).2.2, (h7 k hk).2⟩, fun k hk => ⟨hR k (h8 k hk).1 (h8 k hk).2.2.2, (h8 k hk).2⟩⟩
theorem find_ok {w : World} {R : Nat → Prop} {t : Nat} {L : List Ls} {id : Nat} (hT : IsT w R t L) (hL : TOK L) (hid : id < 18446744073709551616) :
    Ret Try.prog 21 #[.pointer (some ⟨t, 0, none⟩), .int .u64 (id : Int)] w fun u w' => u = .tuple #[.int .i64 (lbI L id : Int), .bool (isAt L id)] ∧ Upd No w w' := by
  obtain ⟨A, c, V, G, H, hB, hO, hD, rfl, hRt, htl, hG, hH⟩ := hT
  have hm := hL.most
  simp only [lsOf, List.length_map] at hm
  have hr := hO.rd (by omega)
  refine enterRet (vs := [_, _]) (N := 14) Try.func21 rfl rfl rfl ?_
  have hU := Upd.refl No w
  refine WC.keep [(0, _), (1, _)] ⟨rfl, rfl, trivial⟩ ?_
  refine WC.seq ?_
  refine WC.region ?_
  refine WL.val rfl rfl rfl rfl (r_assign rfl ev_c) ?_
  refine WL.val rfl rfl rfl rfl (r_assign rfl ev_c) ?_
  refine WL.nil ?_
  refine WX.keep [(0, _), (1, _)] ⟨rfl, rfl, trivial⟩ ?_
  refine WX.next ?_
  refine WC.seq ?_
  refine WC.region ?_
  refine WL.val rfl rfl rfl rfl (r_move rfl (ev_t rfl)) ?_
  refine WL.val rfl rfl rfl rfl (r_nilCheck rfl (ev_t rfl)) ?_
  first | refine WL.val rfl rfl rfl rfl (r_field0 rfl (ev_t rfl) fld_55_0) ?_ | refine WL.val rfl rfl rfl rfl (r_fieldAt rfl (ev_t rfl) fld_55_0) ?_
  refine WL.val rfl rfl rfl rfl (r_load rfl (ev_t rfl) flat_53 (Blk.cell hB rfl)) ?_
  refine WL.val rfl rfl rfl rfl (r_move rfl (ev_t rfl)) ?_
  refine WL.cons (SO.call (bsf_ok hr rfl hid hL.rise (fun r hr => (hL.ok r.x (List.mem_map.2 ⟨r, hr, rfl⟩)).2.1)) rfl body_38 ⟨(ev_t rfl), (ev_t rfl), ev_f, trivial⟩ rfl rfl rfl rfl ?_)
  rintro v w1 ⟨rfl, hu1⟩
  have hs1 := hu1.size
  replace hU := hU.transA hu1
  refine WL.val rfl rfl rfl rfl (r_extract rfl (ev_t rfl) rfl) ?_
  refine WL.val rfl rfl rfl rfl (r_extract rfl (ev_t rfl) rfl) ?_
  refine WL.val rfl rfl rfl rfl (r_assign rfl (ev_t rfl)) ?_
  refine WL.val rfl rfl rfl rfl (r_assign rfl (ev_t rfl)) ?_
  refine WL.nil ?_
  refine WX.keep [(4, _), (5, _)] ⟨rfl, rfl, trivial⟩ ?_
  refine WX.next ?_
  refine WC.ret ?_
  refine WX.retE2 rfl rfl rfl ?_
  exact ⟨rfl, hU⟩
theorem Len_ok {w : World} {R : Nat → Prop} {t : Nat} {L : List Ls} (hT : IsT w R t L) :
    Ret Try.prog 13 #[.pointer (some ⟨t, 0, none⟩)] w fun u w' => u = .int .i64 (L.length : Int) ∧ Upd No w w' := by
  obtain ⟨A, c, V, G, H, hB, hO, hD, rfl, hRt, htl, hG, hH⟩ := hT
  refine enterRet (vs := [_]) (N := 10) Try.func13 rfl rfl rfl ?_
  have hU := Upd.refl No w
  refine WC.keep [(0, _)] ⟨rfl, trivial⟩ ?_
  refine WC.seq ?_
  refine WC.region ?_
  refine WL.val rfl rfl rfl rfl (r_assign rfl ev_c) ?_
  refine WL.nil ?_
  refine WX.keep [(0, _)] ⟨rfl, trivial⟩ ?_
  refine WX.next ?_
  refine WC.seq ?_
  refine WC.seq ?_
  refine WC.region ?_
  refine WL.val rfl rfl rfl rfl (r_move rfl (ev_t rfl)) ?_
  refine WL.val rfl rfl rfl rfl (r_eqlPtrNil rfl (ev_t rfl) ev_c ptr_25) ?_
  refine WL.nil ?_
  refine WX.keep [(0, _), (4, _)] ⟨rfl, rfl, trivial⟩ ?_
  refine WX.next ?_
  refine WC.cond rfl (ev_t rfl) (fun hc1 => ?_) (fun hc1 => ?_)
  · try (exfalso; first | (simp at hc1; done) | (simp only [decide_eq_true_eq, decide_eq_false_iff_not, Bool.not_eq_true', Bool.not_eq_false', Bool.not_eq_true, Bool.not_eq_false] at hc1; omega) | omega)
    all_goals
     try simp only [decide_eq_true_eq, decide_eq_false_iff_not, Bool.not_eq_true', Bool.not_eq_false', Bool.not_eq_true, Bool.not_eq_false, Option.isNone_none, Option.isNone_some, Option.isSome_none, Option.isSome_some, ne_eq, Decidable.not_not] at hc1
     refine WC.seq ?_
     refine WC.region ?_
     refine WL.val rfl rfl rfl rfl (r_assign rfl ev_c) ?_
     refine WL.nil ?_
     refine WX.keep [(2, _)] ⟨rfl, trivial⟩ ?_
     refine WX.next ?_
     refine WC.ret ?_
     refine WX.thenRet ?_
     refine WX.retE1 rfl rfl ?_
     exact ⟨by rw [List.length_map], hU⟩
  · try (exfalso; first | (simp at hc1; done) | (simp only [decide_eq_true_eq, decide_eq_false_iff_not, Bool.not_eq_true', Bool.not_eq_false', Bool.not_eq_true, Bool.not_eq_false] at hc1; omega) | omega)
    all_goals
     try simp only [decide_eq_true_eq, decide_eq_false_iff_not, Bool.not_eq_true', Bool.not_eq_false', Bool.not_eq_true, Bool.not_eq_false, Option.isNone_none, Option.isNone_some, Option.isSome_none, Option.isSome_some, ne_eq, Decidable.not_not] at hc1
     refine WC.skip ?_
     refine WX.next ?_
     refine WC.seq ?_
     refine WC.region ?_
     refine WL.val rfl rfl rfl rfl (r_move rfl (ev_t rfl)) ?_
     refine WL.val rfl rfl rfl rfl (r_nilCheck rfl (ev_t rfl)) ?_
     first | refine WL.val rfl rfl rfl rfl (r_field0 rfl (ev_t rfl) fld_55_0) ?_ | refine WL.val rfl rfl rfl rfl (r_fieldAt rfl (ev_t rfl) fld_55_0) ?_
     refine WL.val rfl rfl rfl rfl (r_load rfl (ev_t rfl) flat_53 (Blk.cell hB rfl)) ?_
     refine WL.val rfl rfl rfl rfl (r_lenSlice (ts := #[]) rfl (ev_t rfl) elem_53) ?_
     refine WL.val rfl rfl rfl rfl (r_assign rfl (ev_t rfl)) ?_
     refine WL.nil ?_
     refine WX.keep [(2, _)] ⟨rfl, trivial⟩ ?_
     refine WX.next ?_
     refine WC.ret ?_
     refine WX.retE1 rfl rfl ?_
     exact ⟨by rw [List.length_map], hU⟩
set_option maxHeartbeats 1000000 in
theorem Ask_ok {w : World} {R : Nat → Prop} {t : Nat} {L : List Ls} {id num : Nat} (hT : IsT w R t L) (hL : TOK L) (hid : id < 18446744073709551616) (hnum : num < 18446744073709551616) :
    Ret Try.prog 12 #[.pointer (some ⟨t, 0, none⟩), .int .u64 (id : Int), .int .u64 (num : Int)] w fun u w' => ∃ v, u = .tuple #[v, .int .i64 ((askS L id num).2 : Int)] ∧ Own w' (New w w') 5 1 v (askS L id num).1.length ((askS L id num).1.map U8) ∧ Upd No w w' := by
  have hT' := hT
  obtain ⟨A, c, V, G, H, hB, hO, hD, rfl, hRt, htl, hG, hH⟩ := hT'
  have hm := hL.most
  simp only [lsOf, List.length_map] at hm
  have hr := hO.rd (by omega)
  obtain ⟨i, hi⟩ : ∃ i, lbI (lsOf V) id = i := ⟨_, rfl⟩
  have hat : isAt (lsOf V) id = true → ∃ r, V[i]? = some r ∧ r.x.id = id := fun h => by
    unfold isAt at h
    rw [hi, List.getElem?_map] at h
    cases hg : V[i]? with
    | none => rw [hg] at h; cases h
    | some r => rw [hg] at h; exact ⟨r, rfl, by simpa using h⟩
  have hask : ¬ (id = 0 ∨ num = 0) → ∀ r, isAt (lsOf V) id = true → V[i]? = some r → askS (lsOf V) id num = if r.x.num < num then ([], 6) else if num < r.x.num then ([], 16) else (r.x.data, 0) := fun h0 r h1 h2 => by
    unfold askS
    rw [if_neg h0, if_pos h1, hi, List.getElem?_map, h2]
    rfl
  have hno : ¬ (id = 0 ∨ num = 0) → ¬ isAt (lsOf V) id = true → askS (lsOf V) id num = if 64 ≤ V.length then ([], 2) else ([], 6) := fun h0 h1 => by
    unfold askS
    rw [if_neg h0, if_neg h1, List.length_map]
  refine enterRet (vs := [_, _, _]) (N := 72) Try.func12 rfl rfl rfl ?_
  have hU := Upd.refl No w
  refine WC.keep [(0, _), (1, _), (2, _)] ⟨rfl, rfl, rfl, trivial⟩ ?_
  refine WC.seq ?_
  refine WC.region ?_
  refine WL.val rfl rfl rfl rfl (r_assign rfl ev_c) ?_
  refine WL.val rfl rfl rfl rfl (r_assign rfl ev_c) ?_
  refine WL.nil ?_
  refine WX.keep [(0, _), (1, _), (2, _)] ⟨rfl, rfl, rfl, trivial⟩ ?_
  refine WX.next ?_
  refine WC.seq ?_
  refine WC.block ?_
  refine WC.seq ?_
  refine WC.region ?_
  refine WL.val rfl rfl rfl rfl (r_move rfl (ev_t rfl)) ?_
  refine WL.val rfl rfl rfl rfl (r_eqlPtrNil rfl (ev_t rfl) ev_c ptr_25) ?_
  refine WL.val rfl rfl rfl rfl (r_assign rfl (ev_t rfl)) ?_
  refine WL.nil ?_
  refine WX.keep [(0, _), (1, _), (2, _), (10, _)] ⟨rfl, rfl, rfl, rfl, trivial⟩ ?_
  refine WX.next ?_
  refine WC.cond rfl (ev_t rfl) (fun hc1 => ?_) (fun hc1 => ?_)
  · try (exfalso; first | (simp at hc1; done) | (simp only [decide_eq_true_eq, decide_eq_false_iff_not, Bool.not_eq_true', Bool.not_eq_false', Bool.not_eq_true, Bool.not_eq_false] at hc1; omega) | omega)
    all_goals
     try simp only [decide_eq_true_eq, decide_eq_false_iff_not, Bool.not_eq_true', Bool.not_eq_false', Bool.not_eq_true, Bool.not_eq_false, Option.isNone_none, Option.isNone_some, Option.isSome_none, Option.isSome_some, ne_eq, Decidable.not_not] at hc1
     refine WC.seq ?_
     refine WC.region ?_
     refine WL.val rfl rfl rfl rfl (r_assign rfl ev_c) ?_
     refine WL.val rfl rfl rfl rfl (r_assign rfl ev_c) ?_
     refine WL.nil ?_
     refine WX.keep [(6, _), (7, _)] ⟨rfl, rfl, trivial⟩ ?_
     refine WX.next ?_
     refine WC.ret ?_
     refine WX.blockRet ?_
     refine WX.thenRet ?_
     refine WX.retE2 rfl rfl rfl ?_
     fail
  · try (exfalso; first | (simp at hc1; done) | (simp only [decide_eq_true_eq, decide_eq_false_iff_not, Bool.not_eq_true', Bool.not_eq_false', Bool.not_eq_true, Bool.not_eq_false] at hc1; omega) | omega)
    all_goals
     try simp only [decide_eq_true_eq, decide_eq_false_iff_not, Bool.not_eq_true', Bool.not_eq_false', Bool.not_eq_true, Bool.not_eq_false, Option.isNone_none, Option.isNone_some, Option.isSome_none, Option.isSome_some, ne_eq, Decidable.not_not] at hc1
     refine WC.seq ?_
     refine WC.region ?_
     refine WL.val rfl rfl rfl rfl (r_move rfl (ev_t rfl)) ?_
     refine WL.val rfl rfl rfl rfl (r_eql rfl (ev_t rfl) ev_c) ?_
     refine WL.val rfl rfl rfl rfl (r_move rfl (ev_t rfl)) ?_
     refine WL.cases 16 rfl (fun hb3_2 => ?_) (fun hb3_2 => ?_)
     · try (exfalso; first | (simp at hb3_2; done) | (simp only [decide_eq_true_eq, decide_eq_false_iff_not, Bool.not_eq_true', Bool.not_eq_false', Bool.not_eq_true, Bool.not_eq_false] at hb3_2; omega) | omega)
       all_goals
        try simp only [decide_eq_true_eq, decide_eq_false_iff_not, Bool.not_eq_true', Bool.not_eq_false', Bool.not_eq_true, Bool.not_eq_false, Option.isNone_none, Option.isNone_some, Option.isSome_none, Option.isSome_some, ne_eq, Decidable.not_not] at hb3_2
        refine WL.skip rfl rfl rfl ?_
        refine WL.skip rfl rfl rfl ?_
        refine WL.val rfl rfl rfl rfl (r_pickT rfl (ev_t rfl) ev_c) ?_
        refine WL.val rfl rfl rfl rfl (r_assign rfl (ev_t rfl)) ?_
        refine WL.nil ?_
        refine WX.keep [(0, _), (1, _), (2, _), (13, _)] ⟨rfl, rfl, rfl, rfl, trivial⟩ ?_
        refine WX.next ?_
        refine WC.cond_true rfl (ev_t rfl) ?_
        refine WC.seq ?_
        refine WC.region ?_
        refine WL.val rfl rfl rfl rfl (r_assign rfl ev_c) ?_
        refine WL.val rfl rfl rfl rfl (r_assign rfl ev_c) ?_
        refine WL.nil ?_
        refine WX.keep [(6, _), (7, _)] ⟨rfl, rfl, trivial⟩ ?_
        refine WX.next ?_
        refine WC.ret ?_
        refine WX.blockRet ?_
        refine WX.thenRet ?_
        refine WX.retE2 rfl rfl rfl ?_
        have e : askS (lsOf V) id num = ([], 1) := if_pos (by omega)
        rw [e]
        exact ⟨_, rfl, Own.nil _ _ _ _, hU⟩
     · try (exfalso; first | (simp at hb3_2; done) | (simp only [decide_eq_true_eq, decide_eq_false_iff_not, Bool.not_eq_true', Bool.not_eq_false', Bool.not_eq_true, Bool.not_eq_false] at hb3_2; omega) | omega)
       all_goals
        try simp only [decide_eq_true_eq, decide_eq_false_iff_not, Bool.not_eq_true', Bool.not_eq_false', Bool.not_eq_true, Bool.not_eq_false, Option.isNone_none, Option.isNone_some, Option.isSome_none, Option.isSome_some, ne_eq, Decidable.not_not] at hb3_2
        refine WL.val rfl rfl rfl rfl (r_move rfl (ev_t rfl)) ?_
        refine WL.val rfl rfl rfl rfl (r_eql rfl (ev_t rfl) ev_c) ?_
        refine WL.val rfl rfl rfl rfl (r_pickF rfl (ev_t rfl) (ev_t rfl)) ?_
        refine WL.val rfl rfl rfl rfl (r_assign rfl (ev_t rfl)) ?_
        refine WL.nil ?_
        refine WX.keep [(0, _), (1, _), (2, _), (13, _)] ⟨rfl, rfl, rfl, rfl, trivial⟩ ?_
        refine WX.next ?_
        refine WC.cond rfl (ev_t rfl) (fun hc3 => ?_) (fun hc3 => ?_)
        · try (exfalso; first | (simp at hc3; done) | (simp only [decide_eq_true_eq, decide_eq_false_iff_not, Bool.not_eq_true', Bool.not_eq_false', Bool.not_eq_true, Bool.not_eq_false] at hc3; omega) | omega)
          all_goals
           try simp only [decide_eq_true_eq, decide_eq_false_iff_not, Bool.not_eq_true', Bool.not_eq_false', Bool.not_eq_true, Bool.not_eq_false, Option.isNone_none, Option.isNone_some, Option.isSome_none, Option.isSome_some, ne_eq, Decidable.not_not] at hc3
           refine WC.seq ?_
           refine WC.region ?_
           refine WL.val rfl rfl rfl rfl (r_assign rfl ev_c) ?_
           refine WL.val rfl rfl rfl rfl (r_assign rfl ev_c) ?_
           refine WL.nil ?_
           refine WX.keep [(6, _), (7, _)] ⟨rfl, rfl, trivial⟩ ?_
           refine WX.next ?_
           refine WC.ret ?_
           refine WX.blockRet ?_
           refine WX.thenRet ?_
           refine WX.retE2 rfl rfl rfl ?_
           have e : askS (lsOf V) id num = ([], 1) := if_pos (by omega)
           rw [e]
           exact ⟨_, rfl, Own.nil _ _ _ _, hU⟩
        · try (exfalso; first | (simp at hc3; done) | (simp only [decide_eq_true_eq, decide_eq_false_iff_not, Bool.not_eq_true', Bool.not_eq_false', Bool.not_eq_true, Bool.not_eq_false] at hc3; omega) | omega)
          all_goals
           try simp only [decide_eq_true_eq, decide_eq_false_iff_not, Bool.not_eq_true', Bool.not_eq_false', Bool.not_eq_true, Bool.not_eq_false, Option.isNone_none, Option.isNone_some, Option.isSome_none, Option.isSome_some, ne_eq, Decidable.not_not] at hc3
           refine WC.skip ?_
           refine WX.blockNormal ?_
           refine WX.next ?_
           refine WC.seq ?_
           have h0 : ¬ (id = 0 ∨ num = 0) := by omega
           refine WC.region ?_
           refine WL.val rfl rfl rfl rfl (r_move rfl (ev_t rfl)) ?_
           refine WL.val rfl rfl rfl rfl (r_move rfl (ev_t rfl)) ?_
           refine WL.cons (SO.call (find_ok hT hL hid) rfl body_21 ⟨(ev_t rfl), (ev_t rfl), trivial⟩ rfl rfl rfl rfl ?_)
           rintro v w1 ⟨rfl, hu1⟩
           rw [hi]
           have hs1 := hu1.size
           replace hU := hU.transA hu1
           refine WL.val rfl rfl rfl rfl (r_move rfl (ev_t rfl)) ?_
           refine WL.val rfl rfl rfl rfl (r_extract rfl (ev_t rfl) rfl) ?_
           refine WL.val rfl rfl rfl rfl (r_extract rfl (ev_t rfl) rfl) ?_
           refine WL.val rfl rfl rfl rfl (r_assign rfl (ev_t rfl)) ?_
           refine WL.val rfl rfl rfl rfl (r_assign rfl (ev_t rfl)) ?_
           refine WL.nil ?_
           refine WX.keep [(0, _), (2, _), (8, _), (9, _)] ⟨rfl, rfl, rfl, rfl, trivial⟩ ?_
           refine WX.next ?_
           refine WC.seq ?_
           refine WC.block ?_
           refine WC.seq ?_
           refine WC.region ?_
           refine WL.val rfl rfl rfl rfl (r_move rfl (ev_t rfl)) ?_
           refine WL.val rfl rfl rfl rfl (r_not rfl (ev_t rfl)) ?_
           refine WL.val rfl rfl rfl rfl (r_move rfl (ev_t rfl)) ?_
           refine WL.cases 29 rfl (fun hb6_2 => ?_) (fun hb6_2 => ?_)
           · try (exfalso; first | (simp at hb6_2; done) | (simp only [decide_eq_true_eq, decide_eq_false_iff_not, Bool.not_eq_true', Bool.not_eq_false', Bool.not_eq_true, Bool.not_eq_false] at hb6_2; omega) | omega)
             all_goals
              try simp only [decide_eq_true_eq, decide_eq_false_iff_not, Bool.not_eq_true', Bool.not_eq_false', Bool.not_eq_true, Bool.not_eq_false, Option.isNone_none, Option.isNone_some, Option.isSome_none, Option.isSome_some, ne_eq, Decidable.not_not] at hb6_2
              refine WL.val rfl rfl rfl rfl (r_move rfl (ev_t rfl)) ?_
              refine WL.val rfl rfl rfl rfl (r_nilCheck rfl (ev_t rfl)) ?_
              first | refine WL.val rfl rfl rfl rfl (r_field0 rfl (ev_t rfl) fld_55_0) ?_ | refine WL.val rfl rfl rfl rfl (r_fieldAt rfl (ev_t rfl) fld_55_0) ?_
              refine WL.val rfl rfl rfl rfl (r_load rfl (ev_t rfl) flat_53 (Blk.cell (hB.upd hU (fun h => h)) rfl)) ?_
              refine WL.val rfl rfl rfl rfl (r_lenSlice (ts := #[]) rfl (ev_t rfl) elem_53) ?_
              refine WL.val rfl rfl rfl rfl (r_geq rfl (ev_t rfl) ev_c) ?_
              refine WL.val rfl rfl rfl rfl (r_pickT rfl (ev_t rfl) (ev_t rfl)) ?_
              refine WL.val rfl rfl rfl rfl (r_assign rfl (ev_t rfl)) ?_
              refine WL.nil ?_
              refine WX.keep [(0, _), (2, _), (8, _), (9, _), (26, _)] ⟨rfl, rfl, rfl, rfl, rfl, trivial⟩ ?_
              refine WX.next ?_
              refine WC.cond rfl (ev_t rfl) (fun hc6 => ?_) (fun hc6 => ?_)
              · try (exfalso; first | (simp at hc6; done) | (simp only [decide_eq_true_eq, decide_eq_false_iff_not, Bool.not_eq_true', Bool.not_eq_false', Bool.not_eq_true, Bool.not_eq_false] at hc6; omega) | omega)
                all_goals
                 try simp only [decide_eq_true_eq, decide_eq_false_iff_not, Bool.not_eq_true', Bool.not_eq_false', Bool.not_eq_true, Bool.not_eq_false, Option.isNone_none, Option.isNone_some, Option.isSome_none, Option.isSome_some, ne_eq, Decidable.not_not] at hc6
                 refine WC.seq ?_
                 refine WC.region ?_
                 refine WL.val rfl rfl rfl rfl (r_assign rfl ev_c) ?_
                 refine WL.val rfl rfl rfl rfl (r_assign rfl ev_c) ?_
                 refine WL.nil ?_
                 refine WX.keep [(6, _), (7, _)] ⟨rfl, rfl, trivial⟩ ?_
                 refine WX.next ?_
                 refine WC.ret ?_
                 refine WX.blockRet ?_
                 refine WX.thenRet ?_
                 refine WX.retE2 rfl rfl rfl ?_
                 have e : askS (lsOf V) id num = ([], 2) := by rw [hno h0 (by simp_all), if_pos (by omega)]
                 rw [e]
                 exact ⟨_, rfl, Own.nil _ _ _ _, hU⟩
              · try (exfalso; first | (simp at hc6; done) | (simp only [decide_eq_true_eq, decide_eq_false_iff_not, Bool.not_eq_true', Bool.not_eq_false', Bool.not_eq_true, Bool.not_eq_false] at hc6; omega) | omega)
                all_goals
                 try simp only [decide_eq_true_eq, decide_eq_false_iff_not, Bool.not_eq_true', Bool.not_eq_false', Bool.not_eq_true, Bool.not_eq_false, Option.isNone_none, Option.isNone_some, Option.isSome_none, Option.isSome_some, ne_eq, Decidable.not_not] at hc6
                 refine WC.seq ?_
                 refine WC.region ?_
                 refine WL.val rfl rfl rfl rfl (r_move rfl (ev_t rfl)) ?_
                 refine WL.val rfl rfl rfl rfl (r_not rfl (ev_t rfl)) ?_
                 refine WL.val rfl rfl rfl rfl (r_move rfl (ev_t rfl)) ?_
                 refine WL.cases 40 rfl (fun hb8_2 => ?_) (fun hb8_2 => ?_)
                 · try (exfalso; first | (simp at hb8_2; done) | (simp only [decide_eq_true_eq, decide_eq_false_iff_not, Bool.not_eq_true', Bool.not_eq_false', Bool.not_eq_true, Bool.not_eq_false] at hb8_2; omega) | omega)
                   all_goals
                    try simp only [decide_eq_true_eq, decide_eq_false_iff_not, Bool.not_eq_true', Bool.not_eq_false', Bool.not_eq_true, Bool.not_eq_false, Option.isNone_none, Option.isNone_some, Option.isSome_none, Option.isSome_some, ne_eq, Decidable.not_not] at hb8_2
                    refine WL.skip rfl rfl rfl ?_
                    refine WL.skip rfl rfl rfl ?_
                    refine WL.skip rfl rfl rfl ?_
                    refine WL.skip rfl rfl rfl ?_
                    refine WL.skip rfl rfl rfl ?_
                    refine WL.skip rfl rfl rfl ?_
                    refine WL.skip rfl rfl rfl ?_
                    refine WL.skip rfl rfl rfl ?_
                    refine WL.skip rfl rfl rfl ?_
                    refine WL.skip rfl rfl rfl ?_
                    refine WL.val rfl rfl rfl rfl (r_pickT rfl (ev_t rfl) ev_c) ?_
                    refine WL.val rfl rfl rfl rfl (r_assign rfl (ev_t rfl)) ?_
                    refine WL.nil ?_
                    refine WX.keep [(0, _), (2, _), (8, _), (37, _)] ⟨rfl, rfl, rfl, rfl, trivial⟩ ?_
                    refine WX.next ?_
                    refine WC.cond_true rfl (ev_t rfl) ?_
                    refine WC.seq ?_
                    refine WC.region ?_
                    refine WL.val rfl rfl rfl rfl (r_assign rfl ev_c) ?_
                    refine WL.val rfl rfl rfl rfl (r_assign rfl ev_c) ?_
                    refine WL.nil ?_
                    refine WX.keep [(6, _), (7, _)] ⟨rfl, rfl, trivial⟩ ?_
                    refine WX.next ?_
                    refine WC.ret ?_
                    refine WX.blockRet ?_
                    refine WX.thenRet ?_
                    refine WX.retE2 rfl rfl rfl ?_
                    first | (have e : askS (lsOf V) id num = ([], 6) := by rw [hask, if_pos (by omega)]); rw [e]; exact ⟨_, rfl, Own.nil _ _ _ _, hU⟩ | (have e : askS (lsOf V) id num = ([], 6) := by rw [hno h0 (by simp_all), if_neg (by omega)]); rw [e]; exact ⟨_, rfl, Own.nil _ _ _ _, hU⟩ | (exfalso; simp_all; done)
                 · try (exfalso; first | (simp at hb8_2; done) | (simp only [decide_eq_true_eq, decide_eq_false_iff_not, Bool.not_eq_true', Bool.not_eq_false', Bool.not_eq_true, Bool.not_eq_false] at hb8_2; omega) | omega)
                   all_goals
                    try simp only [decide_eq_true_eq, decide_eq_false_iff_not, Bool.not_eq_true', Bool.not_eq_false', Bool.not_eq_true, Bool.not_eq_false, Option.isNone_none, Option.isNone_some, Option.isSome_none, Option.isSome_some, ne_eq, Decidable.not_not] at hb8_2
                    obtain ⟨r, hg, hrid⟩ := hat (by simp_all)
                    have hask := hask h0 r (by simp_all) hg
                    have hlt := (List.getElem?_eq_some_iff.1 hg).1
                    obtain ⟨b, off, rfl, _⟩ := hr.open (by omega)
                    have hcell := flatMap_get LsV.cells_len hg
                    have hrD := hD r (List.mem_of_getElem? hg)
                    refine WL.val rfl rfl rfl rfl (r_move rfl (ev_t rfl)) ?_
                    refine WL.val rfl rfl rfl rfl (r_nilCheck rfl (ev_t rfl)) ?_
                    first | refine WL.val rfl rfl rfl rfl (r_field0 rfl (ev_t rfl) fld_55_0) ?_ | refine WL.val rfl rfl rfl rfl (r_fieldAt rfl (ev_t rfl) fld_55_0) ?_
                    refine WL.val rfl rfl rfl rfl (r_load rfl (ev_t rfl) flat_53 (Blk.cell (hB.upd hU (fun h => h)) rfl)) ?_
                    refine WL.val rfl rfl rfl rfl (r_move rfl (ev_t rfl)) ?_
                    refine WL.val rfl rfl rfl rfl (r_indexAddr rfl (ev_t rfl) (ev_t rfl) elem_53 size_58 (by omega) (by omega)) ?_
                    first | refine WL.val rfl rfl rfl rfl (r_field0 rfl (ev_t rfl) fld_58_1) ?_ | refine WL.val rfl rfl rfl rfl (r_fieldAt rfl (ev_t rfl) fld_58_1) ?_
                    refine WL.val rfl rfl rfl rfl (r_load rfl (ev_t rfl) flat_27 (Rd.cell (hr.upd hU (fun _ _ _ h => h)) (by omega) (hcell 1 _ rfl))) ?_
                    refine WL.val rfl rfl rfl rfl (r_move rfl (ev_t rfl)) ?_
                    refine WL.val rfl rfl rfl rfl (r_lss rfl (ev_t rfl) (ev_t rfl)) ?_
                    refine WL.val rfl rfl rfl rfl (r_pickF rfl (ev_t rfl) (ev_t rfl)) ?_
                    refine WL.val rfl rfl rfl rfl (r_assign rfl (ev_t rfl)) ?_
                    refine WL.nil ?_
                    refine WX.keep [(0, _), (2, _), (8, _), (37, _)] ⟨rfl, rfl, rfl, rfl, trivial⟩ ?_
                    refine WX.next ?_
                    refine WC.cond rfl (ev_t rfl) (fun hc8 => ?_) (fun hc8 => ?_)
                    · try (exfalso; first | (simp at hc8; done) | (simp only [decide_eq_true_eq, decide_eq_false_iff_not, Bool.not_eq_true', Bool.not_eq_false', Bool.not_eq_true, Bool.not_eq_false] at hc8; omega) | omega)
                      all_goals
                       try simp only [decide_eq_true_eq, decide_eq_false_iff_not, Bool.not_eq_true', Bool.not_eq_false', Bool.not_eq_true, Bool.not_eq_false, Option.isNone_none, Option.isNone_some, Option.isSome_none, Option.isSome_some, ne_eq, Decidable.not_not] at hc8
                       refine WC.seq ?_
                       refine WC.region ?_
                       refine WL.val rfl rfl rfl rfl (r_assign rfl ev_c) ?_
                       refine WL.val rfl rfl rfl rfl (r_assign rfl ev_c) ?_
                       refine WL.nil ?_
                       refine WX.keep [(6, _), (7, _)] ⟨rfl, rfl, trivial⟩ ?_
                       refine WX.next ?_
                       refine WC.ret ?_
                       refine WX.blockRet ?_
                       refine WX.thenRet ?_
                       refine WX.retE2 rfl rfl rfl ?_
                       first | (have e : askS (lsOf V) id num = ([], 6) := by rw [hask, if_pos (by omega)]); rw [e]; exact ⟨_, rfl, Own.nil _ _ _ _, hU⟩ | (have e : askS (lsOf V) id num = ([], 6) := by rw [hno h0 (by simp_all), if_neg (by omega)]); rw [e]; exact ⟨_, rfl, Own.nil _ _ _ _, hU⟩ | (exfalso; simp_all; done)
                    · try (exfalso; first | (simp at hc8; done) | (simp only [decide_eq_true_eq, decide_eq_false_iff_not, Bool.not_eq_true', Bool.not_eq_false', Bool.not_eq_true, Bool.not_eq_false] at hc8; omega) | omega)
                      all_goals
                       try simp only [decide_eq_true_eq, decide_eq_false_iff_not, Bool.not_eq_true', Bool.not_eq_false', Bool.not_eq_true, Bool.not_eq_false, Option.isNone_none, Option.isNone_some, Option.isSome_none, Option.isSome_some, ne_eq, Decidable.not_not] at hc8
                       refine WC.seq ?_
                       refine WC.region ?_
                       refine WL.val rfl rfl rfl rfl (r_move rfl (ev_t rfl)) ?_
                       refine WL.val rfl rfl rfl rfl (r_nilCheck rfl (ev_t rfl)) ?_
                       first | refine WL.val rfl rfl rfl rfl (r_field0 rfl (ev_t rfl) fld_55_0) ?_ | refine WL.val rfl rfl rfl rfl (r_fieldAt rfl (ev_t rfl) fld_55_0) ?_
                       refine WL.val rfl rfl rfl rfl (r_load rfl (ev_t rfl) flat_53 (Blk.cell (hB.upd hU (fun h => h)) rfl)) ?_
                       refine WL.val rfl rfl rfl rfl (r_move rfl (ev_t rfl)) ?_
                       refine WL.val rfl rfl rfl rfl (r_indexAddr rfl (ev_t rfl) (ev_t rfl) elem_53 size_58 (by omega) (by omega)) ?_
                       first | refine WL.val rfl rfl rfl rfl (r_field0 rfl (ev_t rfl) fld_58_1) ?_ | refine WL.val rfl rfl rfl rfl (r_fieldAt rfl (ev_t rfl) fld_58_1) ?_
                       refine WL.val rfl rfl rfl rfl (r_load rfl (ev_t rfl) flat_27 (Rd.cell (hr.upd hU (fun _ _ _ h => h)) (by omega) (hcell 1 _ rfl))) ?_
                       refine WL.val rfl rfl rfl rfl (r_move rfl (ev_t rfl)) ?_
                       refine WL.val rfl rfl rfl rfl (r_gtr rfl (ev_t rfl) (ev_t rfl)) ?_
                       refine WL.val rfl rfl rfl rfl (r_assign rfl (ev_t rfl)) ?_
                       refine WL.nil ?_
                       refine WX.keep [(0, _), (8, _), (52, _)] ⟨rfl, rfl, rfl, trivial⟩ ?_
                       refine WX.next ?_
                       refine WC.cond rfl (ev_t rfl) (fun hc10 => ?_) (fun hc10 => ?_)
                       · try (exfalso; first | (simp at hc10; done) | (simp only [decide_eq_true_eq, decide_eq_false_iff_not, Bool.not_eq_true', Bool.not_eq_false', Bool.not_eq_true, Bool.not_eq_false] at hc10; omega) | omega)
                         all_goals
                          try simp only [decide_eq_true_eq, decide_eq_false_iff_not, Bool.not_eq_true', Bool.not_eq_false', Bool.not_eq_true, Bool.not_eq_false, Option.isNone_none, Option.isNone_some, Option.isSome_none, Option.isSome_some, ne_eq, Decidable.not_not] at hc10
                          refine WC.seq ?_
                          refine WC.region ?_
                          refine WL.val rfl rfl rfl rfl (r_assign rfl ev_c) ?_
                          refine WL.val rfl rfl rfl rfl (r_assign rfl ev_c) ?_
                          refine WL.nil ?_
                          refine WX.keep [(6, _), (7, _)] ⟨rfl, rfl, trivial⟩ ?_
                          refine WX.next ?_
                          refine WC.ret ?_
                          refine WX.blockRet ?_
                          refine WX.thenRet ?_
                          refine WX.retE2 rfl rfl rfl ?_
                          have e : askS (lsOf V) id num = ([], 16) := by rw [hask, if_neg (by omega), if_pos (by omega)]
                          rw [e]
                          exact ⟨_, rfl, Own.nil _ _ _ _, hU⟩
                       · try (exfalso; first | (simp at hc10; done) | (simp only [decide_eq_true_eq, decide_eq_false_iff_not, Bool.not_eq_true', Bool.not_eq_false', Bool.not_eq_true, Bool.not_eq_false] at hc10; omega) | omega)
                         all_goals
                          try simp only [decide_eq_true_eq, decide_eq_false_iff_not, Bool.not_eq_true', Bool.not_eq_false', Bool.not_eq_true, Bool.not_eq_false, Option.isNone_none, Option.isNone_some, Option.isSome_none, Option.isSome_some, ne_eq, Decidable.not_not] at hc10
                          refine WC.skip ?_
                          refine WX.blockNormal ?_
                          refine WX.next ?_
                          refine WC.seq ?_
                          refine WC.region ?_
                          refine WL.val rfl rfl rfl rfl (r_move rfl (ev_t rfl)) ?_
                          refine WL.val rfl rfl rfl rfl (r_nilCheck rfl (ev_t rfl)) ?_
                          first | refine WL.val rfl rfl rfl rfl (r_field0 rfl (ev_t rfl) fld_55_0) ?_ | refine WL.val rfl rfl rfl rfl (r_fieldAt rfl (ev_t rfl) fld_55_0) ?_
                          refine WL.val rfl rfl rfl rfl (r_load rfl (ev_t rfl) flat_53 (Blk.cell (hB.upd hU (fun h => h)) rfl)) ?_
                          refine WL.val rfl rfl rfl rfl (r_move rfl (ev_t rfl)) ?_
                          refine WL.val rfl rfl rfl rfl (r_indexAddr rfl (ev_t rfl) (ev_t rfl) elem_53 size_58 (by omega) (by omega)) ?_
                          first | refine WL.val rfl rfl rfl rfl (r_field0 rfl (ev_t rfl) fld_58_2) ?_ | refine WL.val rfl rfl rfl rfl (r_fieldAt rfl (ev_t rfl) fld_58_2) ?_
                          refine WL.val rfl rfl rfl rfl (r_load rfl (ev_t rfl) flat_23 (Rd.cell (hr.upd hU (fun _ _ _ h => h)) (by omega) (hcell 2 _ rfl))) ?_
                          refine WL.cons (SO.call (clone_ok (l := r.x.data) (hrD.upd hU (fun _ _ _ h => h))) rfl body_20 ⟨(ev_t rfl), trivial⟩ rfl rfl rfl rfl ?_)
                          rintro v w2 ⟨hcl, hu2⟩
                          have hs2 := hu2.size
                          replace hU := hU.transA hu2
                          refine WL.val rfl rfl rfl rfl (r_assign rfl (ev_t rfl)) ?_
                          refine WL.val rfl rfl rfl rfl (r_assign rfl ev_c) ?_
                          refine WL.nil ?_
                          refine WX.keep [(6, _), (7, _)] ⟨rfl, rfl, trivial⟩ ?_
                          refine WX.next ?_
                          refine WC.ret ?_
                          refine WX.retE2 rfl rfl rfl ?_
                          have e : askS (lsOf V) id num = (r.x.data, 0) := by rw [hask, if_neg (by omega), if_neg (by omega)]
                          rw [e]
                          exact ⟨_, rfl, hcl.mono (fun k hk => ⟨by have := hk.1; omega, hk.2⟩), hU⟩
           · try (exfalso; first | (simp at hb6_2; done) | (simp only [decide_eq_true_eq, decide_eq_false_iff_not, Bool.not_eq_true', Bool.not_eq_false', Bool.not_eq_true, Bool.not_eq_false] at hb6_2; omega) | omega)
             all_goals
              try simp only [decide_eq_true_eq, decide_eq_false_iff_not, Bool.not_eq_true', Bool.not_eq_false', Bool.not_eq_true, Bool.not_eq_false, Option.isNone_none, Option.isNone_some, Option.isSome_none, Option.isSome_some, ne_eq, Decidable.not_not] at hb6_2
              refine WL.skip rfl rfl rfl ?_
              refine WL.skip rfl rfl rfl ?_
              refine WL.skip rfl rfl rfl ?_
              refine WL.skip rfl rfl rfl ?_
              refine WL.skip rfl rfl rfl ?_
              refine WL.skip rfl rfl rfl ?_
              refine WL.val rfl rfl rfl rfl (r_pickF rfl (ev_t rfl) ev_c) ?_
              refine WL.val rfl rfl rfl rfl (r_assign rfl (ev_t rfl)) ?_
              refine WL.nil ?_
              refine WX.keep [(0, _), (2, _), (8, _), (9, _), (26, _)] ⟨rfl, rfl, rfl, rfl, rfl, trivial⟩ ?_
              refine WX.next ?_
              refine WC.cond_false rfl (ev_t rfl) ?_
              refine WC.seq ?_
              refine WC.region ?_
              refine WL.val rfl rfl rfl rfl (r_move rfl (ev_t rfl)) ?_
              refine WL.val rfl rfl rfl rfl (r_not rfl (ev_t rfl)) ?_
              refine WL.val rfl rfl rfl rfl (r_move rfl (ev_t rfl)) ?_
              refine WL.cases 40 rfl (fun hb8_2 => ?_) (fun hb8_2 => ?_)
              · try (exfalso; first | (simp at hb8_2; done) | (simp only [decide_eq_true_eq, decide_eq_false_iff_not, Bool.not_eq_true', Bool.not_eq_false', Bool.not_eq_true, Bool.not_eq_false] at hb8_2; omega) | omega)
                all_goals
                 try simp only [decide_eq_true_eq, decide_eq_false_iff_not, Bool.not_eq_true', Bool.not_eq_false', Bool.not_eq_true, Bool.not_eq_false, Option.isNone_none, Option.isNone_some, Option.isSome_none, Option.isSome_some, ne_eq, Decidable.not_not] at hb8_2
                 refine WL.skip rfl rfl rfl ?_
                 refine WL.skip rfl rfl rfl ?_
                 refine WL.skip rfl rfl rfl ?_
                 refine WL.skip rfl rfl rfl ?_
                 refine WL.skip rfl rfl rfl ?_
                 refine WL.skip rfl rfl rfl ?_
                 refine WL.skip rfl rfl rfl ?_
                 refine WL.skip rfl rfl rfl ?_
                 refine WL.skip rfl rfl rfl ?_
                 refine WL.skip rfl rfl rfl ?_
                 refine WL.val rfl rfl rfl rfl (r_pickT rfl (ev_t rfl) ev_c) ?_
                 refine WL.val rfl rfl rfl rfl (r_assign rfl (ev_t rfl)) ?_
                 refine WL.nil ?_
                 refine WX.keep [(0, _), (2, _), (8, _), (37, _)] ⟨rfl, rfl, rfl, rfl, trivial⟩ ?_
                 refine WX.next ?_
                 refine WC.cond_true rfl (ev_t rfl) ?_
                 refine WC.seq ?_
                 refine WC.region ?_
                 refine WL.val rfl rfl rfl rfl (r_assign rfl ev_c) ?_
                 refine WL.val rfl rfl rfl rfl (r_assign rfl ev_c) ?_
                 refine WL.nil ?_
                 refine WX.keep [(6, _), (7, _)] ⟨rfl, rfl, trivial⟩ ?_
                 refine WX.next ?_
                 refine WC.ret ?_
                 refine WX.blockRet ?_
                 refine WX.thenRet ?_
                 refine WX.retE2 rfl rfl rfl ?_
                 first | (have e : askS (lsOf V) id num = ([], 6) := by rw [hask, if_pos (by omega)]); rw [e]; exact ⟨_, rfl, Own.nil _ _ _ _, hU⟩ | (have e : askS (lsOf V) id num = ([], 6) := by rw [hno h0 (by simp_all), if_neg (by omega)]); rw [e]; exact ⟨_, rfl, Own.nil _ _ _ _, hU⟩ | (exfalso; simp_all; done)
              · try (exfalso; first | (simp at hb8_2; done) | (simp only [decide_eq_true_eq, decide_eq_false_iff_not, Bool.not_eq_true', Bool.not_eq_false', Bool.not_eq_true, Bool.not_eq_false] at hb8_2; omega) | omega)
                all_goals
                 try simp only [decide_eq_true_eq, decide_eq_false_iff_not, Bool.not_eq_true', Bool.not_eq_false', Bool.not_eq_true, Bool.not_eq_false, Option.isNone_none, Option.isNone_some, Option.isSome_none, Option.isSome_some, ne_eq, Decidable.not_not] at hb8_2
                 obtain ⟨r, hg, hrid⟩ := hat (by simp_all)
                 have hask := hask h0 r (by simp_all) hg
                 have hlt := (List.getElem?_eq_some_iff.1 hg).1
                 obtain ⟨b, off, rfl, _⟩ := hr.open (by omega)
                 have hcell := flatMap_get LsV.cells_len hg
                 have hrD := hD r (List.mem_of_getElem? hg)
                 refine WL.val rfl rfl rfl rfl (r_move rfl (ev_t rfl)) ?_
                 refine WL.val rfl rfl rfl rfl (r_nilCheck rfl (ev_t rfl)) ?_
                 first | refine WL.val rfl rfl rfl rfl (r_field0 rfl (ev_t rfl) fld_55_0) ?_ | refine WL.val rfl rfl rfl rfl (r_fieldAt rfl (ev_t rfl) fld_55_0) ?_
                 refine WL.val rfl rfl rfl rfl (r_load rfl (ev_t rfl) flat_53 (Blk.cell (hB.upd hU (fun h => h)) rfl)) ?_
                 refine WL.val rfl rfl rfl rfl (r_move rfl (ev_t rfl)) ?_
                 refine WL.val rfl rfl rfl rfl (r_indexAddr rfl (ev_t rfl) (ev_t rfl) elem_53 size_58 (by omega) (by omega)) ?_
                 first | refine WL.val rfl rfl rfl rfl (r_field0 rfl (ev_t rfl) fld_58_1) ?_ | refine WL.val rfl rfl rfl rfl (r_fieldAt rfl (ev_t rfl) fld_58_1) ?_
                 refine WL.val rfl rfl rfl rfl (r_load rfl (ev_t rfl) flat_27 (Rd.cell (hr.upd hU (fun _ _ _ h => h)) (by omega) (hcell 1 _ rfl))) ?_
                 refine WL.val rfl rfl rfl rfl (r_move rfl (ev_t rfl)) ?_
                 refine WL.val rfl rfl rfl rfl (r_lss rfl (ev_t rfl) (ev_t rfl)) ?_
                 refine WL.val rfl rfl rfl rfl (r_pickF rfl (ev_t rfl) (ev_t rfl)) ?_
                 refine WL.val rfl rfl rfl rfl (r_assign rfl (ev_t rfl)) ?_
                 refine WL.nil ?_
                 refine WX.keep [(0, _), (2, _), (8, _), (37, _)] ⟨rfl, rfl, rfl, rfl, trivial⟩ ?_
                 refine WX.next ?_
                 refine WC.cond rfl (ev_t rfl) (fun hc8 => ?_) (fun hc8 => ?_)
                 · try (exfalso; first | (simp at hc8; done) | (simp only [decide_eq_true_eq, decide_eq_false_iff_not, Bool.not_eq_true', Bool.not_eq_false', Bool.not_eq_true, Bool.not_eq_false] at hc8; omega) | omega)
                   all_goals
                    try simp only [decide_eq_true_eq, decide_eq_false_iff_not, Bool.not_eq_true', Bool.not_eq_false', Bool.not_eq_true, Bool.not_eq_false, Option.isNone_none, Option.isNone_some, Option.isSome_none, Option.isSome_some, ne_eq, Decidable.not_not] at hc8
                    refine WC.seq ?_
                    refine WC.region ?_
                    refine WL.val rfl rfl rfl rfl (r_assign rfl ev_c) ?_
                    refine WL.val rfl rfl rfl rfl (r_assign rfl ev_c) ?_
                    refine WL.nil ?_
                    refine WX.keep [(6, _), (7, _)] ⟨rfl, rfl, trivial⟩ ?_
                    refine WX.next ?_
                    refine WC.ret ?_
                    refine WX.blockRet ?_
                    refine WX.thenRet ?_
                    refine WX.retE2 rfl rfl rfl ?_
                    first | (have e : askS (lsOf V) id num = ([], 6) := by rw [hask, if_pos (by omega)]); rw [e]; exact ⟨_, rfl, Own.nil _ _ _ _, hU⟩ | (have e : askS (lsOf V) id num = ([], 6) := by rw [hno h0 (by simp_all), if_neg (by omega)]); rw [e]; exact ⟨_, rfl, Own.nil _ _ _ _, hU⟩ | (exfalso; simp_all; done)
                 · try (exfalso; first | (simp at hc8; done) | (simp only [decide_eq_true_eq, decide_eq_false_iff_not, Bool.not_eq_true', Bool.not_eq_false', Bool.not_eq_true, Bool.not_eq_false] at hc8; omega) | omega)
                   all_goals
                    try simp only [decide_eq_true_eq, decide_eq_false_iff_not, Bool.not_eq_true', Bool.not_eq_false', Bool.not_eq_true, Bool.not_eq_false, Option.isNone_none, Option.isNone_some, Option.isSome_none, Option.isSome_some, ne_eq, Decidable.not_not] at hc8
                    refine WC.seq ?_
                    refine WC.region ?_
                    refine WL.val rfl rfl rfl rfl (r_move rfl (ev_t rfl)) ?_
                    refine WL.val rfl rfl rfl rfl (r_nilCheck rfl (ev_t rfl)) ?_
                    first | refine WL.val rfl rfl rfl rfl (r_field0 rfl (ev_t rfl) fld_55_0) ?_ | refine WL.val rfl rfl rfl rfl (r_fieldAt rfl (ev_t rfl) fld_55_0) ?_
                    refine WL.val rfl rfl rfl rfl (r_load rfl (ev_t rfl) flat_53 (Blk.cell (hB.upd hU (fun h => h)) rfl)) ?_
                    refine WL.val rfl rfl rfl rfl (r_move rfl (ev_t rfl)) ?_
                    refine WL.val rfl rfl rfl rfl (r_indexAddr rfl (ev_t rfl) (ev_t rfl) elem_53 size_58 (by omega) (by omega)) ?_
                    first | refine WL.val rfl rfl rfl rfl (r_field0 rfl (ev_t rfl) fld_58_1) ?_ | refine WL.val rfl rfl rfl rfl (r_fieldAt rfl (ev_t rfl) fld_58_1) ?_
                    refine WL.val rfl rfl rfl rfl (r_load rfl (ev_t rfl) flat_27 (Rd.cell (hr.upd hU (fun _ _ _ h => h)) (by omega) (hcell 1 _ rfl))) ?_
                    refine WL.val rfl rfl rfl rfl (r_move rfl (ev_t rfl)) ?_
                    refine WL.val rfl rfl rfl rfl (r_gtr rfl (ev_t rfl) (ev_t rfl)) ?_
                    refine WL.val rfl rfl rfl rfl (r_assign rfl (ev_t rfl)) ?_
                    refine WL.nil ?_
                    refine WX.keep [(0, _), (8, _), (52, _)] ⟨rfl, rfl, rfl, trivial⟩ ?_
                    refine WX.next ?_
                    refine WC.cond rfl (ev_t rfl) (fun hc10 => ?_) (fun hc10 => ?_)
                    · try (exfalso; first | (simp at hc10; done) | (simp only [decide_eq_true_eq, decide_eq_false_iff_not, Bool.not_eq_true', Bool.not_eq_false', Bool.not_eq_true, Bool.not_eq_false] at hc10; omega) | omega)
                      all_goals
                       try simp only [decide_eq_true_eq, decide_eq_false_iff_not, Bool.not_eq_true', Bool.not_eq_false', Bool.not_eq_true, Bool.not_eq_false, Option.isNone_none, Option.isNone_some, Option.isSome_none, Option.isSome_some, ne_eq, Decidable.not_not] at hc10
                       refine WC.seq ?_
                       refine WC.region ?_
                       refine WL.val rfl rfl rfl rfl (r_assign rfl ev_c) ?_
                       refine WL.val rfl rfl rfl rfl (r_assign rfl ev_c) ?_
                       refine WL.nil ?_
                       refine WX.keep [(6, _), (7, _)] ⟨rfl, rfl, trivial⟩ ?_
                       refine WX.next ?_
                       refine WC.ret ?_
                       refine WX.blockRet ?_
                       refine WX.thenRet ?_
                       refine WX.retE2 rfl rfl rfl ?_
                       have e : askS (lsOf V) id num = ([], 16) := by rw [hask, if_neg (by omega), if_pos (by omega)]
                       rw [e]
                       exact ⟨_, rfl, Own.nil _ _ _ _, hU⟩
                    · try (exfalso; first | (simp at hc10; done) | (simp only [decide_eq_true_eq, decide_eq_false_iff_not, Bool.not_eq_true', Bool.not_eq_false', Bool.not_eq_true, Bool.not_eq_false] at hc10; omega) | omega)
                      all_goals
                       try simp only [decide_eq_true_eq, decide_eq_false_iff_not, Bool.not_eq_true', Bool.not_eq_false', Bool.not_eq_true, Bool.not_eq_false, Option.isNone_none, Option.isNone_some, Option.isSome_none, Option.isSome_some, ne_eq, Decidable.not_not] at hc10
                       refine WC.skip ?_
                       refine WX.blockNormal ?_
                       refine WX.next ?_
                       refine WC.seq ?_
                       refine WC.region ?_
                       refine WL.val rfl rfl rfl rfl (r_move rfl (ev_t rfl)) ?_
                       refine WL.val rfl rfl rfl rfl (r_nilCheck rfl (ev_t rfl)) ?_
                       first | refine WL.val rfl rfl rfl rfl (r_field0 rfl (ev_t rfl) fld_55_0) ?_ | refine WL.val rfl rfl rfl rfl (r_fieldAt rfl (ev_t rfl) fld_55_0) ?_
                       refine WL.val rfl rfl rfl rfl (r_load rfl (ev_t rfl) flat_53 (Blk.cell (hB.upd hU (fun h => h)) rfl)) ?_
                       refine WL.val rfl rfl rfl rfl (r_move rfl (ev_t rfl)) ?_
                       refine WL.val rfl rfl rfl rfl (r_indexAddr rfl (ev_t rfl) (ev_t rfl) elem_53 size_58 (by omega) (by omega)) ?_
                       first | refine WL.val rfl rfl rfl rfl (r_field0 rfl (ev_t rfl) fld_58_2) ?_ | refine WL.val rfl rfl rfl rfl (r_fieldAt rfl (ev_t rfl) fld_58_2) ?_
                       refine WL.val rfl rfl rfl rfl (r_load rfl (ev_t rfl) flat_23 (Rd.cell (hr.upd hU (fun _ _ _ h => h)) (by omega) (hcell 2 _ rfl))) ?_
                       refine WL.cons (SO.call (clone_ok (l := r.x.data) (hrD.upd hU (fun _ _ _ h => h))) rfl body_20 ⟨(ev_t rfl), trivial⟩ rfl rfl rfl rfl ?_)
                       rintro v w3 ⟨hcl, hu3⟩
                       have hs3 := hu3.size
                       replace hU := hU.transA hu3
                       refine WL.val rfl rfl rfl rfl (r_assign rfl (ev_t rfl)) ?_
                       refine WL.val rfl rfl rfl rfl (r_assign rfl ev_c) ?_
                       refine WL.nil ?_
                       refine WX.keep [(6, _), (7, _)] ⟨rfl, rfl, trivial⟩ ?_
                       refine WX.next ?_
                       refine WC.ret ?_
                       refine WX.retE2 rfl rfl rfl ?_
                       have e : askS (lsOf V) id num = (r.x.data, 0) := by rw [hask, if_neg (by omega), if_neg (by omega)]
                       rw [e]
                       exact ⟨_, rfl, hcl.mono (fun k hk => ⟨by have := hk.1; omega, hk.2⟩), hU⟩
end Go.Proofs.Ytipabhbnljadfaa
