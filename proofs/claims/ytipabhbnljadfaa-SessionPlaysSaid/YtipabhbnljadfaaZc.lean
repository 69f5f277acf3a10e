/-
  Several texts put together: Seb, Sec, Sed, Sef, SegP, Fr.
-/
import Derived.Lib.AppendZerosOnto
import Derived.Lib.Overlaps
import Derived.Test.YtipabhbnljadfaaZb
/-
  session.Table: find, Len, Ask.
-/
namespace Go.Proofs.Ytipabhbnljadfaa
open Go
set_option linter.unusedSimpArgs false
set_option linter.unusedVariables false

/-- a table, in blocks of R -/
def IsT (w : World) (R : Nat → Prop) (t : Nat) (L : List Ls) : Prop := ∃ (A : Option Addr) (c : Nat) (V : List LsV) (G H : Nat → Prop), Blk w t #[.slice A V.length c] 55 ∧
  Own w G 58 3 (.slice A V.length c) V.length (V.flatMap LsV.cells) ∧ (∀ r ∈ V, Rd w H r.v r.x.data.length 1 (r.x.data.map U8)) ∧ lsOf V = L ∧ R t ∧ t < w.heap.size ∧
  (∀ k, G k → R k ∧ k ≠ t ∧ k < w.heap.size) ∧ ∀ k, H k → R k ∧ k ≠ t ∧ ¬ G k ∧ k < w.heap.size
theorem IsT.upd {w w' : World} {R S : Nat → Prop} {t : Nat} {L : List Ls} (h : IsT w R t L) (hu : Upd S w w') (hn : ∀ k, R k → k < w.heap.size → ¬ S k) : IsT w' R t L := by
  obtain ⟨A, c, V, G, H, h1, h2, h3, h4, h5, h6, h7, h8⟩ := h
  refine ⟨A, c, V, G, H, h1.upd hu (hn t h5 h6), h2.upd hu (fun k hk hl => hn k (h7 k hk).1 hl), fun r hr => (h3 r hr).upd hu (fun k hk hl => hn k (h8 k hk).1 hl), h4, h5, Nat.lt_of_lt_of_le h6 hu.size, fun k hk => ?_, fun k hk => ?_⟩
  · have := h7 k hk
    exact ⟨this.1, this.2.1, Nat.lt_of_lt_of_le this.2.2 hu.size⟩
  · have := h8 k hk
    exact ⟨this.1, this.2.1, this.2.2.1, Nat.lt_of_lt_of_le this.2.2.2 hu.size⟩
theorem IsT.mono {w : World} {R R' : Nat → Prop} {t : Nat} {L : List Ls} (h : IsT w R t L) (hR : ∀ k, R k → k < w.heap.size → R' k) : IsT w R' t L := by
  obtain ⟨A, c, V, G, H, h1, h2, h3, h4, h5, h6, h7, h8⟩ := h
  exact ⟨A, c, V, G, H, h1, h2, h3, h4, hR t h5 h6, h6, fun k hk => ⟨hR k (h7 k hk).1 (h7 k hk).2.2, (h7 k hk).2⟩, fun k hk => ⟨hR k (h8 k hk).1 (h8 k hk).2.2.2, (h8 k hk).2⟩⟩
theorem find_ok {w : World} {R : Nat → Prop} {t : Nat} {L : List Ls} {id : Nat} (hT : IsT w R t L) (hL : TOK L) (hid : id < 18446744073709551616) :
    Ret Try.prog 21 #[.pointer (some ⟨t, 0, none⟩), .int .u64 (id : Int)] w fun u w' => u = .tuple #[.int .i64 (lbI L id : Int), .bool (isAt L id)] ∧ Upd No w w' := by
  obtain ⟨A, c, V, G, H, hB, hO, hD, rfl, hRt, htl, hG, hH⟩ := hT
  have hm := hL.most
  simp only [lsOf, List.length_map] at hm
  have hr := hO.rd (by omega)
  refine enterRet (vs := [_, _]) (N := 14) Try.func21 rfl rfl rfl ?_
  have hU := Upd.refl No w
  refine WC.keep [(0, _), (1, _)] ⟨rfl, rfl, trivial⟩ ?_
  refine WC.seq ?_
  refine WC.region ?_
  refine WL.val rfl rfl rfl rfl (r_assign rfl ev_c) ?_
  refine WL.val rfl rfl rfl rfl (r_assign rfl ev_c) ?_
  refine WL.nil ?_
  refine WX.keep [(0, _), (1, _)] ⟨rfl, rfl, trivial⟩ ?_
  refine WX.next ?_
  refine WC.seq ?_
  refine WC.region ?_
  refine WL.val rfl rfl rfl rfl (r_move rfl (ev_t rfl)) ?_
  refine WL.val rfl rfl rfl rfl (r_nilCheck rfl (ev_t rfl)) ?_
  first | refine WL.val rfl rfl rfl rfl (r_field0 rfl (ev_t rfl) fld_55_0) ?_ | refine WL.val rfl rfl rfl rfl (r_fieldAt rfl (ev_t rfl) fld_55_0) ?_
  refine WL.val rfl rfl rfl rfl (r_load rfl (ev_t rfl) flat_53 (Blk.cell hB rfl)) ?_
  refine WL.val rfl rfl rfl rfl (r_move rfl (ev_t rfl)) ?_
  refine WL.cons (SO.call (bsf_ok hr rfl hid hL.rise (fun r hr => (hL.ok r.x (List.mem_map.2 ⟨r, hr, rfl⟩)).2.1)) rfl body_38 ⟨(ev_t rfl), (ev_t rfl), ev_f, trivial⟩ rfl rfl rfl rfl ?_)
  rintro v w1 ⟨rfl, hu1⟩
  have hs1 := hu1.size
  replace hU := hU.transA hu1
  refine WL.val rfl rfl rfl rfl (r_extract rfl (ev_t rfl) rfl) ?_
  refine WL.val rfl rfl rfl rfl (r_extract rfl (ev_t rfl) rfl) ?_
  refine WL.val rfl rfl rfl rfl (r_assign rfl (ev_t rfl)) ?_
  refine WL.val rfl rfl rfl rfl (r_assign rfl (ev_t rfl)) ?_
  refine WL.nil ?_
  refine WX.keep [(4, _), (5, _)] ⟨rfl, rfl, trivial⟩ ?_
  refine WX.next ?_
  refine WC.ret ?_
  refine WX.retE2 rfl rfl rfl ?_
  exact ⟨rfl, hU⟩
theorem Len_ok {w : World} {R : Nat → Prop} {t : Nat} {L : List Ls} (hT : IsT w R t L) :
    Ret Try.prog 13 #[.pointer (some ⟨t, 0, none⟩)] w fun u w' => u = .int .i64 (L.length : Int) ∧ Upd No w w' := by
  obtain ⟨A, c, V, G, H, hB, hO, hD, rfl, hRt, htl, hG, hH⟩ := hT
  refine enterRet (vs := [_]) (N := 10) Try.func13 rfl rfl rfl ?_
  have hU := Upd.refl No w
  refine WC.keep [(0, _)] ⟨rfl, trivial⟩ ?_
  refine WC.seq ?_
  refine WC.region ?_
  refine WL.val rfl rfl rfl rfl (r_assign rfl ev_c) ?_
  refine WL.nil ?_
  refine WX.keep [(0, _)] ⟨rfl, trivial⟩ ?_
  refine WX.next ?_
  refine WC.seq ?_
  refine WC.seq ?_
  refine WC.region ?_
  refine WL.val rfl rfl rfl rfl (r_move rfl (ev_t rfl)) ?_
  refine WL.val rfl rfl rfl rfl (r_eqlPtrNil rfl (ev_t rfl) ev_c ptr_25) ?_
  refine WL.nil ?_
  refine WX.keep [(0, _), (4, _)] ⟨rfl, rfl, trivial⟩ ?_
  refine WX.next ?_
  refine WC.cond rfl (ev_t rfl) (fun hc1 => ?_) (fun hc1 => ?_)
  · try (exfalso; first | (simp at hc1; done) | (simp only [decide_eq_true_eq, decide_eq_false_iff_not, Bool.not_eq_true', Bool.not_eq_false', Bool.not_eq_true, Bool.not_eq_false] at hc1; omega) | omega)
    all_goals
     try simp only [decide_eq_true_eq, decide_eq_false_iff_not, Bool.not_eq_true', Bool.not_eq_false', Bool.not_eq_true, Bool.not_eq_false, Option.isNone_none, Option.isNone_some, Option.isSome_none, Option.isSome_some, ne_eq, Decidable.not_not] at hc1
     refine WC.seq ?_
     refine WC.region ?_
     refine WL.val rfl rfl rfl rfl (r_assign rfl ev_c) ?_
     refine WL.nil ?_
     refine WX.keep [(2, _)] ⟨rfl, trivial⟩ ?_
     refine WX.next ?_
     refine WC.ret ?_
     refine WX.thenRet ?_
     refine WX.retE1 rfl rfl ?_
     exact ⟨by rw [List.length_map], hU⟩
  · try (exfalso; first | (simp at hc1; done) | (simp only [decide_eq_true_eq, decide_eq_false_iff_not, Bool.not_eq_true', Bool.not_eq_false', Bool.not_eq_true, Bool.not_eq_false] at hc1; omega) | omega)
    all_goals
     try simp only [decide_eq_true_eq, decide_eq_false_iff_not, Bool.not_eq_true', Bool.not_eq_false', Bool.not_eq_true, Bool.not_eq_false, Option.isNone_none, Option.isNone_some, Option.isSome_none, Option.isSome_some, ne_eq, Decidable.not_not] at hc1
     refine WC.skip ?_
     refine WX.next ?_
     refine WC.seq ?_
     refine WC.region ?_
     refine WL.val rfl rfl rfl rfl (r_move rfl (ev_t rfl)) ?_
     refine WL.val rfl rfl rfl rfl (r_nilCheck rfl (ev_t rfl)) ?_
     first | refine WL.val rfl rfl rfl rfl (r_field0 rfl (ev_t rfl) fld_55_0) ?_ | refine WL.val rfl rfl rfl rfl (r_fieldAt rfl (ev_t rfl) fld_55_0) ?_
     refine WL.val rfl rfl rfl rfl (r_load rfl (ev_t rfl) flat_53 (Blk.cell hB rfl)) ?_
     refine WL.val rfl rfl rfl rfl (r_lenSlice (ts := #[]) rfl (ev_t rfl) elem_53) ?_
     refine WL.val rfl rfl rfl rfl (r_assign rfl (ev_t rfl)) ?_
     refine WL.nil ?_
     refine WX.keep [(2, _)] ⟨rfl, trivial⟩ ?_
     refine WX.next ?_
     refine WC.ret ?_
     refine WX.retE1 rfl rfl ?_
     exact ⟨by rw [List.length_map], hU⟩
set_option maxHeartbeats 1000000 in
theorem Ask_ok {w : World} {R : Nat → Prop} {t : Nat} {L : List Ls} {id num : Nat} (hT : IsT w R t L) (hL : TOK L) (hid : id < 18446744073709551616) (hnum : num < 18446744073709551616) :
    Ret Try.prog 12 #[.pointer (some ⟨t, 0, none⟩), .int .u64 (id : Int), .int .u64 (num : Int)] w fun u w' => ∃ v, u = .tuple #[v, .int .i64 ((askS L id num).2 : Int)] ∧ Own w' (New w w') 5 1 v (askS L id num).1.length ((askS L id num).1.map U8) ∧ Upd No w w' := by
  have hT' := hT
  obtain ⟨A, c, V, G, H, hB, hO, hD, rfl, hRt, htl, hG, hH⟩ := hT'
  have hm := hL.most
  simp only [lsOf, List.length_map] at hm
  have hr := hO.rd (by omega)
  obtain ⟨i, hi⟩ : ∃ i, lbI (lsOf V) id = i := ⟨_, rfl⟩
  have hat : isAt (lsOf V) id = true → ∃ r, V[i]? = some r ∧ r.x.id = id := fun h => by
    unfold isAt at h
    rw [hi, List.getElem?_map] at h
    cases hg : V[i]? with
    | none => rw [hg] at h; cases h
    | some r => rw [hg] at h; exact ⟨r, rfl, by simpa using h⟩
  have hask : ¬ (id = 0 ∨ num = 0) → ∀ r, isAt (lsOf V) id = true → V[i]? = some r → askS (lsOf V) id num = if r.x.num < num then ([], 6) else if num < r.x.num then ([], 16) else (r.x.data, 0) := fun h0 r h1 h2 => by
    unfold askS
    rw [if_neg h0, if_pos h1, hi, List.getElem?_map, h2]
    rfl
  have hno : ¬ (id = 0 ∨ num = 0) → ¬ isAt (lsOf V) id = true → askS (lsOf V) id num = if 64 ≤ V.length then ([], 2) else ([], 6) := fun h0 h1 => by
    unfold askS
    rw [if_neg h0, if_neg h1, List.length_map]
  refine enterRet (vs := [_, _, _]) (N := 72) Try.func12 rfl rfl rfl ?_
  have hU := Upd.refl No w
  refine WC.keep [(0, _), (1, _), (2, _)] ⟨rfl, rfl, rfl, trivial⟩ ?_
  refine WC.seq ?_
  refine WC.region ?_
  refine WL.val rfl rfl rfl rfl (r_assign rfl ev_c) ?_
  refine WL.val rfl rfl rfl rfl (r_assign rfl ev_c) ?_
  refine WL.nil ?_
  refine WX.keep [(0, _), (1, _), (2, _)] ⟨rfl, rfl, rfl, trivial⟩ ?_
  refine WX.next ?_
  refine WC.seq ?_
  refine WC.block ?_
  refine WC.seq ?_
  refine WC.region ?_
  refine WL.val rfl rfl rfl rfl (r_move rfl (ev_t rfl)) ?_
  refine WL.val rfl rfl rfl rfl (r_eqlPtrNil rfl (ev_t rfl) ev_c ptr_25) ?_
  refine WL.val rfl rfl rfl rfl (r_assign rfl (ev_t rfl)) ?_
  refine WL.nil ?_
  refine WX.keep [(0, _), (1, _), (2, _), (10, _)] ⟨rfl, rfl, rfl, rfl, trivial⟩ ?_
  refine WX.next ?_
  refine WC.cond rfl (ev_t rfl) (fun hc1 => ?_) (fun hc1 => ?_)
  · try (exfalso; first | (simp at hc1; done) | (simp only [decide_eq_true_eq, decide_eq_false_iff_not, Bool.not_eq_true', Bool.not_eq_false', Bool.not_eq_true, Bool.not_eq_false] at hc1; omega) | omega)
    all_goals
     try simp only [decide_eq_true_eq, decide_eq_false_iff_not, Bool.not_eq_true', Bool.not_eq_false', Bool.not_eq_true, Bool.not_eq_false, Option.isNone_none, Option.isNone_some, Option.isSome_none, Option.isSome_some, ne_eq, Decidable.not_not] at hc1
     refine WC.seq ?_
     refine WC.region ?_
     refine WL.val rfl rfl rfl rfl (r_assign rfl ev_c) ?_
     refine WL.val rfl rfl rfl rfl (r_assign rfl ev_c) ?_
     refine WL.nil ?_
     refine WX.keep [(6, _), (7, _)] ⟨rfl, rfl, trivial⟩ ?_
     refine WX.next ?_
     refine WC.ret ?_
     refine WX.blockRet ?_
     refine WX.thenRet ?_
     refine WX.retE2 rfl rfl rfl ?_
     fail
  · try (exfalso; first | (simp at hc1; done) | (simp only [decide_eq_true_eq, decide_eq_false_iff_not, Bool.not_eq_true', Bool.not_eq_false', Bool.not_eq_true, Bool.not_eq_false] at hc1; omega) | omega)
    all_goals
     try simp only [decide_eq_true_eq, decide_eq_false_iff_not, Bool.not_eq_true', Bool.not_eq_false', Bool.not_eq_true, Bool.not_eq_false, Option.isNone_none, Option.isNone_some, Option.isSome_none, Option.isSome_some, ne_eq, Decidable.not_not] at hc1
     refine WC.seq ?_
     refine WC.region ?_
     refine WL.val rfl rfl rfl rfl (r_move rfl (ev_t rfl)) ?_
     refine WL.val rfl rfl rfl rfl (r_eql rfl (ev_t rfl) ev_c) ?_
     refine WL.val rfl rfl rfl rfl (r_move rfl (ev_t rfl)) ?_
     refine WL.cases 16 rfl (fun hb3_2 => ?_) (fun hb3_2 => ?_)
     · try (exfalso; first | (simp at hb3_2; done) | (simp only [decide_eq_true_eq, decide_eq_false_iff_not, Bool.not_eq_true', Bool.not_eq_false', Bool.not_eq_true, Bool.not_eq_false] at hb3_2; omega) | omega)
       all_goals
        try simp only [decide_eq_true_eq, decide_eq_false_iff_not, Bool.not_eq_true', Bool.not_eq_false', Bool.not_eq_true, Bool.not_eq_false, Option.isNone_none, Option.isNone_some, Option.isSome_none, Option.isSome_some, ne_eq, Decidable.not_not] at hb3_2
        refine WL.skip rfl rfl rfl ?_
        refine WL.skip rfl rfl rfl ?_
        refine WL.val rfl rfl rfl rfl (r_pickT rfl (ev_t rfl) ev_c) ?_
        refine WL.val rfl rfl rfl rfl (r_assign rfl (ev_t rfl)) ?_
        refine WL.nil ?_
        refine WX.keep [(0, _), (1, _), (2, _), (13, _)] ⟨rfl, rfl, rfl, rfl, trivial⟩ ?_
        refine WX.next ?_
        refine WC.cond_true rfl (ev_t rfl) ?_
        refine WC.seq ?_
        refine WC.region ?_
        refine WL.val rfl rfl rfl rfl (r_assign rfl ev_c) ?_
        refine WL.val rfl rfl rfl rfl (r_assign rfl ev_c) ?_
        refine WL.nil ?_
        refine WX.keep [(6, _), (7, _)] ⟨rfl, rfl, trivial⟩ ?_
        refine WX.next ?_
        refine WC.ret ?_
        refine WX.blockRet ?_
        refine WX.thenRet ?_
        refine WX.retE2 rfl rfl rfl ?_
        have e : askS (lsOf V) id num = ([], 1) := if_pos (by omega)
        rw [e]
        exact ⟨_, rfl, Own.nil _ _ _ _, hU⟩
     · try (exfalso; first | (simp at hb3_2; done) | (simp only [decide_eq_true_eq, decide_eq_false_iff_not, Bool.not_eq_true', Bool.not_eq_false', Bool.not_eq_true, Bool.not_eq_false] at hb3_2; omega) | omega)
       all_goals
        try simp only [decide_eq_true_eq, decide_eq_false_iff_not, Bool.not_eq_true', Bool.not_eq_false', Bool.not_eq_true, Bool.not_eq_false, Option.isNone_none, Option.isNone_some, Option.isSome_none, Option.isSome_some, ne_eq, Decidable.not_not] at hb3_2
        refine WL.val rfl rfl rfl rfl (r_move rfl (ev_t rfl)) ?_
        refine WL.val rfl rfl rfl rfl (r_eql rfl (ev_t rfl) ev_c) ?_
        refine WL.val rfl rfl rfl rfl (r_pickF rfl (ev_t rfl) (ev_t rfl)) ?_
        refine WL.val rfl rfl rfl rfl (r_assign rfl (ev_t rfl)) ?_
        refine WL.nil ?_
        refine WX.keep [(0, _), (1, _), (2, _), (13, _)] ⟨rfl, rfl, rfl, rfl, trivial⟩ ?_
        refine WX.next ?_
        refine WC.cond rfl (ev_t rfl) (fun hc3 => ?_) (fun hc3 => ?_)
        · try (exfalso; first | (simp at hc3; done) | (simp only [decide_eq_true_eq, decide_eq_false_iff_not, Bool.not_eq_true', Bool.not_eq_false', Bool.not_eq_true, Bool.not_eq_false] at hc3; omega) | omega)
          all_goals
           try simp only [decide_eq_true_eq, decide_eq_false_iff_not, Bool.not_eq_true', Bool.not_eq_false', Bool.not_eq_true, Bool.not_eq_false, Option.isNone_none, Option.isNone_some, Option.isSome_none, Option.isSome_some, ne_eq, Decidable.not_not] at hc3
           refine WC.seq ?_
           refine WC.region ?_
           refine WL.val rfl rfl rfl rfl (r_assign rfl ev_c) ?_
           refine WL.val rfl rfl rfl rfl (r_assign rfl ev_c) ?_
           refine WL.nil ?_
           refine WX.keep [(6, _), (7, _)] ⟨rfl, rfl, trivial⟩ ?_
           refine WX.next ?_
           refine WC.ret ?_
           refine WX.blockRet ?_
           refine WX.thenRet ?_
           refine WX.retE2 rfl rfl rfl ?_
           have e : askS (lsOf V) id num = ([], 1) := if_pos (by omega)
           rw [e]
           exact ⟨_, rfl, Own.nil _ _ _ _, hU⟩
        · try (exfalso; first | (simp at hc3; done) | (simp only [decide_eq_true_eq, decide_eq_false_iff_not, Bool.not_eq_true', Bool.not_eq_false', Bool.not_eq_true, Bool.not_eq_false] at hc3; omega) | omega)
          all_goals
           try simp only [decide_eq_true_eq, decide_eq_false_iff_not, Bool.not_eq_true', Bool.not_eq_false', Bool.not_eq_true, Bool.not_eq_false, Option.isNone_none, Option.isNone_some, Option.isSome_none, Option.isSome_some, ne_eq, Decidable.not_not] at hc3
           refine WC.skip ?_
           refine WX.blockNormal ?_
           refine WX.next ?_
           refine WC.seq ?_
           have h0 : ¬ (id = 0 ∨ num = 0) := by omega
           refine WC.region ?_
           refine WL.val rfl rfl rfl rfl (r_move rfl (ev_t rfl)) ?_
           refine WL.val rfl rfl rfl rfl (r_move rfl (ev_t rfl)) ?_
           refine WL.cons (SO.call (find_ok hT hL hid) rfl body_21 ⟨(ev_t rfl), (ev_t rfl), trivial⟩ rfl rfl rfl rfl ?_)
           rintro v w1 ⟨rfl, hu1⟩
           rw [hi]
           have hs1 := hu1.size
           replace hU := hU.transA hu1
           refine WL.val rfl rfl rfl rfl (r_move rfl (ev_t rfl)) ?_
           refine WL.val rfl rfl rfl rfl (r_extract rfl (ev_t rfl) rfl) ?_
           refine WL.val rfl rfl rfl rfl (r_extract rfl (ev_t rfl) rfl) ?_
           refine WL.val rfl rfl rfl rfl (r_assign rfl (ev_t rfl)) ?_
           refine WL.val rfl rfl rfl rfl (r_assign rfl (ev_t rfl)) ?_
           refine WL.nil ?_
           refine WX.keep [(0, _), (2, _), (8, _), (9, _)] ⟨rfl, rfl, rfl, rfl, trivial⟩ ?_
           refine WX.next ?_
           refine WC.seq ?_
           refine WC.block ?_
           refine WC.seq ?_
           refine WC.region ?_
           refine WL.val rfl rfl rfl rfl (r_move rfl (ev_t rfl)) ?_
           refine WL.val rfl rfl rfl rfl (r_not rfl (ev_t rfl)) ?_
           refine WL.val rfl rfl rfl rfl (r_move rfl (ev_t rfl)) ?_
           refine WL.cases 29 rfl (fun hb6_2 => ?_) (fun hb6_2 => ?_)
           · try (exfalso; first | (simp at hb6_2; done) | (simp only [decide_eq_true_eq, decide_eq_false_iff_not, Bool.not_eq_true', Bool.not_eq_false', Bool.not_eq_true, Bool.not_eq_false] at hb6_2; omega) | omega)
             all_goals
              try simp only [decide_eq_true_eq, decide_eq_false_iff_not, Bool.not_eq_true', Bool.not_eq_false', Bool.not_eq_true, Bool.not_eq_false, Option.isNone_none, Option.isNone_some, Option.isSome_none, Option.isSome_some, ne_eq, Decidable.not_not] at hb6_2
              refine WL.val rfl rfl rfl rfl (r_move rfl (ev_t rfl)) ?_
              refine WL.val rfl rfl rfl rfl (r_nilCheck rfl (ev_t rfl)) ?_
              first | refine WL.val rfl rfl rfl rfl (r_field0 rfl (ev_t rfl) fld_55_0) ?_ | refine WL.val rfl rfl rfl rfl (r_fieldAt rfl (ev_t rfl) fld_55_0) ?_
              refine WL.val rfl rfl rfl rfl (r_load rfl (ev_t rfl) flat_53 (Blk.cell (hB.upd hU (fun h => h)) rfl)) ?_
              refine WL.val rfl rfl rfl rfl (r_lenSlice (ts := #[]) rfl (ev_t rfl) elem_53) ?_
              refine WL.val rfl rfl rfl rfl (r_geq rfl (ev_t rfl) ev_c) ?_
              refine WL.val rfl rfl rfl rfl (r_pickT rfl (ev_t rfl) (ev_t rfl)) ?_
              refine WL.val rfl rfl rfl rfl (r_assign rfl (ev_t rfl)) ?_
              refine WL.nil ?_
              refine WX.keep [(0, _), (2, _), (8, _), (9, _), (26, _)] ⟨rfl, rfl, rfl, rfl, rfl, trivial⟩ ?_
              refine WX.next ?_
              refine WC.cond rfl (ev_t rfl) (fun hc6 => ?_) (fun hc6 => ?_)
              · try (exfalso; first | (simp at hc6; done) | (simp only [decide_eq_true_eq, decide_eq_false_iff_not, Bool.not_eq_true', Bool.not_eq_false', Bool.not_eq_true, Bool.not_eq_false] at hc6; omega) | omega)
                all_goals
                 try simp only [decide_eq_true_eq, decide_eq_false_iff_not, Bool.not_eq_true', Bool.not_eq_false', Bool.not_eq_true, Bool.not_eq_false, Option.isNone_none, Option.isNone_some, Option.isSome_none, Option.isSome_some, ne_eq, Decidable.not_not] at hc6
                 refine WC.seq ?_
                 refine WC.region ?_
                 refine WL.val rfl rfl rfl rfl (r_assign rfl ev_c) ?_
                 refine WL.val rfl rfl rfl rfl (r_assign rfl ev_c) ?_
                 refine WL.nil ?_
                 refine WX.keep [(6, _), (7, _)] ⟨rfl, rfl, trivial⟩ ?_
                 refine WX.next ?_
                 refine WC.ret ?_
                 refine WX.blockRet ?_
                 refine WX.thenRet ?_
                 refine WX.retE2 rfl rfl rfl ?_
                 have e : askS (lsOf V) id num = ([], 2) := by rw [hno h0 (by simp_all), if_pos (by omega)]
                 rw [e]
                 exact ⟨_, rfl, Own.nil _ _ _ _, hU⟩
              · try (exfalso; first | (simp at hc6; done) | (simp only [decide_eq_true_eq, decide_eq_false_iff_not, Bool.not_eq_true', Bool.not_eq_false', Bool.not_eq_true, Bool.not_eq_false] at hc6; omega) | omega)
                all_goals
                 try simp only [decide_eq_true_eq, decide_eq_false_iff_not, Bool.not_eq_true', Bool.not_eq_false', Bool.not_eq_true, Bool.not_eq_false, Option.isNone_none, Option.isNone_some, Option.isSome_none, Option.isSome_some, ne_eq, Decidable.not_not] at hc6
                 refine WC.seq ?_
                 refine WC.region ?_
                 refine WL.val rfl rfl rfl rfl (r_move rfl (ev_t rfl)) ?_
                 refine WL.val rfl rfl rfl rfl (r_not rfl (ev_t rfl)) ?_
                 refine WL.val rfl rfl rfl rfl (r_move rfl (ev_t rfl)) ?_
                 refine WL.cases 40 rfl (fun hb8_2 => ?_) (fun hb8_2 => ?_)
                 · try (exfalso; first | (simp at hb8_2; done) | (simp only [decide_eq_true_eq, decide_eq_false_iff_not, Bool.not_eq_true', Bool.not_eq_false', Bool.not_eq_true, Bool.not_eq_false] at hb8_2; omega) | omega)
                   all_goals
                    try simp only [decide_eq_true_eq, decide_eq_false_iff_not, Bool.not_eq_true', Bool.not_eq_false', Bool.not_eq_true, Bool.not_eq_false, Option.isNone_none, Option.isNone_some, Option.isSome_none, Option.isSome_some, ne_eq, Decidable.not_not] at hb8_2
                    refine WL.skip rfl rfl rfl ?_
                    refine WL.skip rfl rfl rfl ?_
                    refine WL.skip rfl rfl rfl ?_
                    refine WL.skip rfl rfl rfl ?_
                    refine WL.skip rfl rfl rfl ?_
                    refine WL.skip rfl rfl rfl ?_
                    refine WL.skip rfl rfl rfl ?_
                    refine WL.skip rfl rfl rfl ?_
                    refine WL.skip rfl rfl rfl ?_
                    refine WL.skip rfl rfl rfl ?_
                    refine WL.val rfl rfl rfl rfl (r_pickT rfl (ev_t rfl) ev_c) ?_
                    refine WL.val rfl rfl rfl rfl (r_assign rfl (ev_t rfl)) ?_
                    refine WL.nil ?_
                    refine WX.keep [(0, _), (2, _), (8, _), (37, _)] ⟨rfl, rfl, rfl, rfl, trivial⟩ ?_
                    refine WX.next ?_
                    refine WC.cond_true rfl (ev_t rfl) ?_
                    refine WC.seq ?_
                    refine WC.region ?_
                    refine WL.val rfl rfl rfl rfl (r_assign rfl ev_c) ?_
                    refine WL.val rfl rfl rfl rfl (r_assign rfl ev_c) ?_
                    refine WL.nil ?_
                    refine WX.keep [(6, _), (7, _)] ⟨rfl, rfl, trivial⟩ ?_
                    refine WX.next ?_
                    refine WC.ret ?_
                    refine WX.blockRet ?_
                    refine WX.thenRet ?_
                    refine WX.retE2 rfl rfl rfl ?_
                    first | (have e : askS (lsOf V) id num = ([], 6) := by rw [hask, if_pos (by omega)]); rw [e]; exact ⟨_, rfl, Own.nil _ _ _ _, hU⟩ | (have e : askS (lsOf V) id num = ([], 6) := by rw [hno h0 (by simp_all), if_neg (by omega)]); rw [e]; exact ⟨_, rfl, Own.nil _ _ _ _, hU⟩ | (exfalso; simp_all; done)
                 · try (exfalso; first | (simp at hb8_2; done) | (simp only [decide_eq_true_eq, decide_eq_false_iff_not, Bool.not_eq_true', Bool.not_eq_false', Bool.not_eq_true, Bool.not_eq_false] at hb8_2; omega) | omega)
                   all_goals
                    try simp only [decide_eq_true_eq, decide_eq_false_iff_not, Bool.not_eq_true', Bool.not_eq_false', Bool.not_eq_true, Bool.not_eq_false, Option.isNone_none, Option.isNone_some, Option.isSome_none, Option.isSome_some, ne_eq, Decidable.not_not] at hb8_2
                    obtain ⟨r, hg, hrid⟩ := hat (by simp_all)
                    have hask := hask h0 r (by simp_all) hg
                    have hlt := (List.getElem?_eq_some_iff.1 hg).1
                    obtain ⟨b, off, rfl, _⟩ := hr.open (by omega)
                    have hcell := flatMap_get LsV.cells_len hg
                    have hrD := hD r (List.mem_of_getElem? hg)
                    refine WL.val rfl rfl rfl rfl (r_move rfl (ev_t rfl)) ?_
                    refine WL.val rfl rfl rfl rfl (r_nilCheck rfl (ev_t rfl)) ?_
                    first | refine WL.val rfl rfl rfl rfl (r_field0 rfl (ev_t rfl) fld_55_0) ?_ | refine WL.val rfl rfl rfl rfl (r_fieldAt rfl (ev_t rfl) fld_55_0) ?_
                    refine WL.val rfl rfl rfl rfl (r_load rfl (ev_t rfl) flat_53 (Blk.cell (hB.upd hU (fun h => h)) rfl)) ?_
                    refine WL.val rfl rfl rfl rfl (r_move rfl (ev_t rfl)) ?_
                    refine WL.val rfl rfl rfl rfl (r_indexAddr rfl (ev_t rfl) (ev_t rfl) elem_53 size_58 (by omega) (by omega)) ?_
                    first | refine WL.val rfl rfl rfl rfl (r_field0 rfl (ev_t rfl) fld_58_1) ?_ | refine WL.val rfl rfl rfl rfl (r_fieldAt rfl (ev_t rfl) fld_58_1) ?_
                    refine WL.val rfl rfl rfl rfl (r_load rfl (ev_t rfl) flat_27 (Rd.cell (hr.upd hU (fun _ _ _ h => h)) (by omega) (hcell 1 _ rfl))) ?_
                    refine WL.val rfl rfl rfl rfl (r_move rfl (ev_t rfl)) ?_
                    refine WL.val rfl rfl rfl rfl (r_lss rfl (ev_t rfl) (ev_t rfl)) ?_
                    refine WL.val rfl rfl rfl rfl (r_pickF rfl (ev_t rfl) (ev_t rfl)) ?_
                    refine WL.val rfl rfl rfl rfl (r_assign rfl (ev_t rfl)) ?_
                    refine WL.nil ?_
                    refine WX.keep [(0, _), (2, _), (8, _), (37, _)] ⟨rfl, rfl, rfl, rfl, trivial⟩ ?_
                    refine WX.next ?_
                    refine WC.cond rfl (ev_t rfl) (fun hc8 => ?_) (fun hc8 => ?_)
                    · try (exfalso; first | (simp at hc8; done) | (simp only [decide_eq_true_eq, decide_eq_false_iff_not, Bool.not_eq_true', Bool.not_eq_false', Bool.not_eq_true, Bool.not_eq_false] at hc8; omega) | omega)
                      all_goals
                       try simp only [decide_eq_true_eq, decide_eq_false_iff_not, Bool.not_eq_true', Bool.not_eq_false', Bool.not_eq_true, Bool.not_eq_false, Option.isNone_none, Option.isNone_some, Option.isSome_none, Option.isSome_some, ne_eq, Decidable.not_not] at hc8
                       refine WC.seq ?_
                       refine WC.region ?_
                       refine WL.val rfl rfl rfl rfl (r_assign rfl ev_c) ?_
                       refine WL.val rfl rfl rfl rfl (r_assign rfl ev_c) ?_
                       refine WL.nil ?_
                       refine WX.keep [(6, _), (7, _)] ⟨rfl, rfl, trivial⟩ ?_
                       refine WX.next ?_
                       refine WC.ret ?_
                       refine WX.blockRet ?_
                       refine WX.thenRet ?_
                       refine WX.retE2 rfl rfl rfl ?_
                       first | (have e : askS (lsOf V) id num = ([], 6) := by rw [hask, if_pos (by omega)]); rw [e]; exact ⟨_, rfl, Own.nil _ _ _ _, hU⟩ | (have e : askS (lsOf V) id num = ([], 6) := by rw [hno h0 (by simp_all), if_neg (by omega)]); rw [e]; exact ⟨_, rfl, Own.nil _ _ _ _, hU⟩ | (exfalso; simp_all; done)
                    · try (exfalso; first | (simp at hc8; done) | (simp only [decide_eq_true_eq, decide_eq_false_iff_not, Bool.not_eq_true', Bool.not_eq_false', Bool.not_eq_true, Bool.not_eq_false] at hc8; omega) | omega)
                      all_goals
                       try simp only [decide_eq_true_eq, decide_eq_false_iff_not, Bool.not_eq_true', Bool.not_eq_false', Bool.not_eq_true, Bool.not_eq_false, Option.isNone_none, Option.isNone_some, Option.isSome_none, Option.isSome_some, ne_eq, Decidable.not_not] at hc8
                       refine WC.seq ?_
                       refine WC.region ?_
                       refine WL.val rfl rfl rfl rfl (r_move rfl (ev_t rfl)) ?_
                       refine WL.val rfl rfl rfl rfl (r_nilCheck rfl (ev_t rfl)) ?_
                       first | refine WL.val rfl rfl rfl rfl (r_field0 rfl (ev_t rfl) fld_55_0) ?_ | refine WL.val rfl rfl rfl rfl (r_fieldAt rfl (ev_t rfl) fld_55_0) ?_
                       refine WL.val rfl rfl rfl rfl (r_load rfl (ev_t rfl) flat_53 (Blk.cell (hB.upd hU (fun h => h)) rfl)) ?_
                       refine WL.val rfl rfl rfl rfl (r_move rfl (ev_t rfl)) ?_
                       refine WL.val rfl rfl rfl rfl (r_indexAddr rfl (ev_t rfl) (ev_t rfl) elem_53 size_58 (by omega) (by omega)) ?_
                       first | refine WL.val rfl rfl rfl rfl (r_field0 rfl (ev_t rfl) fld_58_1) ?_ | refine WL.val rfl rfl rfl rfl (r_fieldAt rfl (ev_t rfl) fld_58_1) ?_
                       refine WL.val rfl rfl rfl rfl (r_load rfl (ev_t rfl) flat_27 (Rd.cell (hr.upd hU (fun _ _ _ h => h)) (by omega) (hcell 1 _ rfl))) ?_
                       refine WL.val rfl rfl rfl rfl (r_move rfl (ev_t rfl)) ?_
                       refine WL.val rfl rfl rfl rfl (r_gtr rfl (ev_t rfl) (ev_t rfl)) ?_
                       refine WL.val rfl rfl rfl rfl (r_assign rfl (ev_t rfl)) ?_
                       refine WL.nil ?_
                       refine WX.keep [(0, _), (8, _), (52, _)] ⟨rfl, rfl, rfl, trivial⟩ ?_
                       refine WX.next ?_
                       refine WC.cond rfl (ev_t rfl) (fun hc10 => ?_) (fun hc10 => ?_)
                       · try (exfalso; first | (simp at hc10; done) | (simp only [decide_eq_true_eq, decide_eq_false_iff_not, Bool.not_eq_true', Bool.not_eq_false', Bool.not_eq_true, Bool.not_eq_false] at hc10; omega) | omega)
                         all_goals
                          try simp only [decide_eq_true_eq, decide_eq_false_iff_not, Bool.not_eq_true', Bool.not_eq_false', Bool.not_eq_true, Bool.not_eq_false, Option.isNone_none, Option.isNone_some, Option.isSome_none, Option.isSome_some, ne_eq, Decidable.not_not] at hc10
                          refine WC.seq ?_
                          refine WC.region ?_
                          refine WL.val rfl rfl rfl rfl (r_assign rfl ev_c) ?_
                          refine WL.val rfl rfl rfl rfl (r_assign rfl ev_c) ?_
                          refine WL.nil ?_
                          refine WX.keep [(6, _), (7, _)] ⟨rfl, rfl, trivial⟩ ?_
                          refine WX.next ?_
                          refine WC.ret ?_
                          refine WX.blockRet ?_
                          refine WX.thenRet ?_
                          refine WX.retE2 rfl rfl rfl ?_
                          have e : askS (lsOf V) id num = ([], 16) := by rw [hask, if_neg (by omega), if_pos (by omega)]
                          rw [e]
                          exact ⟨_, rfl, Own.nil _ _ _ _, hU⟩
                       · try (exfalso; first | (simp at hc10; done) | (simp only [decide_eq_true_eq, decide_eq_false_iff_not, Bool.not_eq_true', Bool.not_eq_false', Bool.not_eq_true, Bool.not_eq_false] at hc10; omega) | omega)
                         all_goals
                          try simp only [decide_eq_true_eq, decide_eq_false_iff_not, Bool.not_eq_true', Bool.not_eq_false', Bool.not_eq_true, Bool.not_eq_false, Option.isNone_none, Option.isNone_some, Option.isSome_none, Option.isSome_some, ne_eq, Decidable.not_not] at hc10
                          refine WC.skip ?_
                          refine WX.blockNormal ?_
                          refine WX.next ?_
                          refine WC.seq ?_
                          refine WC.region ?_
                          refine WL.val rfl rfl rfl rfl (r_move rfl (ev_t rfl)) ?_
                          refine WL.val rfl rfl rfl rfl (r_nilCheck rfl (ev_t rfl)) ?_
                          first | refine WL.val rfl rfl rfl rfl (r_field0 rfl (ev_t rfl) fld_55_0) ?_ | refine WL.val rfl rfl rfl rfl (r_fieldAt rfl (ev_t rfl) fld_55_0) ?_
                          refine WL.val rfl rfl rfl rfl (r_load rfl (ev_t rfl) flat_53 (Blk.cell (hB.upd hU (fun h => h)) rfl)) ?_
                          refine WL.val rfl rfl rfl rfl (r_move rfl (ev_t rfl)) ?_
                          refine WL.val rfl rfl rfl rfl (r_indexAddr rfl (ev_t rfl) (ev_t rfl) elem_53 size_58 (by omega) (by omega)) ?_
                          first | refine WL.val rfl rfl rfl rfl (r_field0 rfl (ev_t rfl) fld_58_2) ?_ | refine WL.val rfl rfl rfl rfl (r_fieldAt rfl (ev_t rfl) fld_58_2) ?_
                          refine WL.val rfl rfl rfl rfl (r_load rfl (ev_t rfl) flat_23 (Rd.cell (hr.upd hU (fun _ _ _ h => h)) (by omega) (hcell 2 _ rfl))) ?_
                          refine WL.cons (SO.call (clone_ok (l := r.x.data) (hrD.upd hU (fun _ _ _ h => h))) rfl body_20 ⟨(ev_t rfl), trivial⟩ rfl rfl rfl rfl ?_)
                          rintro v w2 ⟨hcl, hu2⟩
                          have hs2 := hu2.size
                          replace hU := hU.transA hu2
                          refine WL.val rfl rfl rfl rfl (r_assign rfl (ev_t rfl)) ?_
                          refine WL.val rfl rfl rfl rfl (r_assign rfl ev_c) ?_
                          refine WL.nil ?_
                          refine WX.keep [(6, _), (7, _)] ⟨rfl, rfl, trivial⟩ ?_
                          refine WX.next ?_
                          refine WC.ret ?_
                          refine WX.retE2 rfl rfl rfl ?_
                          have e : askS (lsOf V) id num = (r.x.data, 0) := by rw [hask, if_neg (by omega), if_neg (by omega)]
                          rw [e]
                          exact ⟨_, rfl, hcl.mono (fun k hk => ⟨by have := hk.1; omega, hk.2⟩), hU⟩
           · try (exfalso; first | (simp at hb6_2; done) | (simp only [decide_eq_true_eq, decide_eq_false_iff_not, Bool.not_eq_true', Bool.not_eq_false', Bool.not_eq_true, Bool.not_eq_false] at hb6_2; omega) | omega)
             all_goals
              try simp only [decide_eq_true_eq, decide_eq_false_iff_not, Bool.not_eq_true', Bool.not_eq_false', Bool.not_eq_true, Bool.not_eq_false, Option.isNone_none, Option.isNone_some, Option.isSome_none, Option.isSome_some, ne_eq, Decidable.not_not] at hb6_2
              refine WL.skip rfl rfl rfl ?_
              refine WL.skip rfl rfl rfl ?_
              refine WL.skip rfl rfl rfl ?_
              refine WL.skip rfl rfl rfl ?_
              refine WL.skip rfl rfl rfl ?_
              refine WL.skip rfl rfl rfl ?_
              refine WL.val rfl rfl rfl rfl (r_pickF rfl (ev_t rfl) ev_c) ?_
              refine WL.val rfl rfl rfl rfl (r_assign rfl (ev_t rfl)) ?_
              refine WL.nil ?_
              refine WX.keep [(0, _), (2, _), (8, _), (9, _), (26, _)] ⟨rfl, rfl, rfl, rfl, rfl, trivial⟩ ?_
              refine WX.next ?_
              refine WC.cond_false rfl (ev_t rfl) ?_
              refine WC.seq ?_
              refine WC.region ?_
              refine WL.val rfl rfl rfl rfl (r_move rfl (ev_t rfl)) ?_
              refine WL.val rfl rfl rfl rfl (r_not rfl (ev_t rfl)) ?_
              refine WL.val rfl rfl rfl rfl (r_move rfl (ev_t rfl)) ?_
              refine WL.cases 40 rfl (fun hb8_2 => ?_) (fun hb8_2 => ?_)
              · try (exfalso; first | (simp at hb8_2; done) | (simp only [decide_eq_true_eq, decide_eq_false_iff_not, Bool.not_eq_true', Bool.not_eq_false', Bool.not_eq_true, Bool.not_eq_false] at hb8_2; omega) | omega)
                all_goals
                 try simp only [decide_eq_true_eq, decide_eq_false_iff_not, Bool.not_eq_true', Bool.not_eq_false', Bool.not_eq_true, Bool.not_eq_false, Option.isNone_none, Option.isNone_some, Option.isSome_none, Option.isSome_some, ne_eq, Decidable.not_not] at hb8_2
                 refine WL.skip rfl rfl rfl ?_
                 refine WL.skip rfl rfl rfl ?_
                 refine WL.skip rfl rfl rfl ?_
                 refine WL.skip rfl rfl rfl ?_
                 refine WL.skip rfl rfl rfl ?_
                 refine WL.skip rfl rfl rfl ?_
                 refine WL.skip rfl rfl rfl ?_
                 refine WL.skip rfl rfl rfl ?_
                 refine WL.skip rfl rfl rfl ?_
                 refine WL.skip rfl rfl rfl ?_
                 refine WL.val rfl rfl rfl rfl (r_pickT rfl (ev_t rfl) ev_c) ?_
                 refine WL.val rfl rfl rfl rfl (r_assign rfl (ev_t rfl)) ?_
                 refine WL.nil ?_
                 refine WX.keep [(0, _), (2, _), (8, _), (37, _)] ⟨rfl, rfl, rfl, rfl, trivial⟩ ?_
                 refine WX.next ?_
                 refine WC.cond_true rfl (ev_t rfl) ?_
                 refine WC.seq ?_
                 refine WC.region ?_
                 refine WL.val rfl rfl rfl rfl (r_assign rfl ev_c) ?_
                 refine WL.val rfl rfl rfl rfl (r_assign rfl ev_c) ?_
                 refine WL.nil ?_
                 refine WX.keep [(6, _), (7, _)] ⟨rfl, rfl, trivial⟩ ?_
                 refine WX.next ?_
                 refine WC.ret ?_
                 refine WX.blockRet ?_
                 refine WX.thenRet ?_
                 refine WX.retE2 rfl rfl rfl ?_
                 first | (have e : askS (lsOf V) id num = ([], 6) := by rw [hask, if_pos (by omega)]); rw [e]; exact ⟨_, rfl, Own.nil _ _ _ _, hU⟩ | (have e : askS (lsOf V) id num = ([], 6) := by rw [hno h0 (by simp_all), if_neg (by omega)]); rw [e]; exact ⟨_, rfl, Own.nil _ _ _ _, hU⟩ | (exfalso; simp_all; done)
              · try (exfalso; first | (simp at hb8_2; done) | (simp only [decide_eq_true_eq, decide_eq_false_iff_not, Bool.not_eq_true', Bool.not_eq_false', Bool.not_eq_true, Bool.not_eq_false] at hb8_2; omega) | omega)
                all_goals
                 try simp only [decide_eq_true_eq, decide_eq_false_iff_not, Bool.not_eq_true', Bool.not_eq_false', Bool.not_eq_true, Bool.not_eq_false, Option.isNone_none, Option.isNone_some, Option.isSome_none, Option.isSome_some, ne_eq, Decidable.not_not] at hb8_2
                 obtain ⟨r, hg, hrid⟩ := hat (by simp_all)
                 have hask := hask h0 r (by simp_all) hg
                 have hlt := (List.getElem?_eq_some_iff.1 hg).1
                 obtain ⟨b, off, rfl, _⟩ := hr.open (by omega)
                 have hcell := flatMap_get LsV.cells_len hg
                 have hrD := hD r (List.mem_of_getElem? hg)
                 refine WL.val rfl rfl rfl rfl (r_move rfl (ev_t rfl)) ?_
                 refine WL.val rfl rfl rfl rfl (r_nilCheck rfl (ev_t rfl)) ?_
                 first | refine WL.val rfl rfl rfl rfl (r_field0 rfl (ev_t rfl) fld_55_0) ?_ | refine WL.val rfl rfl rfl rfl (r_fieldAt rfl (ev_t rfl) fld_55_0) ?_
                 refine WL.val rfl rfl rfl rfl (r_load rfl (ev_t rfl) flat_53 (Blk.cell (hB.upd hU (fun h => h)) rfl)) ?_
                 refine WL.val rfl rfl rfl rfl (r_move rfl (ev_t rfl)) ?_
                 refine WL.val rfl rfl rfl rfl (r_indexAddr rfl (ev_t rfl) (ev_t rfl) elem_53 size_58 (by omega) (by omega)) ?_
                 first | refine WL.val rfl rfl rfl rfl (r_field0 rfl (ev_t rfl) fld_58_1) ?_ | refine WL.val rfl rfl rfl rfl (r_fieldAt rfl (ev_t rfl) fld_58_1) ?_
                 refine WL.val rfl rfl rfl rfl (r_load rfl (ev_t rfl) flat_27 (Rd.cell (hr.upd hU (fun _ _ _ h => h)) (by omega) (hcell 1 _ rfl))) ?_
                 refine WL.val rfl rfl rfl rfl (r_move rfl (ev_t rfl)) ?_
                 refine WL.val rfl rfl rfl rfl (r_lss rfl (ev_t rfl) (ev_t rfl)) ?_
                 refine WL.val rfl rfl rfl rfl (r_pickF rfl (ev_t rfl) (ev_t rfl)) ?_
                 refine WL.val rfl rfl rfl rfl (r_assign rfl (ev_t rfl)) ?_
                 refine WL.nil ?_
                 refine WX.keep [(0, _), (2, _), (8, _), (37, _)] ⟨rfl, rfl, rfl, rfl, trivial⟩ ?_
                 refine WX.next ?_
                 refine WC.cond rfl (ev_t rfl) (fun hc8 => ?_) (fun hc8 => ?_)
                 · try (exfalso; first | (simp at hc8; done) | (simp only [decide_eq_true_eq, decide_eq_false_iff_not, Bool.not_eq_true', Bool.not_eq_false', Bool.not_eq_true, Bool.not_eq_false] at hc8; omega) | omega)
                   all_goals
                    try simp only [decide_eq_true_eq, decide_eq_false_iff_not, Bool.not_eq_true', Bool.not_eq_false', Bool.not_eq_true, Bool.not_eq_false, Option.isNone_none, Option.isNone_some, Option.isSome_none, Option.isSome_some, ne_eq, Decidable.not_not] at hc8
                    refine WC.seq ?_
                    refine WC.region ?_
                    refine WL.val rfl rfl rfl rfl (r_assign rfl ev_c) ?_
                    refine WL.val rfl rfl rfl rfl (r_assign rfl ev_c) ?_
                    refine WL.nil ?_
                    refine WX.keep [(6, _), (7, _)] ⟨rfl, rfl, trivial⟩ ?_
                    refine WX.next ?_
                    refine WC.ret ?_
                    refine WX.blockRet ?_
                    refine WX.thenRet ?_
                    refine WX.retE2 rfl rfl rfl ?_
                    first | (have e : askS (lsOf V) id num = ([], 6) := by rw [hask, if_pos (by omega)]); rw [e]; exact ⟨_, rfl, Own.nil _ _ _ _, hU⟩ | (have e : askS (lsOf V) id num = ([], 6) := by rw [hno h0 (by simp_all), if_neg (by omega)]); rw [e]; exact ⟨_, rfl, Own.nil _ _ _ _, hU⟩ | (exfalso; simp_all; done)
                 · try (exfalso; first | (simp at hc8; done) | (simp only [decide_eq_true_eq, decide_eq_false_iff_not, Bool.not_eq_true', Bool.not_eq_false', Bool.not_eq_true, Bool.not_eq_false] at hc8; omega) | omega)
                   all_goals
                    try simp only [decide_eq_true_eq, decide_eq_false_iff_not, Bool.not_eq_true', Bool.not_eq_false', Bool.not_eq_true, Bool.not_eq_false, Option.isNone_none, Option.isNone_some, Option.isSome_none, Option.isSome_some, ne_eq, Decidable.not_not] at hc8
                    refine WC.seq ?_
                    refine WC.region ?_
                    refine WL.val rfl rfl rfl rfl (r_move rfl (ev_t rfl)) ?_
                    refine WL.val rfl rfl rfl rfl (r_nilCheck rfl (ev_t rfl)) ?_
                    first | refine WL.val rfl rfl rfl rfl (r_field0 rfl (ev_t rfl) fld_55_0) ?_ | refine WL.val rfl rfl rfl rfl (r_fieldAt rfl (ev_t rfl) fld_55_0) ?_
                    refine WL.val rfl rfl rfl rfl (r_load rfl (ev_t rfl) flat_53 (Blk.cell (hB.upd hU (fun h => h)) rfl)) ?_
                    refine WL.val rfl rfl rfl rfl (r_move rfl (ev_t rfl)) ?_
                    refine WL.val rfl rfl rfl rfl (r_indexAddr rfl (ev_t rfl) (ev_t rfl) elem_53 size_58 (by omega) (by omega)) ?_
                    first | refine WL.val rfl rfl rfl rfl (r_field0 rfl (ev_t rfl) fld_58_1) ?_ | refine WL.val rfl rfl rfl rfl (r_fieldAt rfl (ev_t rfl) fld_58_1) ?_
                    refine WL.val rfl rfl rfl rfl (r_load rfl (ev_t rfl) flat_27 (Rd.cell (hr.upd hU (fun _ _ _ h => h)) (by omega) (hcell 1 _ rfl))) ?_
                    refine WL.val rfl rfl rfl rfl (r_move rfl (ev_t rfl)) ?_
                    refine WL.val rfl rfl rfl rfl (r_gtr rfl (ev_t rfl) (ev_t rfl)) ?_
                    refine WL.val rfl rfl rfl rfl (r_assign rfl (ev_t rfl)) ?_
                    refine WL.nil ?_
                    refine WX.keep [(0, _), (8, _), (52, _)] ⟨rfl, rfl, rfl, trivial⟩ ?_
                    refine WX.next ?_
                    refine WC.cond rfl (ev_t rfl) (fun hc10 => ?_) (fun hc10 => ?_)
                    · try (exfalso; first | (simp at hc10; done) | (simp only [decide_eq_true_eq, decide_eq_false_iff_not, Bool.not_eq_true', Bool.not_eq_false', Bool.not_eq_true, Bool.not_eq_false] at hc10; omega) | omega)
                      all_goals
                       try simp only [decide_eq_true_eq, decide_eq_false_iff_not, Bool.not_eq_true', Bool.not_eq_false', Bool.not_eq_true, Bool.not_eq_false, Option.isNone_none, Option.isNone_some, Option.isSome_none, Option.isSome_some, ne_eq, Decidable.not_not] at hc10
                       refine WC.seq ?_
                       refine WC.region ?_
                       refine WL.val rfl rfl rfl rfl (r_assign rfl ev_c) ?_
                       refine WL.val rfl rfl rfl rfl (r_assign rfl ev_c) ?_
                       refine WL.nil ?_
                       refine WX.keep [(6, _), (7, _)] ⟨rfl, rfl, trivial⟩ ?_
                       refine WX.next ?_
                       refine WC.ret ?_
                       refine WX.blockRet ?_
                       refine WX.thenRet ?_
                       refine WX.retE2 rfl rfl rfl ?_
                       have e : askS (lsOf V) id num = ([], 16) := by rw [hask, if_neg (by omega), if_pos (by omega)]
                       rw [e]
                       exact ⟨_, rfl, Own.nil _ _ _ _, hU⟩
                    · try (exfalso; first | (simp at hc10; done) | (simp only [decide_eq_true_eq, decide_eq_false_iff_not, Bool.not_eq_true', Bool.not_eq_false', Bool.not_eq_true, Bool.not_eq_false] at hc10; omega) | omega)
                      all_goals
                       try simp only [decide_eq_true_eq, decide_eq_false_iff_not, Bool.not_eq_true', Bool.not_eq_false', Bool.not_eq_true, Bool.not_eq_false, Option.isNone_none, Option.isNone_some, Option.isSome_none, Option.isSome_some, ne_eq, Decidable.not_not] at hc10
                       refine WC.skip ?_
                       refine WX.blockNormal ?_
                       refine WX.next ?_
                       refine WC.seq ?_
                       refine WC.region ?_
                       refine WL.val rfl rfl rfl rfl (r_move rfl (ev_t rfl)) ?_
                       refine WL.val rfl rfl rfl rfl (r_nilCheck rfl (ev_t rfl)) ?_
                       first | refine WL.val rfl rfl rfl rfl (r_field0 rfl (ev_t rfl) fld_55_0) ?_ | refine WL.val rfl rfl rfl rfl (r_fieldAt rfl (ev_t rfl) fld_55_0) ?_
                       refine WL.val rfl rfl rfl rfl (r_load rfl (ev_t rfl) flat_53 (Blk.cell (hB.upd hU (fun h => h)) rfl)) ?_
                       refine WL.val rfl rfl rfl rfl (r_move rfl (ev_t rfl)) ?_
                       refine WL.val rfl rfl rfl rfl (r_indexAddr rfl (ev_t rfl) (ev_t rfl) elem_53 size_58 (by omega) (by omega)) ?_
                       first | refine WL.val rfl rfl rfl rfl (r_field0 rfl (ev_t rfl) fld_58_2) ?_ | refine WL.val rfl rfl rfl rfl (r_fieldAt rfl (ev_t rfl) fld_58_2) ?_
                       refine WL.val rfl rfl rfl rfl (r_load rfl (ev_t rfl) flat_23 (Rd.cell (hr.upd hU (fun _ _ _ h => h)) (by omega) (hcell 2 _ rfl))) ?_
                       refine WL.cons (SO.call (clone_ok (l := r.x.data) (hrD.upd hU (fun _ _ _ h => h))) rfl body_20 ⟨(ev_t rfl), trivial⟩ rfl rfl rfl rfl ?_)
                       rintro v w3 ⟨hcl, hu3⟩
                       have hs3 := hu3.size
                       replace hU := hU.transA hu3
                       refine WL.val rfl rfl rfl rfl (r_assign rfl (ev_t rfl)) ?_
                       refine WL.val rfl rfl rfl rfl (r_assign rfl ev_c) ?_
                       refine WL.nil ?_
                       refine WX.keep [(6, _), (7, _)] ⟨rfl, rfl, trivial⟩ ?_
                       refine WX.next ?_
                       refine WC.ret ?_
                       refine WX.retE2 rfl rfl rfl ?_
                       have e : askS (lsOf V) id num = (r.x.data, 0) := by rw [hask, if_neg (by omega), if_neg (by omega)]
                       rw [e]
                       exact ⟨_, rfl, hcl.mono (fun k hk => ⟨by have := hk.1; omega, hk.2⟩), hU⟩
end Go.Proofs.Ytipabhbnljadfaa

/-
  slices.Insert of a session.
-/
namespace Go.Proofs.Ytipabhbnljadfaa
open Go
set_option linter.unusedSimpArgs false
set_option linter.unusedVariables false

set_option maxHeartbeats 1000000 in
theorem insEnd_ok {w : World} {G K : Nat → Prop} {A B : Option Addr} {n c d : Nat} {xs : List Value} {r : LsV} (hO : Own w G 58 3 (.slice A n c) n xs) (hn : n ≤ 1000) (hv : Rd w K (.slice B 1 d) 1 3 r.cells) (h1 : r.v.oneCell' = true) :
    Ret Try.prog 22 #[.slice A n c, .int .i64 (n : Int), .slice B 1 d] w fun u w' => Own w' (Grow G w w') 58 3 u (n + 1) (xs ++ r.cells) ∧ Upd G w w' := by
  have hc : n ≤ c := by
    obtain ⟨A', c', e, h⟩ := hO.form
    simp only [Value.slice.injEq] at e
    omega
  refine enterRet (vs := [_, _, _]) (N := 95) Try.func22 rfl rfl rfl ?_
  have hU := Upd.refl G w
  refine WC.keep [(0, _), (1, _), (2, _)] ⟨rfl, rfl, rfl, trivial⟩ ?_
  refine WC.seq ?_
  refine WC.region ?_
  refine WL.val rfl rfl rfl rfl (r_assign rfl ev_c) ?_
  refine WL.nil ?_
  refine WX.keep [(0, _), (1, _), (2, _)] ⟨rfl, rfl, rfl, trivial⟩ ?_
  refine WX.next ?_
  refine WC.seq ?_
  refine WC.region ?_
  refine WL.val rfl rfl rfl rfl (r_move rfl (ev_t rfl)) ?_
  refine WL.val rfl rfl rfl rfl (r_move rfl (ev_t rfl)) ?_
  refine WL.val rfl rfl rfl rfl (r_slice (l := n) (h := n) rfl (ev_t rfl) elem_53 size_58 (bnd_some (ev_t rfl) (by omega)) bnd_none (by omega) (by omega) (by omega)) ?_
  refine WL.nil ?_
  refine WX.keep [(0, _), (1, _), (2, _)] ⟨rfl, rfl, rfl, trivial⟩ ?_
  refine WX.next ?_
  refine WC.seq ?_
  refine WC.region ?_
  refine WL.val rfl rfl rfl rfl (r_move rfl (ev_t rfl)) ?_
  refine WL.val rfl rfl rfl rfl (r_lenSlice (ts := #[]) rfl (ev_t rfl) elem_53) ?_
  refine WL.val rfl rfl rfl rfl (r_assign rfl (ev_t rfl)) ?_
  refine WL.nil ?_
  refine WX.keep [(0, _), (1, _), (2, _), (7, _)] ⟨rfl, rfl, rfl, rfl, trivial⟩ ?_
  refine WX.next ?_
  refine WC.seq ?_
  refine WC.seq ?_
  refine WC.region ?_
  refine WL.val rfl rfl rfl rfl (r_move rfl (ev_t rfl)) ?_
  refine WL.val rfl rfl rfl rfl (r_eql rfl (ev_t rfl) ev_c) ?_
  refine WL.nil ?_
  refine WX.keep [(0, _), (1, _), (2, _), (7, _), (16, _)] ⟨rfl, rfl, rfl, rfl, rfl, trivial⟩ ?_
  refine WX.next ?_
  refine WC.cond rfl (ev_t rfl) (fun hc3 => ?_) (fun hc3 => ?_)
  · try (exfalso; first | (simp at hc3; done) | (simp only [decide_eq_true_eq, decide_eq_false_iff_not, Bool.not_eq_true', Bool.not_eq_false', Bool.not_eq_true, Bool.not_eq_false] at hc3; omega) | omega)
    all_goals
     try simp only [decide_eq_true_eq, decide_eq_false_iff_not, Bool.not_eq_true', Bool.not_eq_false', Bool.not_eq_true, Bool.not_eq_false, Option.isNone_none, Option.isNone_some, Option.isSome_none, Option.isSome_some, ne_eq, Decidable.not_not] at hc3
     refine WC.seq ?_
     refine WC.region ?_
     refine WL.val rfl rfl rfl rfl (r_move rfl (ev_t rfl)) ?_
     refine WL.val rfl rfl rfl rfl (r_assign rfl (ev_t rfl)) ?_
     refine WL.nil ?_
     refine WX.keep [(6, _)] ⟨rfl, trivial⟩ ?_
     refine WX.next ?_
     refine WC.ret ?_
     refine WX.thenRet ?_
     refine WX.retE1 rfl rfl ?_
     fail
  · try (exfalso; first | (simp at hc3; done) | (simp only [decide_eq_true_eq, decide_eq_false_iff_not, Bool.not_eq_true', Bool.not_eq_false', Bool.not_eq_true, Bool.not_eq_false] at hc3; omega) | omega)
    all_goals
     try simp only [decide_eq_true_eq, decide_eq_false_iff_not, Bool.not_eq_true', Bool.not_eq_false', Bool.not_eq_true, Bool.not_eq_false, Option.isNone_none, Option.isNone_some, Option.isSome_none, Option.isSome_some, ne_eq, Decidable.not_not] at hc3
     refine WC.skip ?_
     refine WX.next ?_
     refine WC.seq ?_
     refine WC.region ?_
     refine WL.val rfl rfl rfl rfl (r_move rfl (ev_t rfl)) ?_
     refine WL.val rfl rfl rfl rfl (r_lenSlice (ts := #[]) rfl (ev_t rfl) elem_53) ?_
     refine WL.val rfl rfl rfl rfl (r_assign rfl (ev_t rfl)) ?_
     refine WL.nil ?_
     refine WX.keep [(0, _), (1, _), (2, _), (7, _), (8, _)] ⟨rfl, rfl, rfl, rfl, rfl, trivial⟩ ?_
     refine WX.next ?_
     refine WC.seq ?_
     refine WC.seq ?_
     refine WC.region ?_
     refine WL.val rfl rfl rfl rfl (r_move rfl (ev_t rfl)) ?_
     refine WL.val rfl rfl rfl rfl (r_move rfl (ev_t rfl)) ?_
     refine WL.val rfl rfl rfl rfl (r_eql rfl (ev_t rfl) (ev_t rfl)) ?_
     refine WL.nil ?_
     refine WX.keep [(0, _), (1, _), (2, _), (7, _), (8, _), (22, _)] ⟨rfl, rfl, rfl, rfl, rfl, rfl, trivial⟩ ?_
     refine WX.next ?_
     refine WC.cond rfl (ev_t rfl) (fun hc6 => ?_) (fun hc6 => ?_)
     · try (exfalso; first | (simp at hc6; done) | (simp only [decide_eq_true_eq, decide_eq_false_iff_not, Bool.not_eq_true', Bool.not_eq_false', Bool.not_eq_true, Bool.not_eq_false] at hc6; omega) | omega)
       all_goals
        try simp only [decide_eq_true_eq, decide_eq_false_iff_not, Bool.not_eq_true', Bool.not_eq_false', Bool.not_eq_true, Bool.not_eq_false, Option.isNone_none, Option.isNone_some, Option.isSome_none, Option.isSome_some, ne_eq, Decidable.not_not] at hc6
        refine WC.seq ?_
        refine WC.region ?_
        refine WL.val rfl rfl rfl rfl (r_move rfl (ev_t rfl)) ?_
        refine WL.val rfl rfl rfl rfl (r_move rfl (ev_t rfl)) ?_
        refine WL.cons (SO.append hO hv row_53 (by intro u hu; simp only [LsV.cells, lsC, List.mem_cons, List.not_mem_nil, or_false] at hu; rcases hu with rfl | rfl | rfl; rfl; rfl; exact h1) (le_maxLen (by omega)) (by omega) rfl (ev_t rfl) (ev_t rfl) rfl rfl rfl rfl ?_)
        intro v1 w1 ho hu1
        have hs1 := hu1.size
        replace hU := hU.transA hu1
        obtain ⟨A1, c1, rfl, hc1⟩ := Own.form ho
        refine WL.val rfl rfl rfl rfl (r_assign rfl (ev_t rfl)) ?_
        refine WL.nil ?_
        refine WX.keep [(6, _)] ⟨rfl, trivial⟩ ?_
        refine WX.next ?_
        refine WC.ret ?_
        refine WX.thenRet ?_
        refine WX.retE1 rfl rfl ?_
        exact ⟨ho, hU⟩
     · try (exfalso; first | (simp at hc6; done) | (simp only [decide_eq_true_eq, decide_eq_false_iff_not, Bool.not_eq_true', Bool.not_eq_false', Bool.not_eq_true, Bool.not_eq_false] at hc6; omega) | omega)
       all_goals
        try simp only [decide_eq_true_eq, decide_eq_false_iff_not, Bool.not_eq_true', Bool.not_eq_false', Bool.not_eq_true, Bool.not_eq_false, Option.isNone_none, Option.isNone_some, Option.isSome_none, Option.isSome_some, ne_eq, Decidable.not_not] at hc6
        refine WC.skip ?_
        refine WX.next ?_
        refine WC.seq ?_
        refine WC.seq ?_
        refine WC.region ?_
        refine WL.val rfl rfl rfl rfl (r_move rfl (ev_t rfl)) ?_
        refine WL.val rfl rfl rfl rfl (r_move rfl (ev_t rfl)) ?_
        first | refine WL.val rfl rfl rfl rfl (r_addN rfl (ev_t rfl) (ev_t rfl) (by simp only [inK]; omega)) ?_ | refine WL.val rfl rfl rfl rfl (r_add rfl (ev_t rfl) (ev_t rfl)) ?_
        refine WL.val rfl rfl rfl rfl (r_move rfl (ev_t rfl)) ?_
        fail -- 8.4 slices.go:147: ["Op.call", ["Call.mk", ["Callee.builtin", "Builtin.cap"], ["arr", ["Operand.tmp", "29"]], ["arr", "53"]]]

theorem flatMap_split {α : Type} {dec : α → List Value} {sz : Nat} (hd : ∀ a, (dec a).length = sz) (r : α) : ∀ {V : List α} {i : Nat}, i < V.length → ((V.set i r).flatMap dec) = (V.flatMap dec).take (i * sz) ++ dec r ++ (V.flatMap dec).drop (i * sz + sz)
  | [], i, h => by simp at h
  | a :: V, 0, _ => by
    simp only [List.set_cons_zero, List.flatMap_cons, Nat.zero_mul, List.take_zero, List.nil_append, Nat.zero_add]
    rw [List.drop_left' (hd a)]
  | a :: V, i + 1, h => by
    simp only [List.length_cons] at h
    have ih := flatMap_split hd r (V := V) (i := i) (by omega)
    have e1 : (i + 1) * sz = (dec a).length + i * sz := by rw [hd, Nat.add_mul, Nat.one_mul, Nat.add_comm]
    simp only [List.set_cons_succ, List.flatMap_cons]
    rw [ih, e1, List.take_length_add_append, Nat.add_assoc, List.drop_length_add_append]
    simp only [List.append_assoc]
theorem flat_len {α : Type} {dec : α → List Value} {sz : Nat} (hd : ∀ a, (dec a).length = sz) : ∀ V : List α, (V.flatMap dec).length = V.length * sz
  | [] => by simp
  | a :: V => by rw [List.flatMap_cons, List.length_append, hd, flat_len hd V, List.length_cons, Nat.add_mul, Nat.one_mul, Nat.add_comm]
/-- a row of which one element was written over -/
theorem row_set {cur : List Value} {V : List LsV} {r : LsV} {i : Nat} (hc : cur.take (V.length * 3) = V.flatMap LsV.cells) (hi : i < V.length) :
    (cur.take (i * 3) ++ r.cells ++ cur.drop (i * 3 + 3)).take (V.length * 3) = (V.set i r).flatMap LsV.cells := by
  have hl := flat_len LsV.cells_len V
  have e : cur = V.flatMap LsV.cells ++ cur.drop (V.length * 3) := by rw [← hc, List.take_append_drop]
  generalize cur.drop (V.length * 3) = rest at e
  subst e
  have h1 : (V.flatMap LsV.cells ++ rest).take (i * 3) = (V.flatMap LsV.cells).take (i * 3) := List.take_append_of_le_length (by rw [hl]; omega)
  have h2 : (V.flatMap LsV.cells ++ rest).drop (i * 3 + 3) = (V.flatMap LsV.cells).drop (i * 3 + 3) ++ rest := List.drop_append_of_le_length (by rw [hl]; omega)
  rw [flatMap_split LsV.cells_len r hi, h1, h2, ← List.append_assoc]
  rw [List.take_left' (by simp only [List.length_append, List.length_take, List.length_drop, hl, LsV.cells_len]; omega)]

set_option maxHeartbeats 2000000 in
theorem Put_ok {w : World} {R K : Nat → Prop} {t : Nat} {L : List Ls} {id num n : Nat} {pv : Value} {data : List UInt8} (hT : IsT w R t L) (hL : TOK L) (hid : id < 18446744073709551616) (hnum : num < 18446744073709551616)
    (hp : Rd w K pv n 1 (data.map U8)) (hend : (askS L id num).2 = 6 → isAt L id = true ∨ lbI L id = L.length) :
    Ret Try.prog 11 #[.pointer (some ⟨t, 0, none⟩), .int .u64 (id : Int), .int .u64 (num : Int), pv] w fun u w' => u = .int .i64 ((putS L ⟨id, num, data⟩).2 : Int) ∧ IsT w' (Grow R w w') t (putS L ⟨id, num, data⟩).1 ∧ Upd R w w' := by
  have hpn := hp.lenB
  have hpm := hp.le
  have hput : putS L ⟨id, num, data⟩ = if (askS L id num).2 = 6 then (insS L ⟨id, num, data⟩, 0) else if (askS L id num).2 = 0 then (L, 7) else (L, (askS L id num).2) := rfl
  have hT' := hT
  obtain ⟨A, c, V, G, H, hB, hO, hD, hLV, hRt, htl, hG, hH⟩ := hT'
  have hm := hL.most
  rw [← hLV] at hm
  simp only [lsOf, List.length_map] at hm
  generalize hask : (askS L id num).2 = e at hput hend
  obtain ⟨i, hi⟩ : ∃ i, lbI L id = i := ⟨_, rfl⟩
  have hil : i ≤ V.length := by rw [← hi]; have := lbI_le L id; rw [← hLV] at this ⊢; simpa using this
  have hat : isAt L id = true → i < V.length := fun h => by
    unfold isAt at h
    rw [hi, ← hLV, List.getElem?_map] at h
    rcases Nat.lt_or_ge i V.length with h1 | h1
    · exact h1
    · rw [List.getElem?_eq_none h1] at h; cases h
  refine enterRet (vs := [_, _, _, _]) (N := 56) Try.func11 rfl rfl rfl ?_
  have hU := Upd.refl No w
  refine WC.keep [(0, _), (1, _), (2, _), (3, _)] ⟨rfl, rfl, rfl, rfl, trivial⟩ ?_
  refine WC.seq ?_
  refine WC.region ?_
  refine WL.val rfl rfl rfl rfl (r_assign rfl ev_c) ?_
  refine WL.nil ?_
  refine WX.keep [(0, _), (1, _), (2, _), (3, _)] ⟨rfl, rfl, rfl, rfl, trivial⟩ ?_
  refine WX.next ?_
  refine WC.seq ?_
  refine WC.seq ?_
  refine WC.region ?_
  refine WL.val rfl rfl rfl rfl (r_move rfl (ev_t rfl)) ?_
  refine WL.val rfl rfl rfl rfl (r_move rfl (ev_t rfl)) ?_
  refine WL.val rfl rfl rfl rfl (r_move rfl (ev_t rfl)) ?_
  refine WL.cons (SO.call (Ask_ok hT hL hid hnum) rfl body_12 ⟨(ev_t rfl), (ev_t rfl), (ev_t rfl), trivial⟩ rfl rfl rfl rfl ?_)
  rintro v w1 ⟨v9, rfl, _, hu1⟩
  rw [hask]
  have hs1 := hu1.size
  replace hU := hU.transA hu1
  replace hB := hB.upd hu1 (by first | exact (fun h => h) | (simp only [At]; omega))
  replace hO := hO.upd hu1 (by first | exact (fun _ _ _ h => h) | (intro k hk hl hS; have := hG k hk; simp only [At] at hS; omega))
  refine WL.val rfl rfl rfl rfl (r_move rfl (ev_t rfl)) ?_
  refine WL.val rfl rfl rfl rfl (r_extract rfl (ev_t rfl) rfl) ?_
  refine WL.val rfl rfl rfl rfl (r_extract rfl (ev_t rfl) rfl) ?_
  refine WL.val rfl rfl rfl rfl (r_assign rfl (ev_t rfl)) ?_
  refine WL.val rfl rfl rfl rfl (r_assign rfl (ev_t rfl)) ?_
  refine WL.nil ?_
  refine WX.keep [(0, _), (1, _), (2, _), (3, _), (10, _)] ⟨rfl, rfl, rfl, rfl, rfl, trivial⟩ ?_
  refine WX.next ?_
  refine WC.seq ?_
  refine WC.region ?_
  refine WL.val rfl rfl rfl rfl (r_move rfl (ev_t rfl)) ?_
  refine WL.val rfl rfl rfl rfl (r_neq rfl (ev_t rfl) ev_c) ?_
  refine WL.nil ?_
  refine WX.keep [(0, _), (1, _), (2, _), (3, _), (10, _), (22, _)] ⟨rfl, rfl, rfl, rfl, rfl, rfl, trivial⟩ ?_
  refine WX.next ?_
  refine WC.cond rfl (ev_t rfl) (fun hc2 => ?_) (fun hc2 => ?_)
  · try (exfalso; first | (simp at hc2; done) | (simp only [decide_eq_true_eq, decide_eq_false_iff_not, Bool.not_eq_true', Bool.not_eq_false', Bool.not_eq_true, Bool.not_eq_false] at hc2; omega) | omega)
    all_goals
     try simp only [decide_eq_true_eq, decide_eq_false_iff_not, Bool.not_eq_true', Bool.not_eq_false', Bool.not_eq_true, Bool.not_eq_false, Option.isNone_none, Option.isNone_some, Option.isSome_none, Option.isSome_some, ne_eq, Decidable.not_not] at hc2
     refine WC.seq ?_
     refine WC.seq ?_
     refine WC.region ?_
     refine WL.val rfl rfl rfl rfl (r_move rfl (ev_t rfl)) ?_
     refine WL.val rfl rfl rfl rfl (r_eql rfl (ev_t rfl) ev_c) ?_
     refine WL.nil ?_
     refine WX.keep [(10, _), (24, _)] ⟨rfl, rfl, trivial⟩ ?_
     refine WX.next ?_
     refine WC.cond rfl (ev_t rfl) (fun hc3 => ?_) (fun hc3 => ?_)
     · try (exfalso; first | (simp at hc3; done) | (simp only [decide_eq_true_eq, decide_eq_false_iff_not, Bool.not_eq_true', Bool.not_eq_false', Bool.not_eq_true, Bool.not_eq_false] at hc3; omega) | omega)
       all_goals
        try simp only [decide_eq_true_eq, decide_eq_false_iff_not, Bool.not_eq_true', Bool.not_eq_false', Bool.not_eq_true, Bool.not_eq_false, Option.isNone_none, Option.isNone_some, Option.isSome_none, Option.isSome_some, ne_eq, Decidable.not_not] at hc3
        refine WC.seq ?_
        refine WC.region ?_
        refine WL.val rfl rfl rfl rfl (r_assign rfl ev_c) ?_
        refine WL.nil ?_
        refine WX.keep [(8, _)] ⟨rfl, trivial⟩ ?_
        refine WX.next ?_
        refine WC.ret ?_
        refine WX.thenRet ?_
        refine WX.thenRet ?_
        refine WX.retE1 rfl rfl ?_
        have e9 : putS L ⟨id, num, data⟩ = (L, 7) := by rw [hput, if_neg (by omega), if_pos (by omega)]
        rw [e9]
        exact ⟨rfl, (hT.upd hU (fun _ _ _ h => h)).mono (fun k hk _ => .inl hk), hU.mono (fun _ _ h => h.elim)⟩
     · try (exfalso; first | (simp at hc3; done) | (simp only [decide_eq_true_eq, decide_eq_false_iff_not, Bool.not_eq_true', Bool.not_eq_false', Bool.not_eq_true, Bool.not_eq_false] at hc3; omega) | omega)
       all_goals
        try simp only [decide_eq_true_eq, decide_eq_false_iff_not, Bool.not_eq_true', Bool.not_eq_false', Bool.not_eq_true, Bool.not_eq_false, Option.isNone_none, Option.isNone_some, Option.isSome_none, Option.isSome_some, ne_eq, Decidable.not_not] at hc3
        refine WC.skip ?_
        refine WX.next ?_
        refine WC.seq ?_
        refine WC.region ?_
        refine WL.val rfl rfl rfl rfl (r_move rfl (ev_t rfl)) ?_
        refine WL.val rfl rfl rfl rfl (r_assign rfl (ev_t rfl)) ?_
        refine WL.nil ?_
        refine WX.keep [(8, _)] ⟨rfl, trivial⟩ ?_
        refine WX.next ?_
        refine WC.ret ?_
        refine WX.thenRet ?_
        refine WX.retE1 rfl rfl ?_
        have e9 : putS L ⟨id, num, data⟩ = (L, e) := by rw [hput, if_neg (by omega), if_neg (by omega)]
        rw [e9]
        exact ⟨rfl, (hT.upd hU (fun _ _ _ h => h)).mono (fun k hk _ => .inl hk), hU.mono (fun _ _ h => h.elim)⟩
  · try (exfalso; first | (simp at hc2; done) | (simp only [decide_eq_true_eq, decide_eq_false_iff_not, Bool.not_eq_true', Bool.not_eq_false', Bool.not_eq_true, Bool.not_eq_false] at hc2; omega) | omega)
    all_goals
     try simp only [decide_eq_true_eq, decide_eq_false_iff_not, Bool.not_eq_true', Bool.not_eq_false', Bool.not_eq_true, Bool.not_eq_false, Option.isNone_none, Option.isNone_some, Option.isSome_none, Option.isSome_some, ne_eq, Decidable.not_not] at hc2
     refine WC.skip ?_
     refine WX.next ?_
     refine WC.seq ?_
     refine WC.region ?_
     refine WL.val rfl rfl rfl rfl (r_move rfl (ev_t rfl)) ?_
     refine WL.val rfl rfl rfl rfl (r_move rfl (ev_t rfl)) ?_
     refine WL.val rfl rfl rfl rfl (r_move rfl (ev_t rfl)) ?_
     refine WL.cons (SO.call (clone_ok (hp.upd hU (fun _ _ _ h => h))) rfl body_20 ⟨(ev_t rfl), trivial⟩ rfl rfl rfl rfl ?_)
     rintro v w2 ⟨hcl, hu2⟩
     obtain ⟨As, cs, rfl, hcs⟩ := Own.form hcl
     have hCn : ∀ k, New w1 w2 k → w.heap.size ≤ k ∧ k < w2.heap.size := fun k hk => by simp only [New] at hk; omega
     generalize New w1 w2 = C at *
     have hs2 := hu2.size
     replace hU := hU.transA hu2
     replace hB := hB.upd hu2 (by first | exact (fun h => h) | (simp only [At]; omega))
     replace hO := hO.upd hu2 (by first | exact (fun _ _ _ h => h) | (intro k hk hl hS; have := hG k hk; simp only [At] at hS; omega))
     refine WL.val rfl rfl rfl rfl (r_build (cs := #[_, _, _]) (vs := [(0, _), (1, _), (2, _)]) rfl ⟨⟨rfl, (ev_t rfl)⟩, ⟨rfl, (ev_t rfl)⟩, ⟨rfl, (ev_t rfl)⟩, trivial⟩ plc_58 zero_58 rfl) ?_
     refine WL.cons (SO.alloc rfl rfl rfl rfl (r_alloc rfl zero_58) ?_)
     intro w3 hu3 hB3 hz3
     have hs3 := hu3.size
     replace hU := hU.transA hu3
     replace hB := hB.upd hu3 (by first | exact (fun h => h) | (simp only [At]; omega))
     replace hO := hO.upd hu3 (by first | exact (fun _ _ _ h => h) | (intro k hk hl hS; have := hG k hk; simp only [At] at hS; omega))
     replace hcl := hcl.upd hu3 (by first | exact (fun _ _ _ h => h) | (intro k hk hl hS; have := hCn k hk; simp only [At] at hS; omega))
     refine WL.cons (SO.storeAll (us := [_, _, _]) rfl (ev_t rfl) (ev_t rfl) size_58 hB3 rfl rfl rfl rfl rfl ?_)
     intro w4 hu4 hB3 hz4
     have hs4 := hu4.size
     replace hU := hU.transA hu4
     replace hB := hB.upd hu4 (by first | exact (fun h => h) | (simp only [At]; omega))
     replace hO := hO.upd hu4 (by first | exact (fun _ _ _ h => h) | (intro k hk hl hS; have := hG k hk; simp only [At] at hS; omega))
     replace hcl := hcl.upd hu4 (by first | exact (fun _ _ _ h => h) | (intro k hk hl hS; have := hCn k hk; simp only [At] at hS; omega))
     refine WL.nil ?_
     refine WX.keep [(0, _), (1, _), (11, _)] ⟨rfl, rfl, rfl, trivial⟩ ?_
     have hBx : Blk w4 _ #[.int .u64 (id : Int), .int .u64 (num : Int), .slice As n cs] 58 := hB3
     refine WX.next ?_
     refine WC.seq ?_
     refine WC.region ?_
     refine WL.val rfl rfl rfl rfl (r_move rfl (ev_t rfl)) ?_
     refine WL.val rfl rfl rfl rfl (r_move rfl (ev_t rfl)) ?_
     refine WL.cons (SO.call (find_ok (hT.upd hU (fun _ _ _ h => h)) hL hid) rfl body_21 ⟨(ev_t rfl), (ev_t rfl), trivial⟩ rfl rfl rfl rfl ?_)
     rintro v w5 ⟨rfl, hu5⟩
     rw [hi]
     have hs5 := hu5.size
     replace hU := hU.transA hu5
     replace hB := hB.upd hu5 (by first | exact (fun h => h) | (simp only [At]; omega))
     replace hO := hO.upd hu5 (by first | exact (fun _ _ _ h => h) | (intro k hk hl hS; have := hG k hk; simp only [At] at hS; omega))
     replace hcl := hcl.upd hu5 (by first | exact (fun _ _ _ h => h) | (intro k hk hl hS; have := hCn k hk; simp only [At] at hS; omega))
     replace hBx := hBx.upd hu5 (by first | exact (fun h => h) | (simp only [At]; omega))
     refine WL.val rfl rfl rfl rfl (r_move rfl (ev_t rfl)) ?_
     refine WL.val rfl rfl rfl rfl (r_extract rfl (ev_t rfl) rfl) ?_
     refine WL.val rfl rfl rfl rfl (r_extract rfl (ev_t rfl) rfl) ?_
     refine WL.val rfl rfl rfl rfl (r_assign rfl (ev_t rfl)) ?_
     refine WL.val rfl rfl rfl rfl (r_assign rfl (ev_t rfl)) ?_
     refine WL.nil ?_
     refine WX.keep [(0, _), (11, _), (12, _), (13, _)] ⟨rfl, rfl, rfl, rfl, trivial⟩ ?_
     refine WX.next ?_
     refine WC.seq ?_
     refine WC.seq ?_
     refine WC.region ?_
     refine WL.val rfl rfl rfl rfl (r_move rfl (ev_t rfl)) ?_
     refine WL.nil ?_
     refine WX.keep [(0, _), (11, _), (12, _), (37, _)] ⟨rfl, rfl, rfl, rfl, trivial⟩ ?_
     refine WX.next ?_
     refine WC.cond rfl (ev_t rfl) (fun hc8 => ?_) (fun hc8 => ?_)
     · try (exfalso; first | (simp at hc8; done) | (simp only [decide_eq_true_eq, decide_eq_false_iff_not, Bool.not_eq_true', Bool.not_eq_false', Bool.not_eq_true, Bool.not_eq_false] at hc8; omega) | omega)
       all_goals
        try simp only [decide_eq_true_eq, decide_eq_false_iff_not, Bool.not_eq_true', Bool.not_eq_false', Bool.not_eq_true, Bool.not_eq_false, Option.isNone_none, Option.isNone_some, Option.isSome_none, Option.isSome_some, ne_eq, Decidable.not_not] at hc8
        have hat' := hat (by assumption)
        obtain ⟨g, cap, cur, eS, hg, hGg, hc1, hc2, hc3, hc4⟩ := hO.open (by omega)
        simp only [Value.slice.injEq, true_and] at eS
        obtain ⟨rfl, rfl⟩ := eS
        refine WC.draws' (fun u0_ u1_ => Upd No u0_ u1_) (fun j => [0, 0, 0, 0, 0, 1, 0, 2].getD j 0) (.calm 0 (.calm 1 (.calm 2 (.calm 4 (.held 3 (.one 5 (.calm 6 (.one 7 (.done))))))))) mixed (by kernel_rfl) (by repeat (first | with_reducible exact Deaf.body | with_reducible apply Deaf.then | with_reducible apply Deaf.block)) ?_
        intro w6 hu6
        have hz6 := congrArg Array.size hu6.2.2.2
        replace hu6 := Upd.of_draw hu6
        have hs6 := hu6.size
        replace hU := hU.transA hu6
        replace hB := hB.upd hu6 (by first | exact (fun h => h) | (simp only [At]; omega))
        replace hcl := hcl.upd hu6 (by first | exact (fun _ _ _ h => h) | (intro k hk hl hS; have := hCn k hk; simp only [At] at hS; omega))
        replace hBx := hBx.upd hu6 (by first | exact (fun h => h) | (simp only [At]; omega))
        replace hg := hg.upd hu6 (by first | exact (fun h => h) | (simp only [At]; omega))
        have hS9 := Upd.refl No w6
        refine WN.calm _ rfl rfl rfl rfl rfl (fun _ => r_move rfl (ev_t rfl)) ?_
        refine WN.calm _ rfl rfl rfl rfl rfl (fun _ => r_nilCheck rfl (ev_t rfl)) ?_
        first | refine WN.calm _ rfl rfl rfl rfl rfl (fun _ => r_field0 rfl (ev_t rfl) fld_55_0) ?_ | refine WN.calm _ rfl rfl rfl rfl rfl (fun _ => r_fieldAt rfl (ev_t rfl) fld_55_0) ?_
        refine WN.calm _ rfl rfl rfl rfl rfl (fun _ => r_move rfl (ev_t rfl)) ?_
        refine WN.held _ rfl rfl rfl rfl rfl hS9 (fun w' hS => r_load rfl (ev_t rfl) flat_53 (Blk.cell (hB.upd hS (fun h => h)) rfl)) ?_
        refine WN.step _ rfl (SO.val rfl rfl rfl rfl (r_loadAgg (vs := [_, _, _]) rfl (ev_t rfl) agg_58 size_58 (Blk.cellsL hBx)) ?_)
        refine ⟨hS9, ?_⟩
        refine WN.calm _ rfl rfl rfl rfl rfl (fun _ => r_indexAddr rfl (ev_t rfl) (ev_t rfl) elem_53 size_58 (by omega) (by omega)) ?_
        refine WN.step _ rfl (SO.storeN (us := [_, _, _]) rfl (ev_t rfl) (ev_t rfl) size_58 hg (by simp only [List.length_cons, List.length_nil]; omega) rfl rfl rfl rfl ?_)
        intro w7 hu7 hg2 hz
        rw [show (0 : Nat) + ((i : Nat) : Int).toNat * 3 = i * 3 by omega] at hg2
        have hFin : IsT w7 (Grow R w w7) t (L.set i ⟨id, num, data⟩) ∧ Upd R w w7 := by
          have hgt := hG g hGg
          have hss := hu7.size
          refine ⟨?_, (hU.mono (fun _ _ h => h.elim)).trans hu7 (fun k _ hk => by simp only [At] at hk; subst hk; exact hgt.1)⟩
          unfold IsT
          refine ⟨some ⟨g, 0, none⟩, c, V.set i ⟨⟨id, num, data⟩, .slice As n cs⟩, G, fun k => H k ∨ C k, ?_, ?_, ?_, by rw [← hLV, lsOf, List.map_set], .inl hRt, by omega, fun k hk => ⟨.inl (hG k hk).1, (hG k hk).2.1, by have := (hG k hk).2.2; omega⟩, ?_⟩
          · rw [List.length_set]
            exact hB.upd hu7 (by simp only [At]; omega)
          · rw [List.length_set]
            have hO3 := Own.shut (sz := 3) (n := V.length) hg2 hGg hc1 hc2 (by simp only [List.size_toArray, List.length_append, List.length_take, List.length_drop, Array.length_toList, List.length_cons, List.length_nil]; omega)
            rw [← row_set hc4 hat']
            exact hO3
          · intro r hr
            rcases List.mem_or_eq_of_mem_set hr with hr | rfl
            · exact (((hD r hr).upd hU (fun _ _ _ h => h)).upd hu7 (fun k hk _ hS => by simp only [At] at hS; subst hS; exact (hH k hk).2.2.1 hGg)).mono (fun k hk => .inl hk)
            · have h9 := ((hcl.rd (by omega)).upd hu7 (fun k hk hl hS => by have := hCn k hk; simp only [At] at hS; omega)).mono (F' := fun k => H k ∨ C k) (fun k hk => .inr hk)
              simp only [hpn] at h9 ⊢
              exact h9
          · rintro k (hk | hk)
            · have := hH k hk; exact ⟨.inl this.1, this.2.1, this.2.2.1, by omega⟩
            · have := hCn k hk; exact ⟨.inr ⟨by omega, by omega⟩, by omega, fun h => by have := hG k h; omega, by omega⟩
        refine ⟨trivial, ?_⟩
        refine WN.done ?_
        refine WX.keep [] trivial ?_
        refine WX.next ?_
        refine WC.seq ?_
        refine WC.region ?_
        refine WL.val rfl rfl rfl rfl (r_assign rfl ev_c) ?_
        refine WL.nil ?_
        refine WX.keep [(8, _)] ⟨rfl, trivial⟩ ?_
        refine WX.next ?_
        refine WC.ret ?_
        refine WX.retE1 rfl rfl ?_
        first | (have e9 : putS L ⟨id, num, data⟩ = (L.set i ⟨id, num, data⟩, 0) := by (rw [hput, if_pos (by omega)]; unfold insS; rw [if_pos (by assumption), hi])); rw [e9]; exact ⟨rfl, hFin⟩ | (have e9 : putS L ⟨id, num, data⟩ = (L ++ [⟨id, num, data⟩], 0) := by (rw [hput, if_pos (by omega)]; unfold insS; rw [if_neg (by simp_all)]; simp only [hi]; rw [show V.length = L.length by rw [← hLV, lsOf, List.length_map]]; simp)); rw [e9]; exact ⟨rfl, hFin⟩
     · try (exfalso; first | (simp at hc8; done) | (simp only [decide_eq_true_eq, decide_eq_false_iff_not, Bool.not_eq_true', Bool.not_eq_false', Bool.not_eq_true, Bool.not_eq_false] at hc8; omega) | omega)
       all_goals
        try simp only [decide_eq_true_eq, decide_eq_false_iff_not, Bool.not_eq_true', Bool.not_eq_false', Bool.not_eq_true, Bool.not_eq_false, Option.isNone_none, Option.isNone_some, Option.isSome_none, Option.isSome_some, ne_eq, Decidable.not_not] at hc8
        have hin : i = V.length := by
          have h9 := (hend (by omega)).resolve_left (by simp_all)
          rw [hi, ← hLV] at h9
          simpa using h9
        subst hin
        refine WC.draws' (fun u0_ u1_ => Upd No u0_ u1_) (fun j => [0, 0, 0, 0, 0, 0, 1, 1, 2, 0, 0, 2].getD j 0) (.calm 0 (.calm 1 (.calm 2 (.calm 3 (.calm 5 (.held 4 (.one 6 (.one 7 (.one 8 (.calm 9 (.calm 10 (.one 11 (.done))))))))))))) mixed (by kernel_rfl) (by repeat (first | with_reducible exact Deaf.body | with_reducible apply Deaf.then | with_reducible apply Deaf.block)) ?_
        intro w8 hu8
        have hz8 := congrArg Array.size hu8.2.2.2
        replace hu8 := Upd.of_draw hu8
        have hs8 := hu8.size
        replace hU := hU.transA hu8
        replace hB := hB.upd hu8 (by first | exact (fun h => h) | (simp only [At]; omega))
        replace hO := hO.upd hu8 (by first | exact (fun _ _ _ h => h) | (intro k hk hl hS; have := hG k hk; simp only [At] at hS; omega))
        replace hcl := hcl.upd hu8 (by first | exact (fun _ _ _ h => h) | (intro k hk hl hS; have := hCn k hk; simp only [At] at hS; omega))
        replace hBx := hBx.upd hu8 (by first | exact (fun h => h) | (simp only [At]; omega))
        have hS10 := Upd.refl No w8
        refine WN.calm _ rfl rfl rfl rfl rfl (fun _ => r_move rfl (ev_t rfl)) ?_
        refine WN.calm _ rfl rfl rfl rfl rfl (fun _ => r_move rfl (ev_t rfl)) ?_
        refine WN.calm _ rfl rfl rfl rfl rfl (fun _ => r_nilCheck rfl (ev_t rfl)) ?_
        first | refine WN.calm _ rfl rfl rfl rfl rfl (fun _ => r_field0 rfl (ev_t rfl) fld_55_0) ?_ | refine WN.calm _ rfl rfl rfl rfl rfl (fun _ => r_fieldAt rfl (ev_t rfl) fld_55_0) ?_
        refine WN.calm _ rfl rfl rfl rfl rfl (fun _ => r_move rfl (ev_t rfl)) ?_
        refine WN.held _ rfl rfl rfl rfl rfl hS10 (fun w' hS => r_load rfl (ev_t rfl) flat_53 (Blk.cell (hB.upd hS (fun h => h)) rfl)) ?_
        refine WN.step _ rfl (SO.val rfl rfl rfl rfl (r_loadAgg (vs := [_, _, _]) rfl (ev_t rfl) agg_58 size_58 (Blk.cellsL hBx)) ?_)
        refine ⟨hS10, ?_⟩
        refine WN.step _ rfl (SO.alloc rfl rfl rfl rfl (r_buildSlice (cs := #[_, _, _]) (vs := [(0, _)]) rfl ⟨⟨rfl, (ev_t rfl)⟩, trivial⟩ row_53 rfl rfl) ?_)
        intro w9 hu9 hB9 hz9
        have hs9 := hu9.size
        replace hS10 := Upd.transA hS10 hu9
        replace hU := hU.transA hu9
        replace hB := hB.upd hu9 (by first | exact (fun h => h) | (simp only [At]; omega))
        replace hO := hO.upd hu9 (by first | exact (fun _ _ _ h => h) | (intro k hk hl hS; have := hG k hk; simp only [At] at hS; omega))
        replace hcl := hcl.upd hu9 (by first | exact (fun _ _ _ h => h) | (intro k hk hl hS; have := hCn k hk; simp only [At] at hS; omega))
        replace hBx := hBx.upd hu9 (by first | exact (fun h => h) | (simp only [At]; omega))
        refine ⟨hS10, ?_⟩
        refine WN.step _ rfl (SO.call (insEnd_ok (r := ⟨⟨id, num, data⟩, .slice As n cs⟩) hO (by omega) (Rd.of_blk (F := At _) (n := 1) (sz := 3) hB9 rfl rfl (by omega)) rfl) rfl body_22 ⟨(ev_t rfl), (ev_t rfl), (ev_t rfl), trivial⟩ rfl rfl rfl rfl ?_)
        rintro v w10 ⟨hO2, hu10⟩
        replace hB := hB.upd hu10 (fun h => (hG t h).2.1 rfl)
        obtain ⟨A2, c2, rfl, hc2⟩ := Own.form hO2
        have hOp := hu10
        have hps := hOp.size
        have hpw : w.heap.size ≤ w9.heap.size := hU.size
        have hG2 : ∀ k, Grow G w9 w10 k → G k ∨ (w9.heap.size ≤ k ∧ k < w10.heap.size) := fun k hk => hk
        have hCp : ∀ k, C k → k < w9.heap.size := fun k hk => by have := hCn k hk; omega
        generalize Grow G w9 w10 = G2 at *
        refine ⟨trivial, ?_⟩
        refine WN.calm _ rfl rfl rfl rfl rfl (fun _ => r_nilCheck rfl (ev_t rfl)) ?_
        first | refine WN.calm _ rfl rfl rfl rfl rfl (fun _ => r_field0 rfl (ev_t rfl) fld_55_0) ?_ | refine WN.calm _ rfl rfl rfl rfl rfl (fun _ => r_fieldAt rfl (ev_t rfl) fld_55_0) ?_
        refine WN.step _ rfl (SO.store rfl (ev_t rfl) (ev_t rfl) size_53 hB rfl rfl rfl rfl rfl ?_)
        intro w11 hu11 hB2 hz
        have hFin : IsT w11 (Grow R w w11) t (L ++ [⟨id, num, data⟩]) ∧ Upd R w w11 := by
          have hss := hu11.size
          refine ⟨?_, ((hU.mono (fun _ _ h => h.elim)).trans hOp (fun k _ hk => (hG k hk).1)).trans hu11 (fun k _ hk => by simp only [At] at hk; subst hk; exact hRt)⟩
          unfold IsT
          refine ⟨A2, c2, V ++ [⟨⟨id, num, data⟩, .slice As n cs⟩], G2, fun k => H k ∨ C k, ?_, ?_, ?_, by rw [← hLV, lsOf, List.map_append]; rfl, .inl hRt, by omega, fun k hk => ?_, ?_⟩
          · rw [List.length_append]
            exact hB2
          · rw [List.length_append, List.flatMap_append, List.flatMap_singleton]
            exact hO2.upd hu11 (fun k hk hl hS => by simp only [At] at hS; subst hS; rcases hG2 k hk with h | h; exact (hG k h).2.1 rfl; omega)
          · intro r hr
            rcases List.mem_append.1 hr with hr | hr
            · exact ((((hD r hr).upd hU (fun _ _ _ h => h)).upd hOp (fun k hk _ hS => (hH k hk).2.2.1 hS)).upd hu11 (fun k hk _ hS => by simp only [At] at hS; subst hS; exact (hH k hk).2.1 rfl)).mono (fun k hk => .inl hk)
            · rw [List.mem_singleton] at hr
              subst hr
              have h9 := (((hcl.rd (by omega)).upd hOp (fun k hk hl hS => by have h1 := hCn k hk; have h2 := hG k hS; omega)).upd hu11 (fun k hk hl hS => by have := hCn k hk; simp only [At] at hS; omega)).mono (F' := fun k => H k ∨ C k) (fun k hk => .inr hk)
              simp only [hpn] at h9 ⊢
              exact h9
          · rcases hG2 k hk with h | h
            · have := hG k h; exact ⟨.inl this.1, this.2.1, by omega⟩
            · exact ⟨.inr ⟨by omega, by omega⟩, by omega, by omega⟩
          · rintro k (hk | hk)
            · have := hH k hk; exact ⟨.inl this.1, this.2.1, fun h => (hG2 k h).elim this.2.2.1 (fun h => by omega), by omega⟩
            · have h1 := hCn k hk; have h2 := hCp k hk; exact ⟨.inr ⟨by omega, by omega⟩, by omega, fun h => (hG2 k h).elim (fun h => by have := hG k h; omega) (fun h => by omega), by omega⟩
        refine ⟨trivial, ?_⟩
        refine WN.done ?_
        refine WX.keep [] trivial ?_
        refine WX.next ?_
        refine WC.seq ?_
        refine WC.region ?_
        refine WL.val rfl rfl rfl rfl (r_assign rfl ev_c) ?_
        refine WL.nil ?_
        refine WX.keep [(8, _)] ⟨rfl, trivial⟩ ?_
        refine WX.next ?_
        refine WC.ret ?_
        refine WX.retE1 rfl rfl ?_
        first | (have e9 : putS L ⟨id, num, data⟩ = (L.set i ⟨id, num, data⟩, 0) := by (rw [hput, if_pos (by omega)]; unfold insS; rw [if_pos (by assumption), hi])); rw [e9]; exact ⟨rfl, hFin⟩ | (have e9 : putS L ⟨id, num, data⟩ = (L ++ [⟨id, num, data⟩], 0) := by (rw [hput, if_pos (by omega)]; unfold insS; rw [if_neg (by simp_all)]; simp only [hi]; rw [show V.length = L.length by rw [← hLV, lsOf, List.length_map]]; simp)); rw [e9]; exact ⟨rfl, hFin⟩
end Go.Proofs.Ytipabhbnljadfaa

/-
  law 17: the document's example.
-/
namespace Go.Proofs.Ytipabhbnljadfaa
open Go
set_option linter.unusedSimpArgs false
set_option linter.unusedVariables false

theorem SNew_ok {w : World} : Ret Try.prog 10 #[] w fun u w' => ∃ t, u = .pointer (some ⟨t, 0, none⟩) ∧ IsT w' (New w w') t [] ∧ Upd No w w' := by
  refine enterRet (vs := []) (N := 3) Try.func10 rfl rfl rfl ?_
  have hU := Upd.refl No w
  refine WC.keep [] trivial ?_
  refine WC.seq ?_
  refine WC.region ?_
  refine WL.val rfl rfl rfl rfl (r_assign rfl ev_c) ?_
  refine WL.nil ?_
  refine WX.keep [] trivial ?_
  refine WX.next ?_
  refine WC.seq ?_
  refine WC.region ?_
  refine WL.val rfl rfl rfl rfl (r_build (cs := #[_]) (vs := []) rfl trivial plc_55 zero_55 rfl) ?_
  refine WL.cons (SO.alloc rfl rfl rfl rfl (r_boxAgg rfl (ev_t rfl)) ?_)
  intro w1 hu1 hB1 hz1
  have hs1 := hu1.size
  replace hU := hU.transA hu1
  refine WL.val rfl rfl rfl rfl (r_assign rfl (ev_t rfl)) ?_
  refine WL.nil ?_
  refine WX.keep [(0, _)] ⟨rfl, trivial⟩ ?_
  refine WX.next ?_
  refine WC.ret ?_
  refine WX.retE1 rfl rfl ?_
  exact ⟨_, rfl, ⟨none, 0, [], fun _ => False, fun _ => False, hB1, Own.nil _ _ _ _, (fun r h => by cases h), rfl, ⟨by omega, by omega⟩, by omega, (fun k h => h.elim), (fun k h => h.elim)⟩, hU⟩

def lA : List Ls := [⟨7, 1, [97]⟩]
def lB : List Ls := [⟨7, 2, [98]⟩]
theorem tok_lA : TOK lA := ⟨List.pairwise_singleton _ _, by decide, fun x h => by simp only [lA, List.mem_singleton] at h; subst h; exact ⟨by decide, by decide, by decide, by decide, by decide⟩⟩
theorem tok_lB : TOK lB := ⟨List.pairwise_singleton _ _, by decide, fun x h => by simp only [lB, List.mem_singleton] at h; subst h; exact ⟨by decide, by decide, by decide, by decide, by decide⟩⟩
theorem put_lA : putS [] ⟨7, 1, [97]⟩ = (lA, 0) := by decide
theorem put_lB : putS lA ⟨7, 2, [98]⟩ = (lB, 0) := by decide
theorem ask_lA : askS lA 7 1 = ([97], 0) := by decide
theorem ask_lB : askS lB 7 1 = ([], 16) := by decide

set_option maxHeartbeats 1000000 in
theorem awake17_ok (w : World) : Ret Try.prog 9 #[] w fun v w' => v = .bool true ∧ Upd No w w' := by
  refine enterRet (vs := []) (N := 49) Try.func9 rfl rfl rfl ?_
  have hU := Upd.refl No w
  refine WC.keep [] trivial ?_
  refine WC.seq ?_
  refine WC.region ?_
  refine WL.val rfl rfl rfl rfl (r_assign rfl ev_c) ?_
  refine WL.nil ?_
  refine WX.keep [] trivial ?_
  refine WX.next ?_
  refine WC.seq ?_
  refine WC.region ?_
  refine WL.cons (SO.call (SNew_ok) rfl body_10 trivial rfl rfl rfl rfl ?_)
  rintro v w1 ⟨t, rfl, hT, hu1⟩
  have hs1 := hu1.size
  replace hU := hU.transA hu1
  refine WL.val rfl rfl rfl rfl (r_assign rfl (ev_t rfl)) ?_
  refine WL.nil ?_
  refine WX.keep [(1, _)] ⟨rfl, trivial⟩ ?_
  refine WX.next ?_
  refine WC.seq ?_
  refine WC.seq ?_
  refine WC.region ?_
  refine WL.val rfl rfl rfl rfl (r_move rfl (ev_t rfl)) ?_
  refine WL.cons (SO.alloc rfl rfl rfl rfl (r_buildSlice1 (vs := [_]) rfl ⟨ev_c, trivial⟩ rfl row_23 rfl rfl) ?_)
  intro w2 hu2 hB2 hz2
  have hs2 := hu2.size
  replace hU := hU.transA hu2
  replace hT := hT.upd hu2 (by first | exact (fun _ _ _ h => h) | (intro k hk hl hS; simp only [At, New, Grow, From, No] at *; omega))
  refine WL.cons (SO.convSS rfl (ev_t rfl) elem_23 int_5 hB2 rfl rfl rfl rfl ?_)
  intro w3 z3 hu3 hF3 hz3
  have hs3 := hu3.size
  replace hU := hU.transA hu3
  replace hT := hT.upd hu3 (by first | exact (fun _ _ _ h => h) | (intro k hk hl hS; simp only [At, New, Grow, From, No] at *; omega))
  refine WL.cons (SO.call (Put_ok (data := [97]) (n := 1) (id := 7) (num := 1) hT TOK.nil (by decide) (by decide) (Rd.of_heap (F := At _) (n := 1) (sz := 1) (cs := #[.int .u8 97]) hF3 rfl rfl (by omega)) (fun _ => .inr rfl)) rfl body_11 ⟨(ev_t rfl), ev_c, ev_c, (ev_t rfl), trivial⟩ rfl rfl rfl rfl ?_)
  rw [put_lA]
  clear hT
  rintro v w4 ⟨rfl, hT, hu4⟩
  have hs4 := hu4.size
  replace hU := hU.transA hu4
  refine WL.val rfl rfl rfl rfl (r_neq rfl (ev_t rfl) ev_c) ?_
  refine WL.nil ?_
  refine WX.keep [(1, _), (12, _)] ⟨rfl, rfl, trivial⟩ ?_
  refine WX.next ?_
  refine WC.cond rfl (ev_t rfl) (fun hc2 => ?_) (fun hc2 => ?_)
  · try (exfalso; first | (simp at hc2; done) | (simp only [decide_eq_true_eq, decide_eq_false_iff_not, Bool.not_eq_true', Bool.not_eq_false', Bool.not_eq_true, Bool.not_eq_false] at hc2; omega) | omega)
    all_goals
     try simp only [decide_eq_true_eq, decide_eq_false_iff_not, Bool.not_eq_true', Bool.not_eq_false', Bool.not_eq_true, Bool.not_eq_false, Option.isNone_none, Option.isNone_some, Option.isSome_none, Option.isSome_some, ne_eq, Decidable.not_not] at hc2
     refine WC.seq ?_
     refine WC.region ?_
     refine WL.val rfl rfl rfl rfl (r_assign rfl ev_c) ?_
     refine WL.nil ?_
     refine WX.keep [(0, _)] ⟨rfl, trivial⟩ ?_
     refine WX.next ?_
     refine WC.ret ?_
     refine WX.thenRet ?_
     refine WX.retE1 rfl rfl ?_
     exact ⟨by simp, hU⟩
  · try (exfalso; first | (simp at hc2; done) | (simp only [decide_eq_true_eq, decide_eq_false_iff_not, Bool.not_eq_true', Bool.not_eq_false', Bool.not_eq_true, Bool.not_eq_false] at hc2; omega) | omega)
    all_goals
     try simp only [decide_eq_true_eq, decide_eq_false_iff_not, Bool.not_eq_true', Bool.not_eq_false', Bool.not_eq_true, Bool.not_eq_false, Option.isNone_none, Option.isNone_some, Option.isSome_none, Option.isSome_some, ne_eq, Decidable.not_not] at hc2
     refine WC.skip ?_
     refine WX.next ?_
     refine WC.seq ?_
     refine WC.region ?_
     refine WL.val rfl rfl rfl rfl (r_move rfl (ev_t rfl)) ?_
     refine WL.cons (SO.call (Ask_ok (id := 7) (num := 1) hT tok_lA (by decide) (by decide)) rfl body_12 ⟨(ev_t rfl), ev_c, ev_c, trivial⟩ rfl rfl rfl rfl ?_)
     rw [ask_lA]
     rintro v w5 ⟨v0, rfl, hcl, hu5⟩
     obtain ⟨A0, c0, rfl, hc0⟩ := Own.form hcl
     have hs5 := hu5.size
     replace hU := hU.transA hu5
     replace hT := hT.upd hu5 (by first | exact (fun _ _ _ h => h) | (intro k hk hl hS; simp only [At, New, Grow, From, No] at *; omega))
     refine WL.val rfl rfl rfl rfl (r_move rfl (ev_t rfl)) ?_
     refine WL.val rfl rfl rfl rfl (r_extract rfl (ev_t rfl) rfl) ?_
     refine WL.val rfl rfl rfl rfl (r_extract rfl (ev_t rfl) rfl) ?_
     refine WL.val rfl rfl rfl rfl (r_assign rfl (ev_t rfl)) ?_
     refine WL.val rfl rfl rfl rfl (r_assign rfl (ev_t rfl)) ?_
     refine WL.nil ?_
     refine WX.keep [(1, _), (2, _), (3, _)] ⟨rfl, rfl, rfl, trivial⟩ ?_
     refine WX.next ?_
     refine WC.seq ?_
     refine WC.region ?_
     refine WL.val rfl rfl rfl rfl (r_move rfl (ev_t rfl)) ?_
     refine WL.cons (SO.alloc rfl rfl rfl rfl (r_buildSlice1 (vs := [_]) rfl ⟨ev_c, trivial⟩ rfl row_23 rfl rfl) ?_)
     intro w6 hu6 hB6 hz6
     have hs6 := hu6.size
     replace hU := hU.transA hu6
     replace hT := hT.upd hu6 (by first | exact (fun _ _ _ h => h) | (intro k hk hl hS; simp only [At, New, Grow, From, No] at *; omega))
     replace hcl := hcl.upd hu6 (by first | exact (fun _ _ _ h => h) | (intro k hk hl hS; simp only [At, New, Grow, From, No] at *; omega))
     refine WL.cons (SO.convSS rfl (ev_t rfl) elem_23 int_5 hB6 rfl rfl rfl rfl ?_)
     intro w7 z7 hu7 hF7 hz7
     have hs7 := hu7.size
     replace hU := hU.transA hu7
     replace hT := hT.upd hu7 (by first | exact (fun _ _ _ h => h) | (intro k hk hl hS; simp only [At, New, Grow, From, No] at *; omega))
     replace hcl := hcl.upd hu7 (by first | exact (fun _ _ _ h => h) | (intro k hk hl hS; simp only [At, New, Grow, From, No] at *; omega))
     refine WL.cons (SO.call (Put_ok (data := [98]) (n := 1) (id := 7) (num := 2) hT tok_lA (by decide) (by decide) (Rd.of_heap (F := At _) (n := 1) (sz := 1) (cs := #[.int .u8 98]) hF7 rfl rfl (by omega)) (fun _ => .inl (by decide))) rfl body_11 ⟨(ev_t rfl), ev_c, ev_c, (ev_t rfl), trivial⟩ rfl rfl rfl rfl ?_)
     rw [put_lB]
     clear hT
     rintro v w8 ⟨rfl, hT, hu8⟩
     have hs8 := hu8.size
     replace hU := hU.transA hu8
     replace hcl := hcl.upd hu8 (by first | exact (fun _ _ _ h => h) | (intro k hk hl hS; simp only [At, New, Grow, From, No] at *; omega))
     refine WL.val rfl rfl rfl rfl (r_assign rfl (ev_t rfl)) ?_
     refine WL.nil ?_
     refine WX.keep [(1, _), (2, _), (3, _), (4, _)] ⟨rfl, rfl, rfl, rfl, trivial⟩ ?_
     refine WX.next ?_
     refine WC.seq ?_
     refine WC.region ?_
     refine WL.val rfl rfl rfl rfl (r_move rfl (ev_t rfl)) ?_
     refine WL.cons (SO.call (Ask_ok (id := 7) (num := 1) hT tok_lB (by decide) (by decide)) rfl body_12 ⟨(ev_t rfl), ev_c, ev_c, trivial⟩ rfl rfl rfl rfl ?_)
     rw [ask_lB]
     rintro v w9 ⟨v1, rfl, _, hu9⟩
     have hs9 := hu9.size
     replace hU := hU.transA hu9
     replace hT := hT.upd hu9 (by first | exact (fun _ _ _ h => h) | (intro k hk hl hS; simp only [At, New, Grow, From, No] at *; omega))
     replace hcl := hcl.upd hu9 (by first | exact (fun _ _ _ h => h) | (intro k hk hl hS; simp only [At, New, Grow, From, No] at *; omega))
     refine WL.val rfl rfl rfl rfl (r_move rfl (ev_t rfl)) ?_
     refine WL.val rfl rfl rfl rfl (r_extract rfl (ev_t rfl) rfl) ?_
     refine WL.val rfl rfl rfl rfl (r_extract rfl (ev_t rfl) rfl) ?_
     refine WL.val rfl rfl rfl rfl (r_assign rfl (ev_t rfl)) ?_
     refine WL.val rfl rfl rfl rfl (r_assign rfl (ev_t rfl)) ?_
     refine WL.nil ?_
     refine WX.keep [(1, _), (2, _), (3, _), (4, _), (6, _)] ⟨rfl, rfl, rfl, rfl, rfl, trivial⟩ ?_
     refine WX.next ?_
     refine WC.seq ?_
     refine WC.region ?_
     refine WL.val rfl rfl rfl rfl (r_move rfl (ev_t rfl)) ?_
     refine WL.val rfl rfl rfl rfl (r_eql rfl (ev_t rfl) ev_c) ?_
     refine WL.val rfl rfl rfl rfl (r_move rfl (ev_t rfl)) ?_
     refine WL.cases 29 rfl (fun hb7_2 => ?_) (fun hb7_2 => ?_)
     · try (exfalso; first | (simp at hb7_2; done) | (simp only [decide_eq_true_eq, decide_eq_false_iff_not, Bool.not_eq_true', Bool.not_eq_false', Bool.not_eq_true, Bool.not_eq_false] at hb7_2; omega) | omega)
       all_goals
        try simp only [decide_eq_true_eq, decide_eq_false_iff_not, Bool.not_eq_true', Bool.not_eq_false', Bool.not_eq_true, Bool.not_eq_false, Option.isNone_none, Option.isNone_some, Option.isSome_none, Option.isSome_some, ne_eq, Decidable.not_not] at hb7_2
        refine WL.val rfl rfl rfl rfl (r_move rfl (ev_t rfl)) ?_
        refine WL.val rfl rfl rfl rfl (r_toStr rfl (ev_t rfl) (hcl.rd (by decide)) elem_23 int_5 str_9) ?_
        refine WL.val rfl rfl rfl rfl (r_eqlStrL rfl (ev_t rfl) ev_c) ?_
        refine WL.val rfl rfl rfl rfl (r_pickT rfl (ev_t rfl) (ev_t rfl)) ?_
        refine WL.val rfl rfl rfl rfl (r_move rfl (ev_t rfl)) ?_
        refine WL.cases 34 rfl (fun hb7_7 => ?_) (fun hb7_7 => ?_)
        · try (exfalso; first | (simp at hb7_7; done) | (simp only [decide_eq_true_eq, decide_eq_false_iff_not, Bool.not_eq_true', Bool.not_eq_false', Bool.not_eq_true, Bool.not_eq_false] at hb7_7; omega) | omega)
          all_goals
           try simp only [decide_eq_true_eq, decide_eq_false_iff_not, Bool.not_eq_true', Bool.not_eq_false', Bool.not_eq_true, Bool.not_eq_false, Option.isNone_none, Option.isNone_some, Option.isSome_none, Option.isSome_some, ne_eq, Decidable.not_not] at hb7_7
           refine WL.val rfl rfl rfl rfl (r_move rfl (ev_t rfl)) ?_
           refine WL.val rfl rfl rfl rfl (r_eql rfl (ev_t rfl) ev_c) ?_
           refine WL.val rfl rfl rfl rfl (r_pickT rfl (ev_t rfl) (ev_t rfl)) ?_
           refine WL.val rfl rfl rfl rfl (r_move rfl (ev_t rfl)) ?_
           refine WL.cases 38 rfl (fun hb7_11 => ?_) (fun hb7_11 => ?_)
           · try (exfalso; first | (simp at hb7_11; done) | (simp only [decide_eq_true_eq, decide_eq_false_iff_not, Bool.not_eq_true', Bool.not_eq_false', Bool.not_eq_true, Bool.not_eq_false] at hb7_11; omega) | omega)
             all_goals
              try simp only [decide_eq_true_eq, decide_eq_false_iff_not, Bool.not_eq_true', Bool.not_eq_false', Bool.not_eq_true, Bool.not_eq_false, Option.isNone_none, Option.isNone_some, Option.isSome_none, Option.isSome_some, ne_eq, Decidable.not_not] at hb7_11
              refine WL.val rfl rfl rfl rfl (r_move rfl (ev_t rfl)) ?_
              refine WL.val rfl rfl rfl rfl (r_eql rfl (ev_t rfl) ev_c) ?_
              refine WL.val rfl rfl rfl rfl (r_pickT rfl (ev_t rfl) (ev_t rfl)) ?_
              refine WL.val rfl rfl rfl rfl (r_move rfl (ev_t rfl)) ?_
              refine WL.cases 42 rfl (fun hb7_15 => ?_) (fun hb7_15 => ?_)
              · try (exfalso; first | (simp at hb7_15; done) | (simp only [decide_eq_true_eq, decide_eq_false_iff_not, Bool.not_eq_true', Bool.not_eq_false', Bool.not_eq_true, Bool.not_eq_false] at hb7_15; omega) | omega)
                all_goals
                 try simp only [decide_eq_true_eq, decide_eq_false_iff_not, Bool.not_eq_true', Bool.not_eq_false', Bool.not_eq_true, Bool.not_eq_false, Option.isNone_none, Option.isNone_some, Option.isSome_none, Option.isSome_some, ne_eq, Decidable.not_not] at hb7_15
                 refine WL.val rfl rfl rfl rfl (r_move rfl (ev_t rfl)) ?_
                 refine WL.cons (SO.call (Len_ok hT) rfl body_13 ⟨(ev_t rfl), trivial⟩ rfl rfl rfl rfl ?_)
                 rintro v w10 ⟨rfl, hu10⟩
                 have hs10 := hu10.size
                 replace hU := hU.transA hu10
                 replace hT := hT.upd hu10 (by first | exact (fun _ _ _ h => h) | (intro k hk hl hS; simp only [At, New, Grow, From, No] at *; omega))
                 replace hcl := hcl.upd hu10 (by first | exact (fun _ _ _ h => h) | (intro k hk hl hS; simp only [At, New, Grow, From, No] at *; omega))
                 refine WL.val rfl rfl rfl rfl (r_eql rfl (ev_t rfl) ev_c) ?_
                 refine WL.val rfl rfl rfl rfl (r_pickT rfl (ev_t rfl) (ev_t rfl)) ?_
                 refine WL.val rfl rfl rfl rfl (r_move rfl (ev_t rfl)) ?_
                 first | refine WL.val rfl rfl rfl rfl (r_pickT rfl (ev_t rfl) ev_c) ?_ | refine WL.val rfl rfl rfl rfl (r_pickF rfl (ev_t rfl) ev_c) ?_
                 refine WL.val rfl rfl rfl rfl (r_assign rfl (ev_t rfl)) ?_
                 refine WL.nil ?_
                 refine WX.keep [(0, _)] ⟨rfl, trivial⟩ ?_
                 refine WX.next ?_
                 refine WC.ret ?_
                 refine WX.retE1 rfl rfl ?_
                 exact ⟨by simp, hU⟩
              · try (exfalso; first | (simp at hb7_15; done) | (simp only [decide_eq_true_eq, decide_eq_false_iff_not, Bool.not_eq_true', Bool.not_eq_false', Bool.not_eq_true, Bool.not_eq_false] at hb7_15; omega) | omega)
                all_goals
                 try simp only [decide_eq_true_eq, decide_eq_false_iff_not, Bool.not_eq_true', Bool.not_eq_false', Bool.not_eq_true, Bool.not_eq_false, Option.isNone_none, Option.isNone_some, Option.isSome_none, Option.isSome_some, ne_eq, Decidable.not_not] at hb7_15
                 refine WL.skip rfl rfl rfl ?_
                 refine WL.skip rfl rfl rfl ?_
                 refine WL.skip rfl rfl rfl ?_
                 refine WL.val rfl rfl rfl rfl (r_pickF rfl (ev_t rfl) ev_c) ?_
                 refine WL.val rfl rfl rfl rfl (r_move rfl (ev_t rfl)) ?_
                 refine WL.val rfl rfl rfl rfl (r_pickF rfl (ev_t rfl) ev_c) ?_
                 refine WL.val rfl rfl rfl rfl (r_assign rfl (ev_t rfl)) ?_
                 refine WL.nil ?_
                 refine WX.keep [(0, _)] ⟨rfl, trivial⟩ ?_
                 refine WX.next ?_
                 refine WC.ret ?_
                 refine WX.retE1 rfl rfl ?_
                 exact ⟨by simp, hU⟩
           · try (exfalso; first | (simp at hb7_11; done) | (simp only [decide_eq_true_eq, decide_eq_false_iff_not, Bool.not_eq_true', Bool.not_eq_false', Bool.not_eq_true, Bool.not_eq_false] at hb7_11; omega) | omega)
             all_goals
              try simp only [decide_eq_true_eq, decide_eq_false_iff_not, Bool.not_eq_true', Bool.not_eq_false', Bool.not_eq_true, Bool.not_eq_false, Option.isNone_none, Option.isNone_some, Option.isSome_none, Option.isSome_some, ne_eq, Decidable.not_not] at hb7_11
              refine WL.skip rfl rfl rfl ?_
              refine WL.skip rfl rfl rfl ?_
              refine WL.val rfl rfl rfl rfl (r_pickF rfl (ev_t rfl) ev_c) ?_
              refine WL.val rfl rfl rfl rfl (r_move rfl (ev_t rfl)) ?_
              refine WL.skip rfl rfl rfl ?_
              refine WL.skip rfl rfl rfl ?_
              refine WL.skip rfl rfl rfl ?_
              refine WL.val rfl rfl rfl rfl (r_pickF rfl (ev_t rfl) ev_c) ?_
              refine WL.val rfl rfl rfl rfl (r_move rfl (ev_t rfl)) ?_
              refine WL.val rfl rfl rfl rfl (r_pickF rfl (ev_t rfl) ev_c) ?_
              refine WL.val rfl rfl rfl rfl (r_assign rfl (ev_t rfl)) ?_
              refine WL.nil ?_
              refine WX.keep [(0, _)] ⟨rfl, trivial⟩ ?_
              refine WX.next ?_
              refine WC.ret ?_
              refine WX.retE1 rfl rfl ?_
              exact ⟨by simp, hU⟩
        · try (exfalso; first | (simp at hb7_7; done) | (simp only [decide_eq_true_eq, decide_eq_false_iff_not, Bool.not_eq_true', Bool.not_eq_false', Bool.not_eq_true, Bool.not_eq_false] at hb7_7; omega) | omega)
          all_goals
           try simp only [decide_eq_true_eq, decide_eq_false_iff_not, Bool.not_eq_true', Bool.not_eq_false', Bool.not_eq_true, Bool.not_eq_false, Option.isNone_none, Option.isNone_some, Option.isSome_none, Option.isSome_some, ne_eq, Decidable.not_not] at hb7_7
           refine WL.skip rfl rfl rfl ?_
           refine WL.skip rfl rfl rfl ?_
           refine WL.val rfl rfl rfl rfl (r_pickF rfl (ev_t rfl) ev_c) ?_
           refine WL.val rfl rfl rfl rfl (r_move rfl (ev_t rfl)) ?_
           refine WL.skip rfl rfl rfl ?_
           refine WL.skip rfl rfl rfl ?_
           refine WL.val rfl rfl rfl rfl (r_pickF rfl (ev_t rfl) ev_c) ?_
           refine WL.val rfl rfl rfl rfl (r_move rfl (ev_t rfl)) ?_
           refine WL.skip rfl rfl rfl ?_
           refine WL.skip rfl rfl rfl ?_
           refine WL.skip rfl rfl rfl ?_
           refine WL.val rfl rfl rfl rfl (r_pickF rfl (ev_t rfl) ev_c) ?_
           refine WL.val rfl rfl rfl rfl (r_move rfl (ev_t rfl)) ?_
           refine WL.val rfl rfl rfl rfl (r_pickF rfl (ev_t rfl) ev_c) ?_
           refine WL.val rfl rfl rfl rfl (r_assign rfl (ev_t rfl)) ?_
           refine WL.nil ?_
           refine WX.keep [(0, _)] ⟨rfl, trivial⟩ ?_
           refine WX.next ?_
           refine WC.ret ?_
           refine WX.retE1 rfl rfl ?_
           exact ⟨by simp, hU⟩
     · try (exfalso; first | (simp at hb7_2; done) | (simp only [decide_eq_true_eq, decide_eq_false_iff_not, Bool.not_eq_true', Bool.not_eq_false', Bool.not_eq_true, Bool.not_eq_false] at hb7_2; omega) | omega)
       all_goals
        try simp only [decide_eq_true_eq, decide_eq_false_iff_not, Bool.not_eq_true', Bool.not_eq_false', Bool.not_eq_true, Bool.not_eq_false, Option.isNone_none, Option.isNone_some, Option.isSome_none, Option.isSome_some, ne_eq, Decidable.not_not] at hb7_2
        refine WL.skip rfl rfl rfl ?_
        refine WL.skip rfl rfl rfl ?_
        refine WL.skip rfl rfl rfl ?_
        refine WL.val rfl rfl rfl rfl (r_pickF rfl (ev_t rfl) ev_c) ?_
        refine WL.val rfl rfl rfl rfl (r_move rfl (ev_t rfl)) ?_
        refine WL.skip rfl rfl rfl ?_
        refine WL.skip rfl rfl rfl ?_
        refine WL.val rfl rfl rfl rfl (r_pickF rfl (ev_t rfl) ev_c) ?_
        refine WL.val rfl rfl rfl rfl (r_move rfl (ev_t rfl)) ?_
        refine WL.skip rfl rfl rfl ?_
        refine WL.skip rfl rfl rfl ?_
        refine WL.val rfl rfl rfl rfl (r_pickF rfl (ev_t rfl) ev_c) ?_
        refine WL.val rfl rfl rfl rfl (r_move rfl (ev_t rfl)) ?_
        refine WL.skip rfl rfl rfl ?_
        refine WL.skip rfl rfl rfl ?_
        refine WL.skip rfl rfl rfl ?_
        refine WL.val rfl rfl rfl rfl (r_pickF rfl (ev_t rfl) ev_c) ?_
        refine WL.val rfl rfl rfl rfl (r_move rfl (ev_t rfl)) ?_
        refine WL.val rfl rfl rfl rfl (r_pickF rfl (ev_t rfl) ev_c) ?_
        refine WL.val rfl rfl rfl rfl (r_assign rfl (ev_t rfl)) ?_
        refine WL.nil ?_
        refine WX.keep [(0, _)] ⟨rfl, trivial⟩ ?_
        refine WX.next ?_
        refine WC.ret ?_
        refine WX.retE1 rfl rfl ?_
        exact ⟨by simp, hU⟩
end Go.Proofs.Ytipabhbnljadfaa

/-
  session.Table: Save.
-/
namespace Go.Proofs.Ytipabhbnljadfaa
open Go
set_option linter.unusedSimpArgs false
set_option linter.unusedVariables false

/-- a session's bytes; a table's -/
def lsB (x : Ls) : List UInt8 := encU x.id ++ (encU x.num ++ (encU x.data.length ++ x.data))
def saveS (L : List Ls) : List UInt8 := encU L.length ++ L.flatMap lsB
theorem encU_len9s {n : Nat} (h : n < 18446744073709551616) : (encU n).length ≤ 9 := by
  rw [encU_length]
  have := blen_le (n := n) (k := 8) (by omega)
  omega
theorem lsB_len {x : Ls} (h : x.ok) : (lsB x).length ≤ 1048603 := by
  obtain ⟨h1, h2, h3, h4, h5⟩ := h
  have e1 := encU_len9s h2
  have e2 := encU_len9s h4
  have e3 := encU_len9s (n := x.data.length) (by omega)
  simp only [lsB, List.length_append]
  omega
theorem lsBs_len : ∀ {L : List Ls}, (∀ x ∈ L, x.ok) → (L.flatMap lsB).length ≤ L.length * 1048603
  | [], _ => by simp
  | x :: L, h => by
    have h1 := lsBs_len (L := L) fun y hy => h y (List.mem_cons_of_mem _ hy)
    have h2 := lsB_len (h x List.mem_cons_self)
    rw [List.flatMap_cons, List.length_append, List.length_cons, Nat.add_mul]
    omega
theorem saveS_len {L : List Ls} (h : TOK L) : (saveS L).length ≤ 67110601 := by
  have h1 := lsBs_len h.ok
  have h2 := h.most
  have h3 := encU_len9s (n := L.length) (by omega)
  simp only [saveS, List.length_append]
  omega
theorem take_len {L : List Ls} (h : TOK L) (i : Nat) : ((L.take i).flatMap lsB).length ≤ 67110592 := by
  have h1 := lsBs_len (L := L.take i) fun x hx => h.ok x (List.mem_of_mem_take hx)
  have h2 := h.most
  rw [List.length_take] at h1
  omega
theorem take_flat {L : List Ls} {i : Nat} {x : Ls} (h : L[i]? = some x) : (L.take (i + 1)).flatMap lsB = (L.take i).flatMap lsB ++ lsB x := by
  rw [List.take_add_one, h]
  simp

set_option maxHeartbeats 1000000 in
theorem Save_ok {w : World} {R : Nat → Prop} {t : Nat} {L : List Ls} (hT : IsT w R t L) (hL : TOK L) :
    Ret Try.prog 14 #[.pointer (some ⟨t, 0, none⟩)] w fun u w' => Own w' (New w w') 5 1 u (saveS L).length ((saveS L).map U8) ∧ Upd No w w' := by
  have hT' := hT
  obtain ⟨A, c, V, G, H, hB, hO, hD, hLV, hRt, htl, hG, hH⟩ := hT'
  have hm := hL.most
  have hlen : V.length = L.length := by rw [← hLV, List.length_map]
  have hr := (hO.rd (by omega)).mono (F' := fun k => k < w.heap.size) (fun k hk => (hG k hk).2.2)
  refine enterRet (vs := [_]) (N := 48) Try.func14 rfl rfl rfl ?_
  have hU := Upd.refl No w
  refine WC.keep [(0, _)] ⟨rfl, trivial⟩ ?_
  refine WC.seq ?_
  refine WC.region ?_
  refine WL.val rfl rfl rfl rfl (r_assign rfl ev_c) ?_
  refine WL.nil ?_
  refine WX.keep [(0, _)] ⟨rfl, trivial⟩ ?_
  refine WX.next ?_
  refine WC.seq ?_
  refine WC.region ?_
  refine WL.val rfl rfl rfl rfl (r_build (cs := #[_]) (vs := []) rfl trivial plc_64 zero_64 rfl) ?_
  refine WL.cons (SO.alloc rfl rfl rfl rfl (r_boxAgg rfl (ev_t rfl)) ?_)
  intro w1 hu1 hB1 hz1
  have hs1 := hu1.size
  replace hU := hU.trans hu1 (by first | exact (fun _ _ h => h) | exact (fun _ _ h => h.elim) | (intro k hl hk; (try simp only [At, New, Grow, From, No] at hk ⊢); omega) | (intro k hl hk; (try simp only [At, New, Grow, From, No] at *); omega))
  refine WL.val rfl rfl rfl rfl (r_assign rfl (ev_t rfl)) ?_
  refine WL.nil ?_
  refine WX.keep [(0, _), (3, _)] ⟨rfl, rfl, trivial⟩ ?_
  refine WX.next ?_
  refine WC.seq ?_
  refine WC.region ?_
  refine WL.val rfl rfl rfl rfl (r_move rfl (ev_t rfl)) ?_
  refine WL.val rfl rfl rfl rfl (r_move rfl (ev_t rfl)) ?_
  refine WL.cons (SO.call (Len_ok (hT.upd hU (fun _ _ _ h => h))) rfl body_13 ⟨(ev_t rfl), trivial⟩ rfl rfl rfl rfl ?_)
  rintro v w2 ⟨rfl, hu2⟩
  have hs2 := hu2.size
  replace hU := hU.trans hu2 (by first | exact (fun _ _ h => h) | exact (fun _ _ h => h.elim) | (intro k hl hk; (try simp only [At, New, Grow, From, No] at hk ⊢); omega) | (intro k hl hk; (try simp only [At, New, Grow, From, No] at *); omega))
  replace hB1 := hB1.updA hu2
  first | refine WL.val rfl rfl rfl rfl (r_convN rfl (ev_t rfl) some_3 int_27 (by simp only [inK]; omega)) ?_ | refine WL.val rfl rfl rfl rfl (r_conv rfl (ev_t rfl) some_3 int_27) ?_
  have hI := IsW.of (M := New w w2) hB1 ⟨Nat.le_refl _, by omega⟩
  refine WL.cons (SO.call (wuint_ok (n := L.length) hI (by omega) (by simp)) rfl body_23 ⟨(ev_t rfl), (ev_t rfl), trivial⟩ rfl rfl rfl rfl ?_)
  rintro v w3 ⟨rfl, hI, hu3⟩
  rw [List.nil_append] at hI
  replace hI := hI.mono (M' := New w w3) (fun k hk => by have := hu3.size; simp only [New, Grow] at *; omega)
  have hs3 := hu3.size
  replace hU := hU.trans hu3 (by first | exact (fun _ _ h => h) | exact (fun _ _ h => h.elim) | (intro k hl hk; (try simp only [At, New, Grow, From, No] at hk ⊢); omega) | (intro k hl hk; (try simp only [At, New, Grow, From, No] at *); omega))
  refine WL.nil ?_
  refine WX.keep [(0, _), (3, _)] ⟨rfl, rfl, trivial⟩ ?_
  refine WX.next ?_
  refine WC.seq ?_
  refine WC.seq ?_
  refine WC.region ?_
  refine WL.val rfl rfl rfl rfl (r_move rfl (ev_t rfl)) ?_
  refine WL.cons (SO.call (Len_ok (hT.upd hU (fun _ _ _ h => h))) rfl body_13 ⟨(ev_t rfl), trivial⟩ rfl rfl rfl rfl ?_)
  rintro v w4 ⟨rfl, hu4⟩
  replace hI := hI.upd hu4 (fun _ _ _ h => h)
  replace hI := hI.mono (M' := New w w4) (fun k hk => by have := hu4.size; simp only [New, Grow] at *; omega)
  have hs4 := hu4.size
  replace hU := hU.trans hu4 (by first | exact (fun _ _ h => h) | exact (fun _ _ h => h.elim) | (intro k hl hk; (try simp only [At, New, Grow, From, No] at hk ⊢); omega) | (intro k hl hk; (try simp only [At, New, Grow, From, No] at *); omega))
  refine WL.val rfl rfl rfl rfl (r_move rfl ev_c) ?_
  refine WL.nil ?_
  refine WX.keep [(0, _), (3, _), (13, _), (14, _)] ⟨rfl, rfl, rfl, rfl, trivial⟩ ?_
  refine WX.next ?_
  refine WC.block ?_
  -- loop 1: live [0, 3, 13, 14]
  refine WC.keep [(0, _), (3, _), (13, _), (14, _)] ⟨rfl, rfl, rfl, rfl, trivial⟩ ?_
  refine WC.loop (fun q E w' => ∃ i : Nat, i ≤ L.length ∧ q = L.length - i ∧ Upd No w w' ∧ IsW w' (New w w') w.heap.size (encU L.length ++ (L.take i).flatMap lsB) ∧   E = [(0, .pointer (some ⟨t, 0, none⟩)), (3, .pointer (some ⟨w.heap.size, 0, none⟩)), (13, .int .i64 (L.length : Int)), (14, .int .i64 (i : Int))]) (L.length) ?_ ?_
  · exact ⟨0, by omega, by omega, hU, by simpa using hI, rfl⟩
  · clear hU hI
    rintro q E w' ⟨i, hi, rfl, hU, hI, rfl⟩
    have hw0 := hU.size
    refine WC.seq ?_
    refine WC.region ?_
    refine WL.val rfl rfl rfl rfl (r_lss rfl (ev_t rfl) (ev_t rfl)) ?_
    refine WL.nil ?_
    refine WX.keep [(0, _), (3, _), (13, _), (14, _), (15, _)] ⟨rfl, rfl, rfl, rfl, rfl, trivial⟩ ?_
    refine WX.next ?_
    refine WC.seq ?_
    refine WC.cond rfl (ev_t rfl) (fun hc4 => ?_) (fun hc4 => ?_)
    · try (exfalso; first | (simp at hc4; done) | (simp only [decide_eq_true_eq, decide_eq_false_iff_not, Bool.not_eq_true', Bool.not_eq_false', Bool.not_eq_true, Bool.not_eq_false] at hc4; omega) | omega)
      all_goals
       try simp only [decide_eq_true_eq, decide_eq_false_iff_not, Bool.not_eq_true', Bool.not_eq_false', Bool.not_eq_true, Bool.not_eq_false, Option.isNone_none, Option.isNone_some, Option.isSome_none, Option.isSome_some, ne_eq, Decidable.not_not] at hc4
       obtain ⟨r, hg⟩ : ∃ r, V[i]? = some r := ⟨_, List.getElem?_eq_getElem (by omega)⟩
       have hLi : L[i]? = some r.x := by rw [← hLV, List.getElem?_map, hg]; rfl
       obtain ⟨b, off, rfl, _⟩ := hr.open (by omega)
       have hcell := flatMap_get LsV.cells_len hg
       have hxo := hL.ok _ (List.mem_of_getElem? hLi)
       obtain ⟨hx1, hx2, hx3, hx4, hx5⟩ := hxo
       have htk := take_len hL i
       have he0 := encU_len9s (n := L.length) (by omega)
       have he1 := encU_len9s hx2
       have he2 := encU_len9s hx4
       refine WC.skip ?_
       refine WX.next ?_
       refine WC.seq ?_
       refine WC.block ?_
       refine WC.seq ?_
       refine WC.region ?_
       refine WL.val rfl rfl rfl rfl (r_move rfl (ev_t rfl)) ?_
       refine WL.val rfl rfl rfl rfl (r_assign rfl (ev_t rfl)) ?_
       refine WL.nil ?_
       refine WX.keep [(0, _), (3, _), (4, _), (13, _), (14, _)] ⟨rfl, rfl, rfl, rfl, rfl, trivial⟩ ?_
       refine WX.next ?_
       refine WC.draws' (fun u0_ u1_ => Upd (From w.heap.size) u0_ u1_) (fun j => [0, 0, 0, 0, 0, 0, 0, 0, 0, 1, 0, 0, 0, 0, 0, 0, 0, 0, 1, 0, 0, 0, 0, 0, 0, 0, 0, 2].getD j 0) (.calm 0 (.calm 1 (.calm 2 (.calm 3 (.calm 5 (.calm 10 (.calm 11 (.calm 12 (.calm 14 (.calm 19 (.calm 20 (.calm 21 (.calm 23 (.held 4 (.calm 6 (.calm 7 (.held 8 (.held 13 (.calm 15 (.calm 16 (.held 17 (.held 22 (.calm 24 (.calm 25 (.held 26 (.one 9 (.one 18 (.one 27 (.done))))))))))))))))))))))))))))) mixed (by kernel_rfl) (by repeat (first | with_reducible exact Deaf.body | with_reducible apply Deaf.then | with_reducible apply Deaf.block)) ?_
       intro w5 hu5
       have hz5 := congrArg Array.size hu5.2.2.2
       replace hu5 := Upd.of_draw hu5
       have hs5 := hu5.size
       replace hU := hU.trans hu5 (by first | exact (fun _ _ h => h) | exact (fun _ _ h => h.elim) | (intro k hl hk; (try simp only [At, New, Grow, From, No] at hk ⊢); omega) | (intro k hl hk; (try simp only [At, New, Grow, From, No] at *); omega))
       replace hI := hI.upd hu5 (fun _ _ _ h => h)
       have hS6 := Upd.refl (From w.heap.size) w5
       refine WN.calm _ rfl rfl rfl rfl rfl (fun _ => r_move rfl (ev_t rfl)) ?_
       refine WN.calm _ rfl rfl rfl rfl rfl (fun _ => r_move rfl (ev_t rfl)) ?_
       refine WN.calm _ rfl rfl rfl rfl rfl (fun _ => r_nilCheck rfl (ev_t rfl)) ?_
       first | refine WN.calm _ rfl rfl rfl rfl rfl (fun _ => r_field0 rfl (ev_t rfl) fld_55_0) ?_ | refine WN.calm _ rfl rfl rfl rfl rfl (fun _ => r_fieldAt rfl (ev_t rfl) fld_55_0) ?_
       refine WN.calm _ rfl rfl rfl rfl rfl (fun _ => r_move rfl (ev_t rfl)) ?_
       refine WN.calm _ rfl rfl rfl rfl rfl (fun _ => r_move rfl (ev_t rfl)) ?_
       refine WN.calm _ rfl rfl rfl rfl rfl (fun _ => r_nilCheck rfl (ev_t rfl)) ?_
       first | refine WN.calm _ rfl rfl rfl rfl rfl (fun _ => r_field0 rfl (ev_t rfl) fld_55_0) ?_ | refine WN.calm _ rfl rfl rfl rfl rfl (fun _ => r_fieldAt rfl (ev_t rfl) fld_55_0) ?_
       refine WN.calm _ rfl rfl rfl rfl rfl (fun _ => r_move rfl (ev_t rfl)) ?_
       refine WN.calm _ rfl rfl rfl rfl rfl (fun _ => r_move rfl (ev_t rfl)) ?_
       refine WN.calm _ rfl rfl rfl rfl rfl (fun _ => r_nilCheck rfl (ev_t rfl)) ?_
       first | refine WN.calm _ rfl rfl rfl rfl rfl (fun _ => r_field0 rfl (ev_t rfl) fld_55_0) ?_ | refine WN.calm _ rfl rfl rfl rfl rfl (fun _ => r_fieldAt rfl (ev_t rfl) fld_55_0) ?_
       refine WN.calm _ rfl rfl rfl rfl rfl (fun _ => r_move rfl (ev_t rfl)) ?_
       refine WN.held _ rfl rfl rfl rfl rfl hS6 (fun w' hS => r_load rfl (ev_t rfl) flat_53 (Blk.cell ((hB.upd hU (fun h => h)).upd hS (by (try simp only [At, From, No, Grow, New]); omega)) rfl)) ?_
       refine WN.calm _ rfl rfl rfl rfl rfl (fun _ => r_indexAddr rfl (ev_t rfl) (ev_t rfl) elem_53 size_58 (by omega) (by omega)) ?_
       first | refine WN.calm _ rfl rfl rfl rfl rfl (fun _ => r_field0 rfl (ev_t rfl) fld_58_0) ?_ | refine WN.calm _ rfl rfl rfl rfl rfl (fun _ => r_fieldAt rfl (ev_t rfl) fld_58_0) ?_
       refine WN.held _ rfl rfl rfl rfl rfl hS6 (fun w' hS => r_load rfl (ev_t rfl) flat_27 (Rd.cell ((hr.upd hU (fun _ _ _ h => h)).upd hS (by intro k hk hl hS'; (try simp only [At, From, No, Grow, New] at hk hS'); omega)) (j := i * 3) (by omega) (hcell 0 _ rfl))) ?_
       refine WN.held _ rfl rfl rfl rfl rfl hS6 (fun w' hS => r_load rfl (ev_t rfl) flat_53 (Blk.cell ((hB.upd hU (fun h => h)).upd hS (by (try simp only [At, From, No, Grow, New]); omega)) rfl)) ?_
       refine WN.calm _ rfl rfl rfl rfl rfl (fun _ => r_indexAddr rfl (ev_t rfl) (ev_t rfl) elem_53 size_58 (by omega) (by omega)) ?_
       first | refine WN.calm _ rfl rfl rfl rfl rfl (fun _ => r_field0 rfl (ev_t rfl) fld_58_1) ?_ | refine WN.calm _ rfl rfl rfl rfl rfl (fun _ => r_fieldAt rfl (ev_t rfl) fld_58_1) ?_
       refine WN.held _ rfl rfl rfl rfl rfl hS6 (fun w' hS => r_load rfl (ev_t rfl) flat_27 (Rd.cell ((hr.upd hU (fun _ _ _ h => h)).upd hS (by intro k hk hl hS'; (try simp only [At, From, No, Grow, New] at hk hS'); omega)) (j := i * 3 + 1) (by omega) (hcell 1 _ rfl))) ?_
       refine WN.held _ rfl rfl rfl rfl rfl hS6 (fun w' hS => r_load rfl (ev_t rfl) flat_53 (Blk.cell ((hB.upd hU (fun h => h)).upd hS (by (try simp only [At, From, No, Grow, New]); omega)) rfl)) ?_
       refine WN.calm _ rfl rfl rfl rfl rfl (fun _ => r_indexAddr rfl (ev_t rfl) (ev_t rfl) elem_53 size_58 (by omega) (by omega)) ?_
       first | refine WN.calm _ rfl rfl rfl rfl rfl (fun _ => r_field0 rfl (ev_t rfl) fld_58_2) ?_ | refine WN.calm _ rfl rfl rfl rfl rfl (fun _ => r_fieldAt rfl (ev_t rfl) fld_58_2) ?_
       refine WN.held _ rfl rfl rfl rfl rfl hS6 (fun w' hS => r_load rfl (ev_t rfl) flat_23 (Rd.cell ((hr.upd hU (fun _ _ _ h => h)).upd hS (by intro k hk hl hS'; (try simp only [At, From, No, Grow, New] at hk hS'); omega)) (j := i * 3 + 2) (by omega) (hcell 2 _ rfl))) ?_
       refine WN.step _ rfl (SO.call (wuint_ok (n := r.x.id) hI hx2 (by simp only [List.length_append]; omega)) rfl body_23 ⟨(ev_t rfl), (ev_t rfl), trivial⟩ rfl rfl rfl rfl ?_)
       rintro v w6 ⟨rfl, hI, hu6⟩
       replace hI := hI.mono (M' := New w w6) (fun k hk => by have := hu6.size; simp only [New, Grow] at *; omega)
       have hs6 := hu6.size
       replace hS6 := Upd.transA hS6 hu6
       replace hU := hU.trans hu6 (by first | exact (fun _ _ h => h) | exact (fun _ _ h => h.elim) | (intro k hl hk; (try simp only [At, New, Grow, From, No] at hk ⊢); omega) | (intro k hl hk; (try simp only [At, New, Grow, From, No] at *); omega))
       refine ⟨hS6, ?_⟩
       refine WN.step _ rfl (SO.call (wuint_ok (n := r.x.num) hI hx4 (by simp only [List.length_append]; omega)) rfl body_23 ⟨(ev_t rfl), (ev_t rfl), trivial⟩ rfl rfl rfl rfl ?_)
       rintro v w7 ⟨rfl, hI, hu7⟩
       replace hI := hI.mono (M' := New w w7) (fun k hk => by have := hu7.size; simp only [New, Grow] at *; omega)
       have hs7 := hu7.size
       replace hS6 := Upd.transA hS6 hu7
       replace hU := hU.trans hu7 (by first | exact (fun _ _ h => h) | exact (fun _ _ h => h.elim) | (intro k hl hk; (try simp only [At, New, Grow, From, No] at hk ⊢); omega) | (intro k hl hk; (try simp only [At, New, Grow, From, No] at *); omega))
       refine ⟨hS6, ?_⟩
       have hDr := (hD r (List.mem_of_getElem? hg)).upd hU (fun _ _ _ h => h)
       refine WN.step _ rfl (SO.call (wbytes_ok hI hDr (fun k hk h => by have := hH k hk; simp only [New] at h; omega) (by simp only [List.length_append]; omega)) rfl body_24 ⟨(ev_t rfl), (ev_t rfl), trivial⟩ rfl rfl rfl rfl ?_)
       rintro v w8 ⟨rfl, hI, hu8⟩
       replace hI := hI.mono (M' := New w w8) (fun k hk => by have := hu8.size; simp only [New, Grow] at *; omega)
       have hs8 := hu8.size
       try replace hS6 := Upd.transA hS6 hu8
       replace hU := hU.trans hu8 (by first | exact (fun _ _ h => h) | exact (fun _ _ h => h.elim) | (intro k hl hk; (try simp only [At, New, Grow, From, No] at hk ⊢); omega) | (intro k hl hk; (try simp only [At, New, Grow, From, No] at *); omega))
       refine ⟨trivial, ?_⟩
       refine WN.done ?_
       refine WX.keep [(0, _), (3, _), (13, _), (14, _)] ⟨rfl, rfl, rfl, rfl, trivial⟩ ?_
       refine WX.blockNormal ?_
       refine WX.next ?_
       refine WC.region ?_
       first | refine WL.val rfl rfl rfl rfl (r_addN rfl (ev_t rfl) ev_c (by simp only [inK]; omega)) ?_ | refine WL.val rfl rfl rfl rfl (r_add rfl (ev_t rfl) ev_c) ?_
       refine WL.val rfl rfl rfl rfl (r_move rfl (ev_t rfl)) ?_
       refine WL.nil ?_
       refine WX.keep [(0, _), (3, _), (13, _), (14, _)] ⟨rfl, rfl, rfl, rfl, trivial⟩ ?_
       refine WX.meet [(0, _), (3, _), (13, _), (14, _)] ⟨rfl, rfl, rfl, rfl, trivial⟩ ?_
       refine ⟨L.length - (i + 1), by omega, i + 1, by omega, rfl, hU, ?_, rfl⟩
       rw [take_flat hLi]
       simpa only [lsB, List.append_assoc] using hI
    · try (exfalso; first | (simp at hc4; done) | (simp only [decide_eq_true_eq, decide_eq_false_iff_not, Bool.not_eq_true', Bool.not_eq_false', Bool.not_eq_true, Bool.not_eq_false] at hc4; omega) | omega)
      all_goals
       try simp only [decide_eq_true_eq, decide_eq_false_iff_not, Bool.not_eq_true', Bool.not_eq_false', Bool.not_eq_true, Bool.not_eq_false, Option.isNone_none, Option.isNone_some, Option.isSome_none, Option.isSome_some, ne_eq, Decidable.not_not] at hc4
       obtain rfl : i = L.length := by omega
       rw [List.take_length] at hI
       refine WC.exit ?_
       refine WX.thenExit ?_
       refine WX.thenExit ?_
       refine WX.blockHere ?_
       refine WX.next ?_
       refine WC.seq ?_
       refine WC.region ?_
       refine WL.val rfl rfl rfl rfl (r_move rfl (ev_t rfl)) ?_
       refine WL.cons (SO.call (wdone_ok hI (by have := saveS_len hL; simp only [saveS] at this; omega)) rfl body_25 ⟨(ev_t rfl), trivial⟩ rfl rfl rfl rfl ?_)
       rintro v w9 ⟨ho, hu9⟩
       replace ho := ho.mono (F' := New w w9) (fun k hk => by simp only [New] at *; omega)
       have hs9 := hu9.size
       replace hU := hU.trans hu9 (by first | exact (fun _ _ h => h) | exact (fun _ _ h => h.elim) | (intro k hl hk; (try simp only [At, New, Grow, From, No] at hk ⊢); omega) | (intro k hl hk; (try simp only [At, New, Grow, From, No] at *); omega))
       replace hI := hI.upd hu9 (fun _ _ _ h => h)
       refine WL.val rfl rfl rfl rfl (r_assign rfl (ev_t rfl)) ?_
       refine WL.nil ?_
       refine WX.keep [(2, _)] ⟨rfl, trivial⟩ ?_
       refine WX.next ?_
       refine WC.ret ?_
       refine WX.retE1 rfl rfl ?_
       exact ⟨ho, hU⟩
set_option maxHeartbeats 1000000 in
theorem Save_nil {w : World} : Ret Try.prog 14 #[.pointer none] w fun u w' => Own w' (New w w') 5 1 u (saveS []).length ((saveS []).map U8) ∧ Upd No w w' := by
  have hn0 : ∀ w, Ret Try.prog 13 #[.pointer none] w fun u w' => u = .int .i64 0 ∧ Upd No w w' := fun w => by
    refine enterRet (vs := [_]) (N := 10) Try.func13 rfl rfl rfl ?_
    have hU := Upd.refl No w
    refine WC.keep [(0, _)] ⟨rfl, trivial⟩ ?_
    refine WC.seq ?_
    refine WC.region ?_
    refine WL.val rfl rfl rfl rfl (r_assign rfl ev_c) ?_
    refine WL.nil ?_
    refine WX.keep [(0, _)] ⟨rfl, trivial⟩ ?_
    refine WX.next ?_
    refine WC.seq ?_
    refine WC.seq ?_
    refine WC.region ?_
    refine WL.val rfl rfl rfl rfl (r_move rfl (ev_t rfl)) ?_
    refine WL.val rfl rfl rfl rfl (r_eqlPtrNil rfl (ev_t rfl) ev_c ptr_25) ?_
    refine WL.nil ?_
    refine WX.keep [(0, _), (4, _)] ⟨rfl, rfl, trivial⟩ ?_
    refine WX.next ?_
    refine WC.cond rfl (ev_t rfl) (fun hc1 => ?_) (fun hc1 => ?_)
    · try (exfalso; first | (simp at hc1; done) | (simp only [decide_eq_true_eq, decide_eq_false_iff_not, Bool.not_eq_true', Bool.not_eq_false', Bool.not_eq_true, Bool.not_eq_false] at hc1; omega) | omega)
      all_goals
       try simp only [decide_eq_true_eq, decide_eq_false_iff_not, Bool.not_eq_true', Bool.not_eq_false', Bool.not_eq_true, Bool.not_eq_false, Option.isNone_none, Option.isNone_some, Option.isSome_none, Option.isSome_some, ne_eq, Decidable.not_not] at hc1
       refine WC.seq ?_
       refine WC.region ?_
       refine WL.val rfl rfl rfl rfl (r_assign rfl ev_c) ?_
       refine WL.nil ?_
       refine WX.keep [(2, _)] ⟨rfl, trivial⟩ ?_
       refine WX.next ?_
       refine WC.ret ?_
       refine WX.thenRet ?_
       refine WX.retE1 rfl rfl ?_
       exact ⟨rfl, hU⟩
    · try (exfalso; first | (simp at hc1; done) | (simp only [decide_eq_true_eq, decide_eq_false_iff_not, Bool.not_eq_true', Bool.not_eq_false', Bool.not_eq_true, Bool.not_eq_false] at hc1; omega) | omega)
      all_goals
       try simp only [decide_eq_true_eq, decide_eq_false_iff_not, Bool.not_eq_true', Bool.not_eq_false', Bool.not_eq_true, Bool.not_eq_false, Option.isNone_none, Option.isNone_some, Option.isSome_none, Option.isSome_some, ne_eq, Decidable.not_not] at hc1
       refine WC.skip ?_
       refine WX.next ?_
       refine WC.seq ?_
       refine WC.region ?_
       refine WL.val rfl rfl rfl rfl (r_move rfl (ev_t rfl)) ?_
       refine WL.val rfl rfl rfl rfl (r_nilCheck rfl (ev_t rfl)) ?_
       first | refine WL.val rfl rfl rfl rfl (r_field0 rfl (ev_t rfl) fld_55_0) ?_ | refine WL.val rfl rfl rfl rfl (r_fieldAt rfl (ev_t rfl) fld_55_0) ?_
       fail -- load 3.3: no facts
  refine enterRet (vs := [_]) (N := 48) Try.func14 rfl rfl rfl ?_
  have hU := Upd.refl No w
  refine WC.keep [(0, _)] ⟨rfl, trivial⟩ ?_
  refine WC.seq ?_
  refine WC.region ?_
  refine WL.val rfl rfl rfl rfl (r_assign rfl ev_c) ?_
  refine WL.nil ?_
  refine WX.keep [(0, _)] ⟨rfl, trivial⟩ ?_
  refine WX.next ?_
  refine WC.seq ?_
  refine WC.region ?_
  refine WL.val rfl rfl rfl rfl (r_build (cs := #[_]) (vs := []) rfl trivial plc_64 zero_64 rfl) ?_
  refine WL.cons (SO.alloc rfl rfl rfl rfl (r_boxAgg rfl (ev_t rfl)) ?_)
  intro w1 hu1 hB1 hz1
  have hs1 := hu1.size
  replace hU := hU.trans hu1 (by first | exact (fun _ _ h => h) | exact (fun _ _ h => h.elim) | (intro k hl hk; (try simp only [At, New, Grow, From, No] at hk ⊢); omega) | (intro k hl hk; (try simp only [At, New, Grow, From, No] at *); omega))
  refine WL.val rfl rfl rfl rfl (r_assign rfl (ev_t rfl)) ?_
  refine WL.nil ?_
  refine WX.keep [(0, _), (3, _)] ⟨rfl, rfl, trivial⟩ ?_
  refine WX.next ?_
  refine WC.seq ?_
  refine WC.region ?_
  refine WL.val rfl rfl rfl rfl (r_move rfl (ev_t rfl)) ?_
  refine WL.val rfl rfl rfl rfl (r_move rfl (ev_t rfl)) ?_
  refine WL.cons (SO.call (hn0 _) rfl body_13 ⟨(ev_t rfl), trivial⟩ rfl rfl rfl rfl ?_)
  rintro v w2 ⟨rfl, hu2⟩
  have hs2 := hu2.size
  replace hU := hU.trans hu2 (by first | exact (fun _ _ h => h) | exact (fun _ _ h => h.elim) | (intro k hl hk; (try simp only [At, New, Grow, From, No] at hk ⊢); omega) | (intro k hl hk; (try simp only [At, New, Grow, From, No] at *); omega))
  replace hB1 := hB1.updA hu2
  first | refine WL.val rfl rfl rfl rfl (r_convN rfl (ev_t rfl) some_3 int_27 (by simp only [inK]; omega)) ?_ | refine WL.val rfl rfl rfl rfl (r_conv rfl (ev_t rfl) some_3 int_27) ?_
  have hI := IsW.of (M := New w w2) hB1 ⟨Nat.le_refl _, by omega⟩
  refine WL.cons (SO.call (wuint_ok (n := 0) hI (by omega) (by simp)) rfl body_23 ⟨(ev_t rfl), (ev_t rfl), trivial⟩ rfl rfl rfl rfl ?_)
  rintro v w3 ⟨rfl, hI, hu3⟩
  rw [List.nil_append] at hI
  replace hI := hI.mono (M' := New w w3) (fun k hk => by have := hu3.size; simp only [New, Grow] at *; omega)
  have hs3 := hu3.size
  replace hU := hU.trans hu3 (by first | exact (fun _ _ h => h) | exact (fun _ _ h => h.elim) | (intro k hl hk; (try simp only [At, New, Grow, From, No] at hk ⊢); omega) | (intro k hl hk; (try simp only [At, New, Grow, From, No] at *); omega))
  refine WL.nil ?_
  refine WX.keep [(0, _), (3, _)] ⟨rfl, rfl, trivial⟩ ?_
  refine WX.next ?_
  refine WC.seq ?_
  refine WC.seq ?_
  refine WC.region ?_
  refine WL.val rfl rfl rfl rfl (r_move rfl (ev_t rfl)) ?_
  refine WL.cons (SO.call (hn0 _) rfl body_13 ⟨(ev_t rfl), trivial⟩ rfl rfl rfl rfl ?_)
  rintro v w4 ⟨rfl, hu4⟩
  replace hI := hI.upd hu4 (fun _ _ _ h => h)
  replace hI := hI.mono (M' := New w w4) (fun k hk => by have := hu4.size; simp only [New, Grow] at *; omega)
  have hs4 := hu4.size
  replace hU := hU.trans hu4 (by first | exact (fun _ _ h => h) | exact (fun _ _ h => h.elim) | (intro k hl hk; (try simp only [At, New, Grow, From, No] at hk ⊢); omega) | (intro k hl hk; (try simp only [At, New, Grow, From, No] at *); omega))
  refine WL.val rfl rfl rfl rfl (r_move rfl ev_c) ?_
  refine WL.nil ?_
  refine WX.keep [(0, _), (3, _), (13, _), (14, _)] ⟨rfl, rfl, rfl, rfl, trivial⟩ ?_
  refine WX.next ?_
  refine WC.block ?_
  -- loop 1: live [0, 3, 13, 14]
  refine WC.keep [(0, _), (3, _), (13, _), (14, _)] ⟨rfl, rfl, rfl, rfl, trivial⟩ ?_
  refine WC.loop (fun q E w' => q = 0 ∧ Upd No w w' ∧ IsW w' (New w w') w.heap.size (encU 0) ∧   E = [(0, .pointer none), (3, .pointer (some ⟨w.heap.size, 0, none⟩)), (13, .int .i64 0), (14, .int .i64 0)]) (0) ?_ ?_
  · exact ⟨rfl, hU, hI, rfl⟩
  · clear hU hI
    rintro q E w' ⟨rfl, hU, hI, rfl⟩
    have hw0 := hU.size
    refine WC.seq ?_
    refine WC.region ?_
    refine WL.val rfl rfl rfl rfl (r_lss rfl (ev_t rfl) (ev_t rfl)) ?_
    refine WL.nil ?_
    refine WX.keep [(0, _), (3, _), (13, _), (14, _), (15, _)] ⟨rfl, rfl, rfl, rfl, rfl, trivial⟩ ?_
    refine WX.next ?_
    refine WC.seq ?_
    refine WC.cond rfl (ev_t rfl) (fun hc4 => ?_) (fun hc4 => ?_)
    · try simp only [decide_eq_true_eq, decide_eq_false_iff_not, Bool.not_eq_true', Bool.not_eq_false', Bool.not_eq_true, Bool.not_eq_false, Option.isNone_none, Option.isNone_some, Option.isSome_none, Option.isSome_some, ne_eq, Decidable.not_not] at hc4
      exfalso
      omega
    · try (exfalso; first | (simp at hc4; done) | (simp only [decide_eq_true_eq, decide_eq_false_iff_not, Bool.not_eq_true', Bool.not_eq_false', Bool.not_eq_true, Bool.not_eq_false] at hc4; omega) | omega)
      all_goals
       try simp only [decide_eq_true_eq, decide_eq_false_iff_not, Bool.not_eq_true', Bool.not_eq_false', Bool.not_eq_true, Bool.not_eq_false, Option.isNone_none, Option.isNone_some, Option.isSome_none, Option.isSome_some, ne_eq, Decidable.not_not] at hc4
       refine WC.exit ?_
       refine WX.thenExit ?_
       refine WX.thenExit ?_
       refine WX.blockHere ?_
       refine WX.next ?_
       refine WC.seq ?_
       refine WC.region ?_
       refine WL.val rfl rfl rfl rfl (r_move rfl (ev_t rfl)) ?_
       refine WL.cons (SO.call (wdone_ok hI (by have := encU_len9s (n := 0) (by omega); omega)) rfl body_25 ⟨(ev_t rfl), trivial⟩ rfl rfl rfl rfl ?_)
       rintro v w5 ⟨ho, hu5⟩
       replace ho := ho.mono (F' := New w w5) (fun k hk => by simp only [New] at *; omega)
       have hs5 := hu5.size
       replace hU := hU.trans hu5 (by first | exact (fun _ _ h => h) | exact (fun _ _ h => h.elim) | (intro k hl hk; (try simp only [At, New, Grow, From, No] at hk ⊢); omega) | (intro k hl hk; (try simp only [At, New, Grow, From, No] at *); omega))
       refine WL.val rfl rfl rfl rfl (r_assign rfl (ev_t rfl)) ?_
       refine WL.nil ?_
       refine WX.keep [(2, _)] ⟨rfl, trivial⟩ ?_
       refine WX.next ?_
       refine WC.ret ?_
       refine WX.retE1 rfl rfl ?_
       exact ⟨by simpa [saveS] using ho, hU⟩
theorem Ask_nil (w : World) (id num : Nat) : Ret Try.prog 12 #[.pointer none, .int .u64 (id : Int), .int .u64 (num : Int)] w fun u w' => u = .tuple #[.slice none 0 0, .int .i64 15] ∧ Upd No w w' := by
  refine enterRet (vs := [_, _, _]) (N := 72) Try.func12 rfl rfl rfl ?_
  have hU := Upd.refl No w
  refine WC.keep [(0, _), (1, _), (2, _)] ⟨rfl, rfl, rfl, trivial⟩ ?_
  refine WC.seq ?_
  refine WC.region ?_
  refine WL.val rfl rfl rfl rfl (r_assign rfl ev_c) ?_
  refine WL.val rfl rfl rfl rfl (r_assign rfl ev_c) ?_
  refine WL.nil ?_
  refine WX.keep [(0, _), (1, _), (2, _)] ⟨rfl, rfl, rfl, trivial⟩ ?_
  refine WX.next ?_
  refine WC.seq ?_
  refine WC.block ?_
  refine WC.seq ?_
  refine WC.region ?_
  refine WL.val rfl rfl rfl rfl (r_move rfl (ev_t rfl)) ?_
  refine WL.val rfl rfl rfl rfl (r_eqlPtrNil rfl (ev_t rfl) ev_c ptr_25) ?_
  refine WL.val rfl rfl rfl rfl (r_assign rfl (ev_t rfl)) ?_
  refine WL.nil ?_
  refine WX.keep [(0, _), (1, _), (2, _), (10, _)] ⟨rfl, rfl, rfl, rfl, trivial⟩ ?_
  refine WX.next ?_
  refine WC.cond rfl (ev_t rfl) (fun hc1 => ?_) (fun hc1 => ?_)
  · try (exfalso; first | (simp at hc1; done) | (simp only [decide_eq_true_eq, decide_eq_false_iff_not, Bool.not_eq_true', Bool.not_eq_false', Bool.not_eq_true, Bool.not_eq_false] at hc1; omega) | omega)
    all_goals
     try simp only [decide_eq_true_eq, decide_eq_false_iff_not, Bool.not_eq_true', Bool.not_eq_false', Bool.not_eq_true, Bool.not_eq_false, Option.isNone_none, Option.isNone_some, Option.isSome_none, Option.isSome_some, ne_eq, Decidable.not_not] at hc1
     refine WC.seq ?_
     refine WC.region ?_
     refine WL.val rfl rfl rfl rfl (r_assign rfl ev_c) ?_
     refine WL.val rfl rfl rfl rfl (r_assign rfl ev_c) ?_
     refine WL.nil ?_
     refine WX.keep [(6, _), (7, _)] ⟨rfl, rfl, trivial⟩ ?_
     refine WX.next ?_
     refine WC.ret ?_
     refine WX.blockRet ?_
     refine WX.thenRet ?_
     refine WX.retE2 rfl rfl rfl ?_
     exact ⟨rfl, hU⟩
  · try (exfalso; first | (simp at hc1; done) | (simp only [decide_eq_true_eq, decide_eq_false_iff_not, Bool.not_eq_true', Bool.not_eq_false', Bool.not_eq_true, Bool.not_eq_false] at hc1; omega) | omega)
    all_goals
     try simp only [decide_eq_true_eq, decide_eq_false_iff_not, Bool.not_eq_true', Bool.not_eq_false', Bool.not_eq_true, Bool.not_eq_false, Option.isNone_none, Option.isNone_some, Option.isSome_none, Option.isSome_some, ne_eq, Decidable.not_not] at hc1
     refine WC.seq ?_
     refine WC.region ?_
     refine WL.val rfl rfl rfl rfl (r_move rfl (ev_t rfl)) ?_
     refine WL.val rfl rfl rfl rfl (r_eql rfl (ev_t rfl) ev_c) ?_
     refine WL.val rfl rfl rfl rfl (r_move rfl (ev_t rfl)) ?_
     refine WL.cases 16 rfl (fun hb3_2 => ?_) (fun hb3_2 => ?_)
     · try (exfalso; first | (simp at hb3_2; done) | (simp only [decide_eq_true_eq, decide_eq_false_iff_not, Bool.not_eq_true', Bool.not_eq_false', Bool.not_eq_true, Bool.not_eq_false] at hb3_2; omega) | omega)
       all_goals
        try simp only [decide_eq_true_eq, decide_eq_false_iff_not, Bool.not_eq_true', Bool.not_eq_false', Bool.not_eq_true, Bool.not_eq_false, Option.isNone_none, Option.isNone_some, Option.isSome_none, Option.isSome_some, ne_eq, Decidable.not_not] at hb3_2
        refine WL.skip rfl rfl rfl ?_
        refine WL.skip rfl rfl rfl ?_
        refine WL.val rfl rfl rfl rfl (r_pickT rfl (ev_t rfl) ev_c) ?_
        refine WL.val rfl rfl rfl rfl (r_assign rfl (ev_t rfl)) ?_
        refine WL.nil ?_
        refine WX.keep [(0, _), (1, _), (2, _), (13, _)] ⟨rfl, rfl, rfl, rfl, trivial⟩ ?_
        refine WX.next ?_
        refine WC.cond_true rfl (ev_t rfl) ?_
        refine WC.seq ?_
        refine WC.region ?_
        refine WL.val rfl rfl rfl rfl (r_assign rfl ev_c) ?_
        refine WL.val rfl rfl rfl rfl (r_assign rfl ev_c) ?_
        refine WL.nil ?_
        refine WX.keep [(6, _), (7, _)] ⟨rfl, rfl, trivial⟩ ?_
        refine WX.next ?_
        refine WC.ret ?_
        refine WX.blockRet ?_
        refine WX.thenRet ?_
        refine WX.retE2 rfl rfl rfl ?_
        exact ⟨rfl, hU⟩
     · try (exfalso; first | (simp at hb3_2; done) | (simp only [decide_eq_true_eq, decide_eq_false_iff_not, Bool.not_eq_true', Bool.not_eq_false', Bool.not_eq_true, Bool.not_eq_false] at hb3_2; omega) | omega)
       all_goals
        try simp only [decide_eq_true_eq, decide_eq_false_iff_not, Bool.not_eq_true', Bool.not_eq_false', Bool.not_eq_true, Bool.not_eq_false, Option.isNone_none, Option.isNone_some, Option.isSome_none, Option.isSome_some, ne_eq, Decidable.not_not] at hb3_2
        refine WL.val rfl rfl rfl rfl (r_move rfl (ev_t rfl)) ?_
        refine WL.val rfl rfl rfl rfl (r_eql rfl (ev_t rfl) ev_c) ?_
        refine WL.val rfl rfl rfl rfl (r_pickF rfl (ev_t rfl) (ev_t rfl)) ?_
        refine WL.val rfl rfl rfl rfl (r_assign rfl (ev_t rfl)) ?_
        refine WL.nil ?_
        refine WX.keep [(0, _), (1, _), (2, _), (13, _)] ⟨rfl, rfl, rfl, rfl, trivial⟩ ?_
        refine WX.next ?_
        refine WC.cond rfl (ev_t rfl) (fun hc3 => ?_) (fun hc3 => ?_)
        · try (exfalso; first | (simp at hc3; done) | (simp only [decide_eq_true_eq, decide_eq_false_iff_not, Bool.not_eq_true', Bool.not_eq_false', Bool.not_eq_true, Bool.not_eq_false] at hc3; omega) | omega)
          all_goals
           try simp only [decide_eq_true_eq, decide_eq_false_iff_not, Bool.not_eq_true', Bool.not_eq_false', Bool.not_eq_true, Bool.not_eq_false, Option.isNone_none, Option.isNone_some, Option.isSome_none, Option.isSome_some, ne_eq, Decidable.not_not] at hc3
           refine WC.seq ?_
           refine WC.region ?_
           refine WL.val rfl rfl rfl rfl (r_assign rfl ev_c) ?_
           refine WL.val rfl rfl rfl rfl (r_assign rfl ev_c) ?_
           refine WL.nil ?_
           refine WX.keep [(6, _), (7, _)] ⟨rfl, rfl, trivial⟩ ?_
           refine WX.next ?_
           refine WC.ret ?_
           refine WX.blockRet ?_
           refine WX.thenRet ?_
           refine WX.retE2 rfl rfl rfl ?_
           exact ⟨rfl, hU⟩
        · try (exfalso; first | (simp at hc3; done) | (simp only [decide_eq_true_eq, decide_eq_false_iff_not, Bool.not_eq_true', Bool.not_eq_false', Bool.not_eq_true, Bool.not_eq_false] at hc3; omega) | omega)
          all_goals
           try simp only [decide_eq_true_eq, decide_eq_false_iff_not, Bool.not_eq_true', Bool.not_eq_false', Bool.not_eq_true, Bool.not_eq_false, Option.isNone_none, Option.isNone_some, Option.isSome_none, Option.isSome_some, ne_eq, Decidable.not_not] at hc3
           refine WC.skip ?_
           refine WX.blockNormal ?_
           refine WX.next ?_
           refine WC.seq ?_
           refine WC.region ?_
           refine WL.val rfl rfl rfl rfl (r_move rfl (ev_t rfl)) ?_
           refine WL.val rfl rfl rfl rfl (r_move rfl (ev_t rfl)) ?_
           fail -- call 5.2 of (*battledore/session.Table).find
theorem Put_nil (w : World) (id num : Nat) (v : Value) : Ret Try.prog 11 #[.pointer none, .int .u64 (id : Int), .int .u64 (num : Int), v] w fun u w' => u = .int .i64 15 ∧ Upd No w w' := by
  refine enterRet (vs := [_, _, _, _]) (N := 56) Try.func11 rfl rfl rfl ?_
  have hU := Upd.refl No w
  refine WC.keep [(0, _), (1, _), (2, _), (3, _)] ⟨rfl, rfl, rfl, rfl, trivial⟩ ?_
  refine WC.seq ?_
  refine WC.region ?_
  refine WL.val rfl rfl rfl rfl (r_assign rfl ev_c) ?_
  refine WL.nil ?_
  refine WX.keep [(0, _), (1, _), (2, _), (3, _)] ⟨rfl, rfl, rfl, rfl, trivial⟩ ?_
  refine WX.next ?_
  refine WC.seq ?_
  refine WC.seq ?_
  refine WC.region ?_
  refine WL.val rfl rfl rfl rfl (r_move rfl (ev_t rfl)) ?_
  refine WL.val rfl rfl rfl rfl (r_move rfl (ev_t rfl)) ?_
  refine WL.val rfl rfl rfl rfl (r_move rfl (ev_t rfl)) ?_
  refine WL.cons (SO.call (Ask_nil _ id num) rfl body_12 ⟨(ev_t rfl), (ev_t rfl), (ev_t rfl), trivial⟩ rfl rfl rfl rfl ?_)
  rintro v w1 ⟨rfl, hu1⟩
  have hs1 := hu1.size
  replace hU := hU.transA hu1
  refine WL.val rfl rfl rfl rfl (r_move rfl (ev_t rfl)) ?_
  refine WL.val rfl rfl rfl rfl (r_extract rfl (ev_t rfl) rfl) ?_
  refine WL.val rfl rfl rfl rfl (r_extract rfl (ev_t rfl) rfl) ?_
  refine WL.val rfl rfl rfl rfl (r_assign rfl (ev_t rfl)) ?_
  refine WL.val rfl rfl rfl rfl (r_assign rfl (ev_t rfl)) ?_
  refine WL.nil ?_
  refine WX.keep [(0, _), (1, _), (2, _), (3, _), (10, _)] ⟨rfl, rfl, rfl, rfl, rfl, trivial⟩ ?_
  refine WX.next ?_
  refine WC.seq ?_
  refine WC.region ?_
  refine WL.val rfl rfl rfl rfl (r_move rfl (ev_t rfl)) ?_
  refine WL.val rfl rfl rfl rfl (r_neq rfl (ev_t rfl) ev_c) ?_
  refine WL.nil ?_
  refine WX.keep [(0, _), (1, _), (2, _), (3, _), (10, _), (22, _)] ⟨rfl, rfl, rfl, rfl, rfl, rfl, trivial⟩ ?_
  refine WX.next ?_
  refine WC.cond rfl (ev_t rfl) (fun hc2 => ?_) (fun hc2 => ?_)
  · try (exfalso; first | (simp at hc2; done) | (simp only [decide_eq_true_eq, decide_eq_false_iff_not, Bool.not_eq_true', Bool.not_eq_false', Bool.not_eq_true, Bool.not_eq_false] at hc2; omega) | omega)
    all_goals
     try simp only [decide_eq_true_eq, decide_eq_false_iff_not, Bool.not_eq_true', Bool.not_eq_false', Bool.not_eq_true, Bool.not_eq_false, Option.isNone_none, Option.isNone_some, Option.isSome_none, Option.isSome_some, ne_eq, Decidable.not_not] at hc2
     refine WC.seq ?_
     refine WC.seq ?_
     refine WC.region ?_
     refine WL.val rfl rfl rfl rfl (r_move rfl (ev_t rfl)) ?_
     refine WL.val rfl rfl rfl rfl (r_eql rfl (ev_t rfl) ev_c) ?_
     refine WL.nil ?_
     refine WX.keep [(10, _), (24, _)] ⟨rfl, rfl, trivial⟩ ?_
     refine WX.next ?_
     refine WC.cond rfl (ev_t rfl) (fun hc3 => ?_) (fun hc3 => ?_)
     · try (exfalso; first | (simp at hc3; done) | (simp only [decide_eq_true_eq, decide_eq_false_iff_not, Bool.not_eq_true', Bool.not_eq_false', Bool.not_eq_true, Bool.not_eq_false] at hc3; omega) | omega)
       all_goals
        try simp only [decide_eq_true_eq, decide_eq_false_iff_not, Bool.not_eq_true', Bool.not_eq_false', Bool.not_eq_true, Bool.not_eq_false, Option.isNone_none, Option.isNone_some, Option.isSome_none, Option.isSome_some, ne_eq, Decidable.not_not] at hc3
        refine WC.seq ?_
        refine WC.region ?_
        refine WL.val rfl rfl rfl rfl (r_assign rfl ev_c) ?_
        refine WL.nil ?_
        refine WX.keep [(8, _)] ⟨rfl, trivial⟩ ?_
        refine WX.next ?_
        refine WC.ret ?_
        refine WX.thenRet ?_
        refine WX.thenRet ?_
        refine WX.retE1 rfl rfl ?_
        exact ⟨rfl, hU⟩
     · try (exfalso; first | (simp at hc3; done) | (simp only [decide_eq_true_eq, decide_eq_false_iff_not, Bool.not_eq_true', Bool.not_eq_false', Bool.not_eq_true, Bool.not_eq_false] at hc3; omega) | omega)
       all_goals
        try simp only [decide_eq_true_eq, decide_eq_false_iff_not, Bool.not_eq_true', Bool.not_eq_false', Bool.not_eq_true, Bool.not_eq_false, Option.isNone_none, Option.isNone_some, Option.isSome_none, Option.isSome_some, ne_eq, Decidable.not_not] at hc3
        refine WC.skip ?_
        refine WX.next ?_
        refine WC.seq ?_
        refine WC.region ?_
        refine WL.val rfl rfl rfl rfl (r_move rfl (ev_t rfl)) ?_
        refine WL.val rfl rfl rfl rfl (r_assign rfl (ev_t rfl)) ?_
        refine WL.nil ?_
        refine WX.keep [(8, _)] ⟨rfl, trivial⟩ ?_
        refine WX.next ?_
        refine WC.ret ?_
        refine WX.thenRet ?_
        refine WX.retE1 rfl rfl ?_
        exact ⟨rfl, hU⟩
  · try (exfalso; first | (simp at hc2; done) | (simp only [decide_eq_true_eq, decide_eq_false_iff_not, Bool.not_eq_true', Bool.not_eq_false', Bool.not_eq_true, Bool.not_eq_false] at hc2; omega) | omega)
    all_goals
     try simp only [decide_eq_true_eq, decide_eq_false_iff_not, Bool.not_eq_true', Bool.not_eq_false', Bool.not_eq_true, Bool.not_eq_false, Option.isNone_none, Option.isNone_some, Option.isSome_none, Option.isSome_some, ne_eq, Decidable.not_not] at hc2
     refine WC.skip ?_
     refine WX.next ?_
     refine WC.seq ?_
     refine WC.region ?_
     refine WL.val rfl rfl rfl rfl (r_move rfl (ev_t rfl)) ?_
     refine WL.val rfl rfl rfl rfl (r_move rfl (ev_t rfl)) ?_
     refine WL.val rfl rfl rfl rfl (r_move rfl (ev_t rfl)) ?_
     fail -- call 6.3 of slices.Clone[[]byte,byte]
theorem Len_nil (w : World) : Ret Try.prog 13 #[.pointer none] w fun u w' => u = .int .i64 0 ∧ Upd No w w' := by
  refine enterRet (vs := [_]) (N := 10) Try.func13 rfl rfl rfl ?_
  have hU := Upd.refl No w
  refine WC.keep [(0, _)] ⟨rfl, trivial⟩ ?_
  refine WC.seq ?_
  refine WC.region ?_
  refine WL.val rfl rfl rfl rfl (r_assign rfl ev_c) ?_
  refine WL.nil ?_
  refine WX.keep [(0, _)] ⟨rfl, trivial⟩ ?_
  refine WX.next ?_
  refine WC.seq ?_
  refine WC.seq ?_
  refine WC.region ?_
  refine WL.val rfl rfl rfl rfl (r_move rfl (ev_t rfl)) ?_
  refine WL.val rfl rfl rfl rfl (r_eqlPtrNil rfl (ev_t rfl) ev_c ptr_25) ?_
  refine WL.nil ?_
  refine WX.keep [(0, _), (4, _)] ⟨rfl, rfl, trivial⟩ ?_
  refine WX.next ?_
  refine WC.cond rfl (ev_t rfl) (fun hc1 => ?_) (fun hc1 => ?_)
  · try (exfalso; first | (simp at hc1; done) | (simp only [decide_eq_true_eq, decide_eq_false_iff_not, Bool.not_eq_true', Bool.not_eq_false', Bool.not_eq_true, Bool.not_eq_false] at hc1; omega) | omega)
    all_goals
     try simp only [decide_eq_true_eq, decide_eq_false_iff_not, Bool.not_eq_true', Bool.not_eq_false', Bool.not_eq_true, Bool.not_eq_false, Option.isNone_none, Option.isNone_some, Option.isSome_none, Option.isSome_some, ne_eq, Decidable.not_not] at hc1
     refine WC.seq ?_
     refine WC.region ?_
     refine WL.val rfl rfl rfl rfl (r_assign rfl ev_c) ?_
     refine WL.nil ?_
     refine WX.keep [(2, _)] ⟨rfl, trivial⟩ ?_
     refine WX.next ?_
     refine WC.ret ?_
     refine WX.thenRet ?_
     refine WX.retE1 rfl rfl ?_
     exact ⟨rfl, hU⟩
  · try (exfalso; first | (simp at hc1; done) | (simp only [decide_eq_true_eq, decide_eq_false_iff_not, Bool.not_eq_true', Bool.not_eq_false', Bool.not_eq_true, Bool.not_eq_false] at hc1; omega) | omega)
    all_goals
     try simp only [decide_eq_true_eq, decide_eq_false_iff_not, Bool.not_eq_true', Bool.not_eq_false', Bool.not_eq_true, Bool.not_eq_false, Option.isNone_none, Option.isNone_some, Option.isSome_none, Option.isSome_some, ne_eq, Decidable.not_not] at hc1
     refine WC.skip ?_
     refine WX.next ?_
     refine WC.seq ?_
     refine WC.region ?_
     refine WL.val rfl rfl rfl rfl (r_move rfl (ev_t rfl)) ?_
     refine WL.val rfl rfl rfl rfl (r_nilCheck rfl (ev_t rfl)) ?_
     first | refine WL.val rfl rfl rfl rfl (r_field0 rfl (ev_t rfl) fld_55_0) ?_ | refine WL.val rfl rfl rfl rfl (r_fieldAt rfl (ev_t rfl) fld_55_0) ?_
     fail -- load 3.3: no facts

set_option maxHeartbeats 1000000 in
theorem sessionNil.walk {w : World} {id num : Nat} (hid : id < 18446744073709551616) (hnum : num < 18446744073709551616) :
    Ret Try.prog 6 #[.int .u64 (id : Int), .int .u64 (num : Int)] w fun v w' => v = .bool true ∧ Upd No w w' := by
  refine enterRet (vs := [_, _]) (N := 41) Try.func6 rfl rfl rfl ?_
  have hU := Upd.refl No w
  refine WC.keep [(0, _), (1, _)] ⟨rfl, rfl, trivial⟩ ?_
  refine WC.seq ?_
  refine WC.region ?_
  refine WL.val rfl rfl rfl rfl (r_assign rfl ev_c) ?_
  refine WL.nil ?_
  refine WX.keep [(0, _), (1, _)] ⟨rfl, rfl, trivial⟩ ?_
  refine WX.next ?_
  refine WC.seq ?_
  refine WC.region ?_
  refine WL.val rfl rfl rfl rfl (r_assign rfl ev_c) ?_
  refine WL.nil ?_
  refine WX.keep [(0, _), (1, _), (5, _)] ⟨rfl, rfl, rfl, trivial⟩ ?_
  refine WX.next ?_
  refine WC.seq ?_
  refine WC.region ?_
  refine WL.val rfl rfl rfl rfl (r_move rfl (ev_t rfl)) ?_
  refine WL.val rfl rfl rfl rfl (r_move rfl (ev_t rfl)) ?_
  refine WL.val rfl rfl rfl rfl (r_move rfl (ev_t rfl)) ?_
  refine WL.cons (SO.call (Ask_nil _ id num) rfl body_12 ⟨(ev_t rfl), (ev_t rfl), (ev_t rfl), trivial⟩ rfl rfl rfl rfl ?_)
  rintro v w1 ⟨rfl, hu1⟩
  have hs1 := hu1.size
  replace hU := hU.trans hu1 (by first | exact (fun _ _ h => h) | exact (fun _ _ h => h.elim) | (intro k hl hk; (try simp only [At, New, Grow, From, No] at hk ⊢); omega) | (intro k hl hk; (try simp only [At, New, Grow, From, No] at *); omega))
  refine WL.val rfl rfl rfl rfl (r_move rfl (ev_t rfl)) ?_
  refine WL.val rfl rfl rfl rfl (r_extract rfl (ev_t rfl) rfl) ?_
  refine WL.val rfl rfl rfl rfl (r_extract rfl (ev_t rfl) rfl) ?_
  refine WL.val rfl rfl rfl rfl (r_assign rfl (ev_t rfl)) ?_
  refine WL.val rfl rfl rfl rfl (r_assign rfl (ev_t rfl)) ?_
  refine WL.nil ?_
  refine WX.keep [(0, _), (1, _), (5, _), (7, _)] ⟨rfl, rfl, rfl, rfl, trivial⟩ ?_
  refine WX.next ?_
  refine WC.seq ?_
  refine WC.draws' (fun u0_ u1_ => Upd No u0_ u1_) (fun j => [2, 0, 0, 0, 0, 0, 0, 0, 0, 2, 0, 0, 0, 0, 2, 0, 0, 0, 0, 2, 2, 2, 2, 2, 0, 0, 0].getD j 0) (.one 0 (.calm 1 (.calm 2 (.calm 3 (.calm 4 (.calm 5 (.calm 6 (.calm 7 (.calm 8 (.one 9 (.calm 10 (.calm 11 (.calm 12 (.calm 13 (.one 14 (.calm 15 (.calm 16 (.calm 17 (.calm 18 (.one 19 (.two 20 21 (.one 21 (.one 22 (.one 23 (.calm 24 (.calm 25 (.calm 26 (.done))))))) (.two 20 22 (.one 22 (.one 23 (.calm 24 (.calm 25 (.calm 26 (.done)))))) (.two 20 23 (.one 23 (.calm 24 (.calm 25 (.calm 26 (.done))))) (.one 20 (.calm 24 (.calm 25 (.calm 26 (.done)))))))))))))))))))))))))))) mixed (by kernel_rfl) (by repeat (first | with_reducible exact Deaf.body | with_reducible apply Deaf.then | with_reducible apply Deaf.block)) ?_
  intro w2 hu2
  have hz2 := congrArg Array.size hu2.2.2.2
  replace hu2 := Upd.of_draw hu2
  have hs2 := hu2.size
  replace hU := hU.trans hu2 (by first | exact (fun _ _ h => h) | exact (fun _ _ h => h.elim) | (intro k hl hk; (try simp only [At, New, Grow, From, No] at hk ⊢); omega) | (intro k hl hk; (try simp only [At, New, Grow, From, No] at *); omega))
  refine WN.step _ rfl (SO.call (awake17_ok _) rfl body_9 trivial rfl rfl rfl rfl ?_)
  rintro v w3 ⟨rfl, hu3⟩
  have hs3 := hu3.size
  replace hU := hU.trans hu3 (by first | exact (fun _ _ h => h) | exact (fun _ _ h => h.elim) | (intro k hl hk; (try simp only [At, New, Grow, From, No] at hk ⊢); omega) | (intro k hl hk; (try simp only [At, New, Grow, From, No] at *); omega))
  refine ⟨trivial, ?_⟩
  refine WN.calm _ rfl rfl rfl rfl rfl (fun _ => r_move rfl (ev_t rfl)) ?_
  refine WN.cases 16 rfl (fun hb3_1 => ?_) (fun hb3_1 => ?_)
  · try (exfalso; first | (simp at hb3_1; done) | (simp only [decide_eq_true_eq, decide_eq_false_iff_not, Bool.not_eq_true', Bool.not_eq_false', Bool.not_eq_true, Bool.not_eq_false] at hb3_1; omega) | omega)
    all_goals
     try simp only [decide_eq_true_eq, decide_eq_false_iff_not, Bool.not_eq_true', Bool.not_eq_false', Bool.not_eq_true, Bool.not_eq_false, Option.isNone_none, Option.isNone_some, Option.isSome_none, Option.isSome_some, ne_eq, Decidable.not_not] at hb3_1
     refine WN.calm _ rfl rfl rfl rfl rfl (fun _ => r_move rfl (ev_t rfl)) ?_
     refine WN.calm _ rfl rfl rfl rfl rfl (fun _ => r_eql rfl (ev_t rfl) ev_c) ?_
     refine WN.calm _ rfl rfl rfl rfl rfl (fun _ => r_pickT rfl (ev_t rfl) (ev_t rfl)) ?_
     refine WN.calm _ rfl rfl rfl rfl rfl (fun _ => r_move rfl (ev_t rfl)) ?_
     refine WN.cases 20 rfl (fun hb3_5 => ?_) (fun hb3_5 => ?_)
     · try (exfalso; first | (simp at hb3_5; done) | (simp only [decide_eq_true_eq, decide_eq_false_iff_not, Bool.not_eq_true', Bool.not_eq_false', Bool.not_eq_true, Bool.not_eq_false] at hb3_5; omega) | omega)
       all_goals
        try simp only [decide_eq_true_eq, decide_eq_false_iff_not, Bool.not_eq_true', Bool.not_eq_false', Bool.not_eq_true, Bool.not_eq_false, Option.isNone_none, Option.isNone_some, Option.isSome_none, Option.isSome_some, ne_eq, Decidable.not_not] at hb3_5
        refine WN.calm _ rfl rfl rfl rfl rfl (fun _ => r_move rfl (ev_t rfl)) ?_
        refine WN.calm _ rfl rfl rfl rfl rfl (fun _ => r_move rfl (ev_t rfl)) ?_
        refine WN.calm _ rfl rfl rfl rfl rfl (fun _ => r_move rfl (ev_t rfl)) ?_
        refine WN.step _ rfl (SO.call (Put_nil _ id num _) rfl body_11 ⟨(ev_t rfl), (ev_t rfl), (ev_t rfl), ev_c, trivial⟩ rfl rfl rfl rfl ?_)
        rintro v w4 ⟨rfl, hu4⟩
        have hs4 := hu4.size
        replace hU := hU.trans hu4 (by first | exact (fun _ _ h => h) | exact (fun _ _ h => h.elim) | (intro k hl hk; (try simp only [At, New, Grow, From, No] at hk ⊢); omega) | (intro k hl hk; (try simp only [At, New, Grow, From, No] at *); omega))
        refine ⟨trivial, ?_⟩
        refine WN.calm _ rfl rfl rfl rfl rfl (fun _ => r_eql rfl (ev_t rfl) ev_c) ?_
        refine WN.calm _ rfl rfl rfl rfl rfl (fun _ => r_pickT rfl (ev_t rfl) (ev_t rfl)) ?_
        refine WN.calm _ rfl rfl rfl rfl rfl (fun _ => r_move rfl (ev_t rfl)) ?_
        refine WN.cases 27 rfl (fun hb3_12 => ?_) (fun hb3_12 => ?_)
        · try (exfalso; first | (simp at hb3_12; done) | (simp only [decide_eq_true_eq, decide_eq_false_iff_not, Bool.not_eq_true', Bool.not_eq_false', Bool.not_eq_true, Bool.not_eq_false] at hb3_12; omega) | omega)
          all_goals
           try simp only [decide_eq_true_eq, decide_eq_false_iff_not, Bool.not_eq_true', Bool.not_eq_false', Bool.not_eq_true, Bool.not_eq_false, Option.isNone_none, Option.isNone_some, Option.isSome_none, Option.isSome_some, ne_eq, Decidable.not_not] at hb3_12
           refine WN.calm _ rfl rfl rfl rfl rfl (fun _ => r_move rfl (ev_t rfl)) ?_
           refine WN.step _ rfl (SO.call (Len_nil _) rfl body_13 ⟨(ev_t rfl), trivial⟩ rfl rfl rfl rfl ?_)
           rintro v w5 ⟨rfl, hu5⟩
           have hs5 := hu5.size
           replace hU := hU.trans hu5 (by first | exact (fun _ _ h => h) | exact (fun _ _ h => h.elim) | (intro k hl hk; (try simp only [At, New, Grow, From, No] at hk ⊢); omega) | (intro k hl hk; (try simp only [At, New, Grow, From, No] at *); omega))
           refine ⟨trivial, ?_⟩
           refine WN.calm _ rfl rfl rfl rfl rfl (fun _ => r_eql rfl (ev_t rfl) ev_c) ?_
           refine WN.calm _ rfl rfl rfl rfl rfl (fun _ => r_pickT rfl (ev_t rfl) (ev_t rfl)) ?_
           refine WN.calm _ rfl rfl rfl rfl rfl (fun _ => r_move rfl (ev_t rfl)) ?_
           refine WN.cases 32 rfl (fun hb3_17 => ?_) (fun hb3_17 => ?_)
           · try (exfalso; first | (simp at hb3_17; done) | (simp only [decide_eq_true_eq, decide_eq_false_iff_not, Bool.not_eq_true', Bool.not_eq_false', Bool.not_eq_true, Bool.not_eq_false] at hb3_17; omega) | omega)
             all_goals
              try simp only [decide_eq_true_eq, decide_eq_false_iff_not, Bool.not_eq_true', Bool.not_eq_false', Bool.not_eq_true, Bool.not_eq_false, Option.isNone_none, Option.isNone_some, Option.isSome_none, Option.isSome_some, ne_eq, Decidable.not_not] at hb3_17
              refine WN.calm _ rfl rfl rfl rfl rfl (fun _ => r_move rfl (ev_t rfl)) ?_
              refine WN.step _ rfl (SO.call (Save_nil) rfl body_14 ⟨(ev_t rfl), trivial⟩ rfl rfl rfl rfl ?_)
              rintro v w6 ⟨ho, hu6⟩
              obtain ⟨A1, c1, rfl, hc1⟩ := Own.form ho
              have hs6 := hu6.size
              replace hU := hU.trans hu6 (by first | exact (fun _ _ h => h) | exact (fun _ _ h => h.elim) | (intro k hl hk; (try simp only [At, New, Grow, From, No] at hk ⊢); omega) | (intro k hl hk; (try simp only [At, New, Grow, From, No] at *); omega))
              refine ⟨trivial, ?_⟩
              refine WN.fork _ _ rfl rfl ?_ ?_
              · refine SO.val rfl rfl rfl rfl (r_toStr rfl (ev_t rfl) (ho.rd (by have := saveS_len TOK.nil; omega)) elem_23 int_5 str_9) ?_
                refine ⟨trivial, ?_⟩
                refine WN.step _ rfl (SO.call (SNew_ok) rfl body_10 trivial rfl rfl rfl rfl ?_)
                rintro v w7 ⟨t, rfl, hT, hu7⟩
                have hs7 := hu7.size
                replace hU := hU.trans hu7 (by first | exact (fun _ _ h => h) | exact (fun _ _ h => h.elim) | (intro k hl hk; (try simp only [At, New, Grow, From, No] at hk ⊢); omega) | (intro k hl hk; (try simp only [At, New, Grow, From, No] at *); omega))
                replace ho := ho.updA hu7
                refine ⟨trivial, ?_⟩
                refine WN.step _ rfl (SO.call (Save_ok hT TOK.nil) rfl body_14 ⟨(ev_t rfl), trivial⟩ rfl rfl rfl rfl ?_)
                rintro v w8 ⟨hp, hu8⟩
                obtain ⟨A2, c2, rfl, hc2⟩ := Own.form hp
                have hs8 := hu8.size
                replace hU := hU.trans hu8 (by first | exact (fun _ _ h => h) | exact (fun _ _ h => h.elim) | (intro k hl hk; (try simp only [At, New, Grow, From, No] at hk ⊢); omega) | (intro k hl hk; (try simp only [At, New, Grow, From, No] at *); omega))
                replace ho := ho.updA hu8
                refine ⟨trivial, ?_⟩
                refine WN.step _ rfl (SO.val rfl rfl rfl rfl (r_toStr rfl (ev_t rfl) (hp.rd (by have := saveS_len TOK.nil; omega)) elem_23 int_5 str_9) ?_)
                refine ⟨trivial, ?_⟩
                refine WN.calm _ rfl rfl rfl rfl rfl (fun _ => r_eqlStrL rfl (ev_t rfl) (ev_t rfl)) ?_
                refine WN.calm _ rfl rfl rfl rfl rfl (fun _ => r_pickT rfl (ev_t rfl) (ev_t rfl)) ?_
                refine WN.calm _ rfl rfl rfl rfl rfl (fun _ => r_assign rfl (ev_t rfl)) ?_
                refine WN.done ?_
                refine WX.keep [(4, _)] ⟨rfl, trivial⟩ ?_
                refine WX.next ?_
                refine WC.ret ?_
                refine WX.retE1 rfl rfl ?_
                first
                  | exact ⟨rfl, hU⟩
                  | exact ⟨by simp, hU⟩
              · refine SO.call (SNew_ok) rfl body_10 trivial rfl rfl rfl rfl ?_
                rintro v w9 ⟨t, rfl, hT, hu9⟩
                have hs9 := hu9.size
                replace hU := hU.trans hu9 (by first | exact (fun _ _ h => h) | exact (fun _ _ h => h.elim) | (intro k hl hk; (try simp only [At, New, Grow, From, No] at hk ⊢); omega) | (intro k hl hk; (try simp only [At, New, Grow, From, No] at *); omega))
                replace ho := ho.updA hu9
                refine ⟨trivial, ?_⟩
                refine WN.fork _ _ rfl rfl ?_ ?_
                · refine SO.val rfl rfl rfl rfl (r_toStr rfl (ev_t rfl) (ho.rd (by have := saveS_len TOK.nil; omega)) elem_23 int_5 str_9) ?_
                  refine ⟨trivial, ?_⟩
                  refine WN.step _ rfl (SO.call (Save_ok hT TOK.nil) rfl body_14 ⟨(ev_t rfl), trivial⟩ rfl rfl rfl rfl ?_)
                  rintro v w10 ⟨hp, hu10⟩
                  obtain ⟨A2, c2, rfl, hc2⟩ := Own.form hp
                  have hs10 := hu10.size
                  replace hU := hU.trans hu10 (by first | exact (fun _ _ h => h) | exact (fun _ _ h => h.elim) | (intro k hl hk; (try simp only [At, New, Grow, From, No] at hk ⊢); omega) | (intro k hl hk; (try simp only [At, New, Grow, From, No] at *); omega))
                  replace ho := ho.updA hu10
                  refine ⟨trivial, ?_⟩
                  refine WN.step _ rfl (SO.val rfl rfl rfl rfl (r_toStr rfl (ev_t rfl) (hp.rd (by have := saveS_len TOK.nil; omega)) elem_23 int_5 str_9) ?_)
                  refine ⟨trivial, ?_⟩
                  refine WN.calm _ rfl rfl rfl rfl rfl (fun _ => r_eqlStrL rfl (ev_t rfl) (ev_t rfl)) ?_
                  refine WN.calm _ rfl rfl rfl rfl rfl (fun _ => r_pickT rfl (ev_t rfl) (ev_t rfl)) ?_
                  refine WN.calm _ rfl rfl rfl rfl rfl (fun _ => r_assign rfl (ev_t rfl)) ?_
                  refine WN.done ?_
                  refine WX.keep [(4, _)] ⟨rfl, trivial⟩ ?_
                  refine WX.next ?_
                  refine WC.ret ?_
                  refine WX.retE1 rfl rfl ?_
                  first
                    | exact ⟨rfl, hU⟩
                    | exact ⟨by simp, hU⟩
                · refine SO.call (Save_ok hT TOK.nil) rfl body_14 ⟨(ev_t rfl), trivial⟩ rfl rfl rfl rfl ?_
                  rintro v w11 ⟨hp, hu11⟩
                  obtain ⟨A2, c2, rfl, hc2⟩ := Own.form hp
                  have hs11 := hu11.size
                  replace hU := hU.trans hu11 (by first | exact (fun _ _ h => h) | exact (fun _ _ h => h.elim) | (intro k hl hk; (try simp only [At, New, Grow, From, No] at hk ⊢); omega) | (intro k hl hk; (try simp only [At, New, Grow, From, No] at *); omega))
                  replace ho := ho.updA hu11
                  refine ⟨trivial, ?_⟩
                  refine WN.fork _ _ rfl rfl ?_ ?_
                  · refine SO.val rfl rfl rfl rfl (r_toStr rfl (ev_t rfl) (ho.rd (by have := saveS_len TOK.nil; omega)) elem_23 int_5 str_9) ?_
                    refine ⟨trivial, ?_⟩
                    refine WN.step _ rfl (SO.val rfl rfl rfl rfl (r_toStr rfl (ev_t rfl) (hp.rd (by have := saveS_len TOK.nil; omega)) elem_23 int_5 str_9) ?_)
                    refine ⟨trivial, ?_⟩
                    refine WN.calm _ rfl rfl rfl rfl rfl (fun _ => r_eqlStrL rfl (ev_t rfl) (ev_t rfl)) ?_
                    refine WN.calm _ rfl rfl rfl rfl rfl (fun _ => r_pickT rfl (ev_t rfl) (ev_t rfl)) ?_
                    refine WN.calm _ rfl rfl rfl rfl rfl (fun _ => r_assign rfl (ev_t rfl)) ?_
                    refine WN.done ?_
                    refine WX.keep [(4, _)] ⟨rfl, trivial⟩ ?_
                    refine WX.next ?_
                    refine WC.ret ?_
                    refine WX.retE1 rfl rfl ?_
                    first
                      | exact ⟨rfl, hU⟩
                      | exact ⟨by simp, hU⟩
                  · refine SO.val rfl rfl rfl rfl (r_toStr rfl (ev_t rfl) (hp.rd (by have := saveS_len TOK.nil; omega)) elem_23 int_5 str_9) ?_
                    refine ⟨trivial, ?_⟩
                    refine WN.step _ rfl (SO.val rfl rfl rfl rfl (r_toStr rfl (ev_t rfl) (ho.rd (by have := saveS_len TOK.nil; omega)) elem_23 int_5 str_9) ?_)
                    refine ⟨trivial, ?_⟩
                    refine WN.calm _ rfl rfl rfl rfl rfl (fun _ => r_eqlStrL rfl (ev_t rfl) (ev_t rfl)) ?_
                    refine WN.calm _ rfl rfl rfl rfl rfl (fun _ => r_pickT rfl (ev_t rfl) (ev_t rfl)) ?_
                    refine WN.calm _ rfl rfl rfl rfl rfl (fun _ => r_assign rfl (ev_t rfl)) ?_
                    refine WN.done ?_
                    refine WX.keep [(4, _)] ⟨rfl, trivial⟩ ?_
                    refine WX.next ?_
                    refine WC.ret ?_
                    refine WX.retE1 rfl rfl ?_
                    first
                      | exact ⟨rfl, hU⟩
                      | exact ⟨by simp, hU⟩
           · try (exfalso; first | (simp at hb3_17; done) | (simp only [decide_eq_true_eq, decide_eq_false_iff_not, Bool.not_eq_true', Bool.not_eq_false', Bool.not_eq_true, Bool.not_eq_false] at hb3_17; omega) | omega)
             all_goals
              try simp only [decide_eq_true_eq, decide_eq_false_iff_not, Bool.not_eq_true', Bool.not_eq_false', Bool.not_eq_true, Bool.not_eq_false, Option.isNone_none, Option.isNone_some, Option.isSome_none, Option.isSome_some, ne_eq, Decidable.not_not] at hb3_17
              refine WN.skip _ rfl rfl rfl rfl ?_
              refine WN.step _ rfl (SO.skip rfl rfl rfl ?_)
              refine ⟨trivial, ?_⟩
              refine WN.fork _ _ rfl rfl ?_ ?_
              · refine SO.skip rfl rfl rfl ?_
                refine ⟨trivial, ?_⟩
                refine WN.step _ rfl (SO.skip rfl rfl rfl ?_)
                refine ⟨trivial, ?_⟩
                refine WN.step _ rfl (SO.skip rfl rfl rfl ?_)
                refine ⟨trivial, ?_⟩
                refine WN.step _ rfl (SO.skip rfl rfl rfl ?_)
                refine ⟨trivial, ?_⟩
                refine WN.skip _ rfl rfl rfl rfl ?_
                refine WN.calm _ rfl rfl rfl rfl rfl (fun _ => r_pickF rfl (ev_t rfl) ev_c) ?_
                refine WN.calm _ rfl rfl rfl rfl rfl (fun _ => r_assign rfl (ev_t rfl)) ?_
                refine WN.done ?_
                refine WX.keep [(4, _)] ⟨rfl, trivial⟩ ?_
                refine WX.next ?_
                refine WC.ret ?_
                refine WX.retE1 rfl rfl ?_
                first
                  | exact ⟨rfl, hU⟩
                  | exact ⟨by simp, hU⟩
              · refine SO.skip rfl rfl rfl ?_
                refine ⟨trivial, ?_⟩
                refine WN.fork _ _ rfl rfl ?_ ?_
                · refine SO.skip rfl rfl rfl ?_
                  refine ⟨trivial, ?_⟩
                  refine WN.step _ rfl (SO.skip rfl rfl rfl ?_)
                  refine ⟨trivial, ?_⟩
                  refine WN.step _ rfl (SO.skip rfl rfl rfl ?_)
                  refine ⟨trivial, ?_⟩
                  refine WN.skip _ rfl rfl rfl rfl ?_
                  refine WN.calm _ rfl rfl rfl rfl rfl (fun _ => r_pickF rfl (ev_t rfl) ev_c) ?_
                  refine WN.calm _ rfl rfl rfl rfl rfl (fun _ => r_assign rfl (ev_t rfl)) ?_
                  refine WN.done ?_
                  refine WX.keep [(4, _)] ⟨rfl, trivial⟩ ?_
                  refine WX.next ?_
                  refine WC.ret ?_
                  refine WX.retE1 rfl rfl ?_
                  first
                    | exact ⟨rfl, hU⟩
                    | exact ⟨by simp, hU⟩
                · refine SO.skip rfl rfl rfl ?_
                  refine ⟨trivial, ?_⟩
                  refine WN.fork _ _ rfl rfl ?_ ?_
                  · refine SO.skip rfl rfl rfl ?_
                    refine ⟨trivial, ?_⟩
                    refine WN.step _ rfl (SO.skip rfl rfl rfl ?_)
                    refine ⟨trivial, ?_⟩
                    refine WN.skip _ rfl rfl rfl rfl ?_
                    refine WN.calm _ rfl rfl rfl rfl rfl (fun _ => r_pickF rfl (ev_t rfl) ev_c) ?_
                    refine WN.calm _ rfl rfl rfl rfl rfl (fun _ => r_assign rfl (ev_t rfl)) ?_
                    refine WN.done ?_
                    refine WX.keep [(4, _)] ⟨rfl, trivial⟩ ?_
                    refine WX.next ?_
                    refine WC.ret ?_
                    refine WX.retE1 rfl rfl ?_
                    first
                      | exact ⟨rfl, hU⟩
                      | exact ⟨by simp, hU⟩
                  · refine SO.skip rfl rfl rfl ?_
                    refine ⟨trivial, ?_⟩
                    refine WN.step _ rfl (SO.skip rfl rfl rfl ?_)
                    refine ⟨trivial, ?_⟩
                    refine WN.skip _ rfl rfl rfl rfl ?_
                    refine WN.calm _ rfl rfl rfl rfl rfl (fun _ => r_pickF rfl (ev_t rfl) ev_c) ?_
                    refine WN.calm _ rfl rfl rfl rfl rfl (fun _ => r_assign rfl (ev_t rfl)) ?_
                    refine WN.done ?_
                    refine WX.keep [(4, _)] ⟨rfl, trivial⟩ ?_
                    refine WX.next ?_
                    refine WC.ret ?_
                    refine WX.retE1 rfl rfl ?_
                    first
                      | exact ⟨rfl, hU⟩
                      | exact ⟨by simp, hU⟩
        · try (exfalso; first | (simp at hb3_12; done) | (simp only [decide_eq_true_eq, decide_eq_false_iff_not, Bool.not_eq_true', Bool.not_eq_false', Bool.not_eq_true, Bool.not_eq_false] at hb3_12; omega) | omega)
          all_goals
           try simp only [decide_eq_true_eq, decide_eq_false_iff_not, Bool.not_eq_true', Bool.not_eq_false', Bool.not_eq_true, Bool.not_eq_false, Option.isNone_none, Option.isNone_some, Option.isSome_none, Option.isSome_some, ne_eq, Decidable.not_not] at hb3_12
           refine WN.skip _ rfl rfl rfl rfl ?_
           refine WN.step _ rfl (SO.skip rfl rfl rfl ?_)
           refine ⟨trivial, ?_⟩
           refine WN.skip _ rfl rfl rfl rfl ?_
           refine WN.calm _ rfl rfl rfl rfl rfl (fun _ => r_pickF rfl (ev_t rfl) ev_c) ?_
           refine WN.calm _ rfl rfl rfl rfl rfl (fun _ => r_move rfl (ev_t rfl)) ?_
           refine WN.skip _ rfl rfl rfl rfl ?_
           refine WN.step _ rfl (SO.skip rfl rfl rfl ?_)
           refine ⟨trivial, ?_⟩
           refine WN.fork _ _ rfl rfl ?_ ?_
           · refine SO.skip rfl rfl rfl ?_
             refine ⟨trivial, ?_⟩
             refine WN.step _ rfl (SO.skip rfl rfl rfl ?_)
             refine ⟨trivial, ?_⟩
             refine WN.step _ rfl (SO.skip rfl rfl rfl ?_)
             refine ⟨trivial, ?_⟩
             refine WN.step _ rfl (SO.skip rfl rfl rfl ?_)
             refine ⟨trivial, ?_⟩
             refine WN.skip _ rfl rfl rfl rfl ?_
             refine WN.calm _ rfl rfl rfl rfl rfl (fun _ => r_pickF rfl (ev_t rfl) ev_c) ?_
             refine WN.calm _ rfl rfl rfl rfl rfl (fun _ => r_assign rfl (ev_t rfl)) ?_
             refine WN.done ?_
             refine WX.keep [(4, _)] ⟨rfl, trivial⟩ ?_
             refine WX.next ?_
             refine WC.ret ?_
             refine WX.retE1 rfl rfl ?_
             first
               | exact ⟨rfl, hU⟩
               | exact ⟨by simp, hU⟩
           · refine SO.skip rfl rfl rfl ?_
             refine ⟨trivial, ?_⟩
             refine WN.fork _ _ rfl rfl ?_ ?_
             · refine SO.skip rfl rfl rfl ?_
               refine ⟨trivial, ?_⟩
               refine WN.step _ rfl (SO.skip rfl rfl rfl ?_)
               refine ⟨trivial, ?_⟩
               refine WN.step _ rfl (SO.skip rfl rfl rfl ?_)
               refine ⟨trivial, ?_⟩
               refine WN.skip _ rfl rfl rfl rfl ?_
               refine WN.calm _ rfl rfl rfl rfl rfl (fun _ => r_pickF rfl (ev_t rfl) ev_c) ?_
               refine WN.calm _ rfl rfl rfl rfl rfl (fun _ => r_assign rfl (ev_t rfl)) ?_
               refine WN.done ?_
               refine WX.keep [(4, _)] ⟨rfl, trivial⟩ ?_
               refine WX.next ?_
               refine WC.ret ?_
               refine WX.retE1 rfl rfl ?_
               first
                 | exact ⟨rfl, hU⟩
                 | exact ⟨by simp, hU⟩
             · refine SO.skip rfl rfl rfl ?_
               refine ⟨trivial, ?_⟩
               refine WN.fork _ _ rfl rfl ?_ ?_
               · refine SO.skip rfl rfl rfl ?_
                 refine ⟨trivial, ?_⟩
                 refine WN.step _ rfl (SO.skip rfl rfl rfl ?_)
                 refine ⟨trivial, ?_⟩
                 refine WN.skip _ rfl rfl rfl rfl ?_
                 refine WN.calm _ rfl rfl rfl rfl rfl (fun _ => r_pickF rfl (ev_t rfl) ev_c) ?_
                 refine WN.calm _ rfl rfl rfl rfl rfl (fun _ => r_assign rfl (ev_t rfl)) ?_
                 refine WN.done ?_
                 refine WX.keep [(4, _)] ⟨rfl, trivial⟩ ?_
                 refine WX.next ?_
                 refine WC.ret ?_
                 refine WX.retE1 rfl rfl ?_
                 first
                   | exact ⟨rfl, hU⟩
                   | exact ⟨by simp, hU⟩
               · refine SO.skip rfl rfl rfl ?_
                 refine ⟨trivial, ?_⟩
                 refine WN.step _ rfl (SO.skip rfl rfl rfl ?_)
                 refine ⟨trivial, ?_⟩
                 refine WN.skip _ rfl rfl rfl rfl ?_
                 refine WN.calm _ rfl rfl rfl rfl rfl (fun _ => r_pickF rfl (ev_t rfl) ev_c) ?_
                 refine WN.calm _ rfl rfl rfl rfl rfl (fun _ => r_assign rfl (ev_t rfl)) ?_
                 refine WN.done ?_
                 refine WX.keep [(4, _)] ⟨rfl, trivial⟩ ?_
                 refine WX.next ?_
                 refine WC.ret ?_
                 refine WX.retE1 rfl rfl ?_
                 first
                   | exact ⟨rfl, hU⟩
                   | exact ⟨by simp, hU⟩
     · try (exfalso; first | (simp at hb3_5; done) | (simp only [decide_eq_true_eq, decide_eq_false_iff_not, Bool.not_eq_true', Bool.not_eq_false', Bool.not_eq_true, Bool.not_eq_false] at hb3_5; omega) | omega)
       all_goals
        try simp only [decide_eq_true_eq, decide_eq_false_iff_not, Bool.not_eq_true', Bool.not_eq_false', Bool.not_eq_true, Bool.not_eq_false, Option.isNone_none, Option.isNone_some, Option.isSome_none, Option.isSome_some, ne_eq, Decidable.not_not] at hb3_5
        refine WN.skip _ rfl rfl rfl rfl ?_
        refine WN.skip _ rfl rfl rfl rfl ?_
        refine WN.skip _ rfl rfl rfl rfl ?_
        refine WN.step _ rfl (SO.skip rfl rfl rfl ?_)
        refine ⟨trivial, ?_⟩
        refine WN.skip _ rfl rfl rfl rfl ?_
        refine WN.calm _ rfl rfl rfl rfl rfl (fun _ => r_pickF rfl (ev_t rfl) ev_c) ?_
        refine WN.calm _ rfl rfl rfl rfl rfl (fun _ => r_move rfl (ev_t rfl)) ?_
        refine WN.skip _ rfl rfl rfl rfl ?_
        refine WN.step _ rfl (SO.skip rfl rfl rfl ?_)
        refine ⟨trivial, ?_⟩
        refine WN.skip _ rfl rfl rfl rfl ?_
        refine WN.calm _ rfl rfl rfl rfl rfl (fun _ => r_pickF rfl (ev_t rfl) ev_c) ?_
        refine WN.calm _ rfl rfl rfl rfl rfl (fun _ => r_move rfl (ev_t rfl)) ?_
        refine WN.skip _ rfl rfl rfl rfl ?_
        refine WN.step _ rfl (SO.skip rfl rfl rfl ?_)
        refine ⟨trivial, ?_⟩
        refine WN.fork _ _ rfl rfl ?_ ?_
        · refine SO.skip rfl rfl rfl ?_
          refine ⟨trivial, ?_⟩
          refine WN.step _ rfl (SO.skip rfl rfl rfl ?_)
          refine ⟨trivial, ?_⟩
          refine WN.step _ rfl (SO.skip rfl rfl rfl ?_)
          refine ⟨trivial, ?_⟩
          refine WN.step _ rfl (SO.skip rfl rfl rfl ?_)
          refine ⟨trivial, ?_⟩
          refine WN.skip _ rfl rfl rfl rfl ?_
          refine WN.calm _ rfl rfl rfl rfl rfl (fun _ => r_pickF rfl (ev_t rfl) ev_c) ?_
          refine WN.calm _ rfl rfl rfl rfl rfl (fun _ => r_assign rfl (ev_t rfl)) ?_
          refine WN.done ?_
          refine WX.keep [(4, _)] ⟨rfl, trivial⟩ ?_
          refine WX.next ?_
          refine WC.ret ?_
          refine WX.retE1 rfl rfl ?_
          first
            | exact ⟨rfl, hU⟩
            | exact ⟨by simp, hU⟩
        · refine SO.skip rfl rfl rfl ?_
          refine ⟨trivial, ?_⟩
          refine WN.fork _ _ rfl rfl ?_ ?_
          · refine SO.skip rfl rfl rfl ?_
            refine ⟨trivial, ?_⟩
            refine WN.step _ rfl (SO.skip rfl rfl rfl ?_)
            refine ⟨trivial, ?_⟩
            refine WN.step _ rfl (SO.skip rfl rfl rfl ?_)
            refine ⟨trivial, ?_⟩
            refine WN.skip _ rfl rfl rfl rfl ?_
            refine WN.calm _ rfl rfl rfl rfl rfl (fun _ => r_pickF rfl (ev_t rfl) ev_c) ?_
            refine WN.calm _ rfl rfl rfl rfl rfl (fun _ => r_assign rfl (ev_t rfl)) ?_
            refine WN.done ?_
            refine WX.keep [(4, _)] ⟨rfl, trivial⟩ ?_
            refine WX.next ?_
            refine WC.ret ?_
            refine WX.retE1 rfl rfl ?_
            first
              | exact ⟨rfl, hU⟩
              | exact ⟨by simp, hU⟩
          · refine SO.skip rfl rfl rfl ?_
            refine ⟨trivial, ?_⟩
            refine WN.fork _ _ rfl rfl ?_ ?_
            · refine SO.skip rfl rfl rfl ?_
              refine ⟨trivial, ?_⟩
              refine WN.step _ rfl (SO.skip rfl rfl rfl ?_)
              refine ⟨trivial, ?_⟩
              refine WN.skip _ rfl rfl rfl rfl ?_
              refine WN.calm _ rfl rfl rfl rfl rfl (fun _ => r_pickF rfl (ev_t rfl) ev_c) ?_
              refine WN.calm _ rfl rfl rfl rfl rfl (fun _ => r_assign rfl (ev_t rfl)) ?_
              refine WN.done ?_
              refine WX.keep [(4, _)] ⟨rfl, trivial⟩ ?_
              refine WX.next ?_
              refine WC.ret ?_
              refine WX.retE1 rfl rfl ?_
              first
                | exact ⟨rfl, hU⟩
                | exact ⟨by simp, hU⟩
            · refine SO.skip rfl rfl rfl ?_
              refine ⟨trivial, ?_⟩
              refine WN.step _ rfl (SO.skip rfl rfl rfl ?_)
              refine ⟨trivial, ?_⟩
              refine WN.skip _ rfl rfl rfl rfl ?_
              refine WN.calm _ rfl rfl rfl rfl rfl (fun _ => r_pickF rfl (ev_t rfl) ev_c) ?_
              refine WN.calm _ rfl rfl rfl rfl rfl (fun _ => r_assign rfl (ev_t rfl)) ?_
              refine WN.done ?_
              refine WX.keep [(4, _)] ⟨rfl, trivial⟩ ?_
              refine WX.next ?_
              refine WC.ret ?_
              refine WX.retE1 rfl rfl ?_
              first
                | exact ⟨rfl, hU⟩
                | exact ⟨by simp, hU⟩
  · try (exfalso; first | (simp at hb3_1; done) | (simp only [decide_eq_true_eq, decide_eq_false_iff_not, Bool.not_eq_true', Bool.not_eq_false', Bool.not_eq_true, Bool.not_eq_false] at hb3_1; omega) | omega)
    all_goals
     try simp only [decide_eq_true_eq, decide_eq_false_iff_not, Bool.not_eq_true', Bool.not_eq_false', Bool.not_eq_true, Bool.not_eq_false, Option.isNone_none, Option.isNone_some, Option.isSome_none, Option.isSome_some, ne_eq, Decidable.not_not] at hb3_1
     refine WN.skip _ rfl rfl rfl rfl ?_
     refine WN.skip _ rfl rfl rfl rfl ?_
     refine WN.calm _ rfl rfl rfl rfl rfl (fun _ => r_pickF rfl (ev_t rfl) ev_c) ?_
     refine WN.calm _ rfl rfl rfl rfl rfl (fun _ => r_move rfl (ev_t rfl)) ?_
     refine WN.skip _ rfl rfl rfl rfl ?_
     refine WN.skip _ rfl rfl rfl rfl ?_
     refine WN.skip _ rfl rfl rfl rfl ?_
     refine WN.step _ rfl (SO.skip rfl rfl rfl ?_)
     refine ⟨trivial, ?_⟩
     refine WN.skip _ rfl rfl rfl rfl ?_
     refine WN.calm _ rfl rfl rfl rfl rfl (fun _ => r_pickF rfl (ev_t rfl) ev_c) ?_
     refine WN.calm _ rfl rfl rfl rfl rfl (fun _ => r_move rfl (ev_t rfl)) ?_
     refine WN.skip _ rfl rfl rfl rfl ?_
     refine WN.step _ rfl (SO.skip rfl rfl rfl ?_)
     refine ⟨trivial, ?_⟩
     refine WN.skip _ rfl rfl rfl rfl ?_
     refine WN.calm _ rfl rfl rfl rfl rfl (fun _ => r_pickF rfl (ev_t rfl) ev_c) ?_
     refine WN.calm _ rfl rfl rfl rfl rfl (fun _ => r_move rfl (ev_t rfl)) ?_
     refine WN.skip _ rfl rfl rfl rfl ?_
     refine WN.step _ rfl (SO.skip rfl rfl rfl ?_)
     refine ⟨trivial, ?_⟩
     refine WN.fork _ _ rfl rfl ?_ ?_
     · refine SO.skip rfl rfl rfl ?_
       refine ⟨trivial, ?_⟩
       refine WN.step _ rfl (SO.skip rfl rfl rfl ?_)
       refine ⟨trivial, ?_⟩
       refine WN.step _ rfl (SO.skip rfl rfl rfl ?_)
       refine ⟨trivial, ?_⟩
       refine WN.step _ rfl (SO.skip rfl rfl rfl ?_)
       refine ⟨trivial, ?_⟩
       refine WN.skip _ rfl rfl rfl rfl ?_
       refine WN.calm _ rfl rfl rfl rfl rfl (fun _ => r_pickF rfl (ev_t rfl) ev_c) ?_
       refine WN.calm _ rfl rfl rfl rfl rfl (fun _ => r_assign rfl (ev_t rfl)) ?_
       refine WN.done ?_
       refine WX.keep [(4, _)] ⟨rfl, trivial⟩ ?_
       refine WX.next ?_
       refine WC.ret ?_
       refine WX.retE1 rfl rfl ?_
       first
         | exact ⟨rfl, hU⟩
         | exact ⟨by simp, hU⟩
     · refine SO.skip rfl rfl rfl ?_
       refine ⟨trivial, ?_⟩
       refine WN.fork _ _ rfl rfl ?_ ?_
       · refine SO.skip rfl rfl rfl ?_
         refine ⟨trivial, ?_⟩
         refine WN.step _ rfl (SO.skip rfl rfl rfl ?_)
         refine ⟨trivial, ?_⟩
         refine WN.step _ rfl (SO.skip rfl rfl rfl ?_)
         refine ⟨trivial, ?_⟩
         refine WN.skip _ rfl rfl rfl rfl ?_
         refine WN.calm _ rfl rfl rfl rfl rfl (fun _ => r_pickF rfl (ev_t rfl) ev_c) ?_
         refine WN.calm _ rfl rfl rfl rfl rfl (fun _ => r_assign rfl (ev_t rfl)) ?_
         refine WN.done ?_
         refine WX.keep [(4, _)] ⟨rfl, trivial⟩ ?_
         refine WX.next ?_
         refine WC.ret ?_
         refine WX.retE1 rfl rfl ?_
         first
           | exact ⟨rfl, hU⟩
           | exact ⟨by simp, hU⟩
       · refine SO.skip rfl rfl rfl ?_
         refine ⟨trivial, ?_⟩
         refine WN.fork _ _ rfl rfl ?_ ?_
         · refine SO.skip rfl rfl rfl ?_
           refine ⟨trivial, ?_⟩
           refine WN.step _ rfl (SO.skip rfl rfl rfl ?_)
           refine ⟨trivial, ?_⟩
           refine WN.skip _ rfl rfl rfl rfl ?_
           refine WN.calm _ rfl rfl rfl rfl rfl (fun _ => r_pickF rfl (ev_t rfl) ev_c) ?_
           refine WN.calm _ rfl rfl rfl rfl rfl (fun _ => r_assign rfl (ev_t rfl)) ?_
           refine WN.done ?_
           refine WX.keep [(4, _)] ⟨rfl, trivial⟩ ?_
           refine WX.next ?_
           refine WC.ret ?_
           refine WX.retE1 rfl rfl ?_
           first
             | exact ⟨rfl, hU⟩
             | exact ⟨by simp, hU⟩
         · refine SO.skip rfl rfl rfl ?_
           refine ⟨trivial, ?_⟩
           refine WN.step _ rfl (SO.skip rfl rfl rfl ?_)
           refine ⟨trivial, ?_⟩
           refine WN.skip _ rfl rfl rfl rfl ?_
           refine WN.calm _ rfl rfl rfl rfl rfl (fun _ => r_pickF rfl (ev_t rfl) ev_c) ?_
           refine WN.calm _ rfl rfl rfl rfl rfl (fun _ => r_assign rfl (ev_t rfl)) ?_
           refine WN.done ?_
           refine WX.keep [(4, _)] ⟨rfl, trivial⟩ ?_
           refine WX.next ?_
           refine WC.ret ?_
           refine WX.retE1 rfl rfl ?_
           first
             | exact ⟨rfl, hU⟩
             | exact ⟨by simp, hU⟩
end Go.Proofs.Ytipabhbnljadfaa

/-
  A table out of bytes. No program in sight.
-/
namespace Go.Proofs.Ytipabhbnljadfaa
open Go
set_option linter.unusedSimpArgs false
set_option linter.unusedVariables false

def nextOK (L : List Ls) (id : Nat) : Bool := match L[L.length - 1]? with
  | some x => decide (x.id < id)
  | none => true
/-- so many more sessions -/
def loadL : Nat → Option (List UInt8) → List Ls → Option (List UInt8) × List Ls
  | 0, s, L => (s, L)
  | _ + 1, none, L => (none, L)
  | n + 1, some p, L =>
    if (uintR (some p)).1 = 0 ∨ (uintR (uintR (some p)).2).1 = 0 ∨ nextOK L (uintR (some p)).1 = false then (none, L)
    else loadL n (bytesR 1048576 (uintR (uintR (some p)).2).2).2 (L ++ [⟨(uintR (some p)).1, (uintR (uintR (some p)).2).1, (bytesR 1048576 (uintR (uintR (some p)).2).2).1⟩])
def loadS (p : List UInt8) : Option (List UInt8) × List Ls := loadL (uptoR 64 (some p)).1 (uptoR 64 (some p)).2 []
theorem loadL_none (k : Nat) (L : List Ls) : loadL k none L = (none, L) := by cases k <;> rfl
theorem loadL_bad {n : Nat} {p : List UInt8} {L : List Ls} {a b : Nat} {s1 s2 : Option (List UInt8)} (ha : uintR (some p) = (a, s1)) (hb : uintR s1 = (b, s2)) (h : a = 0 ∨ b = 0 ∨ nextOK L a = false) : loadL (n + 1) (some p) L = (none, L) := by
  unfold loadL
  rw [ha]
  simp only
  rw [hb]
  exact if_pos h
theorem loadL_good {n : Nat} {p : List UInt8} {L : List Ls} {a b : Nat} {d : List UInt8} {s1 s2 s3 : Option (List UInt8)} (ha : uintR (some p) = (a, s1)) (hb : uintR s1 = (b, s2)) (hd : bytesR 1048576 s2 = (d, s3)) (h : ¬ (a = 0 ∨ b = 0 ∨ nextOK L a = false)) :
    loadL (n + 1) (some p) L = loadL n s3 (L ++ [⟨a, b, d⟩]) := by
  rw [loadL, ha]
  simp only
  rw [hb]
  simp only
  rw [hd]
  exact if_neg h
theorem rise_snoc {L : List Ls} {x : Ls} (h : Rise L) (hx : nextOK L x.id = true) : Rise (L ++ [x]) := by
  refine List.pairwise_append.2 ⟨h, List.pairwise_singleton _ _, fun a ha b hb => ?_⟩
  rw [List.mem_singleton] at hb
  subst hb
  obtain ⟨i, hi, rfl⟩ := List.mem_iff_getElem.1 ha
  unfold nextOK at hx
  rw [List.getElem?_eq_getElem (by omega)] at hx
  have h1 : (L[L.length - 1]).id < b.id := by simpa using hx
  by_cases hl : i = L.length - 1
  · subst hl; exact h1
  · have := List.pairwise_iff_getElem.1 h i (L.length - 1) hi (by omega) (by omega)
    omega
theorem loadL_some : ∀ {k : Nat} {q r : List UInt8} {L L' : List Ls}, loadL k (some q) L = (some r, L') → ∃ M, L' = L ++ M ∧ M.length = k ∧ q = M.flatMap lsB ++ r ∧ (TOK L → L.length + k ≤ 64 → TOK L')
  | 0, q, r, L, L', h => by
    simp only [loadL, Prod.mk.injEq, Option.some.injEq] at h
    obtain ⟨rfl, rfl⟩ := h
    exact ⟨[], by simp, rfl, by simp, fun h _ => h⟩
  | k + 1, q, r, L, L', h => by
    obtain ⟨a, s1, ha⟩ : ∃ a s1, uintR (some q) = (a, s1) := ⟨_, _, rfl⟩
    obtain ⟨b, s2, hb⟩ : ∃ b s2, uintR s1 = (b, s2) := ⟨_, _, rfl⟩
    obtain ⟨d, s3, hd⟩ : ∃ d s3, bytesR 1048576 s2 = (d, s3) := ⟨_, _, rfl⟩
    by_cases hc : a = 0 ∨ b = 0 ∨ nextOK L a = false
    · rw [loadL_bad ha hb hc] at h
      cases h
    · rw [loadL_good ha hb hd hc] at h
      cases s3 with
      | none => rw [loadL_none] at h; cases h
      | some q3 =>
        obtain ⟨M, rfl, hM, rfl, hT⟩ := loadL_some h
        obtain ⟨e3, e4, e5⟩ := bytesR_some hd
        subst e3
        obtain ⟨e2, e6⟩ := uintR_some hb
        subst e2
        obtain ⟨e1, e7⟩ := uintR_some ha
        have hq := Option.some.inj e1
        subst hq
        refine ⟨⟨a, b, d⟩ :: M, by simp, by simp [hM], by simp [lsB, List.append_assoc], fun hL hl => hT ⟨?_, ?_, ?_⟩ (by simp; omega)⟩
        · exact rise_snoc hL.rise (by simpa using fun h => hc (.inr (.inr h)))
        · simp; omega
        · intro x hx
          rcases List.mem_append.1 hx with hx | hx
          · exact hL.ok x hx
          · rw [List.mem_singleton] at hx
            subst hx
            exact ⟨by simp only; omega, e7, by simp only; omega, e6, by simp only; omega⟩
theorem uptoR_some {most : Int} {s : Option (List UInt8)} {n : Nat} {q : List UInt8} (h : uptoR most s = (n, some q)) : s = some (encU n ++ q) ∧ (n : Int) ≤ most := by
  unfold uptoR at h
  split at h
  · split at h
    · rename_i h1 h2
      simp only [Prod.mk.injEq, Option.some.injEq] at h
      obtain ⟨rfl, rfl⟩ := h
      exact ⟨(uintR_some h1).1, h2.2⟩
    · cases h
  · cases h
theorem uptoR_le {most : Int} {s : Option (List UInt8)} (h : 0 ≤ most) : ((uptoR most s).1 : Int) ≤ most := by
  unfold uptoR
  split
  · split
    · rename_i h2; exact h2.2
    · exact h
  · exact h
theorem loadS_some {p : List UInt8} {L : List Ls} (h : loadS p = (some [], L)) : TOK L ∧ saveS L = p := by
  unfold loadS at h
  obtain ⟨n, s, hn⟩ : ∃ n s, uptoR 64 (some p) = (n, s) := ⟨_, _, rfl⟩
  rw [hn] at h
  cases s with
  | none => rw [loadL_none] at h; cases h
  | some q =>
    obtain ⟨h1, h2⟩ := uptoR_some hn
    obtain ⟨M, rfl, hM, rfl, hT⟩ := loadL_some h
    have h3 := Option.some.inj h1
    refine ⟨hT TOK.nil (by simp; omega), ?_⟩
    rw [h3]
    simp only [saveS, List.nil_append, hM, List.append_nil]

/-- a table in memory: of whatever types -/
def IsTG (TT TE : TypeId) (w : World) (R : Nat → Prop) (t : Nat) (L : List Ls) : Prop := ∃ (A : Option Addr) (c : Nat) (V : List LsV) (G H : Nat → Prop), Blk w t #[.slice A V.length c] TT ∧
  Own w G TE 3 (.slice A V.length c) V.length (V.flatMap LsV.cells) ∧ (∀ r ∈ V, Rd w H r.v r.x.data.length 1 (r.x.data.map U8)) ∧ lsOf V = L ∧ R t ∧ t < w.heap.size ∧
  (∀ k, G k → R k ∧ k ≠ t ∧ k < w.heap.size) ∧ ∀ k, H k → R k ∧ k ≠ t ∧ ¬ G k ∧ k < w.heap.size
theorem IsTG.upd {TT TE : TypeId} {w w' : World} {R S : Nat → Prop} {t : Nat} {L : List Ls} (h : IsTG TT TE w R t L) (hu : Upd S w w') (hn : ∀ k, R k → k < w.heap.size → ¬ S k) : IsTG TT TE w' R t L := by
  obtain ⟨A, c, V, G, H, h1, h2, h3, h4, h5, h6, h7, h8⟩ := h
  refine ⟨A, c, V, G, H, h1.upd hu (hn t h5 h6), h2.upd hu (fun k hk hl => hn k (h7 k hk).1 hl), fun r hr => (h3 r hr).upd hu (fun k hk hl => hn k (h8 k hk).1 hl), h4, h5, Nat.lt_of_lt_of_le h6 hu.size, fun k hk => ?_, fun k hk => ?_⟩
  · have := h7 k hk
    exact ⟨this.1, this.2.1, Nat.lt_of_lt_of_le this.2.2 hu.size⟩
  · have := h8 k hk
    exact ⟨this.1, this.2.1, this.2.2.1, Nat.lt_of_lt_of_le this.2.2.2 hu.size⟩
theorem IsTG.mono {TT TE : TypeId} {w : World} {R R' : Nat → Prop} {t : Nat} {L : List Ls} (h : IsTG TT TE w R t L) (hR : ∀ k, R k → k < w.heap.size → R' k) : IsTG TT TE w R' t L := by
  obtain ⟨A, c, V, G, H, h1, h2, h3, h4, h5, h6, h7, h8⟩ := h
  exact ⟨A, c, V, G, H, h1, h2, h3, h4, hR t h5 h6, h6, fun k hk => ⟨hR k (h7 k hk).1 (h7 k hk).2.2, (h7 k hk).2⟩, fun k hk => ⟨hR k (h8 k hk).1 (h8 k hk).2.2.2, (h8 k hk).2⟩⟩
theorem IsTG.push {TT TE : TypeId} {w w1 w2 : World} {R G H C : Nat → Prop} {t c2 : Nat} {A2 : Option Addr} {V : List LsV} {r : LsV}
    (hD : ∀ r ∈ V, Rd w H r.v r.x.data.length 1 (r.x.data.map U8)) (hRt : R t) (htl : t < w.heap.size)
    (hG : ∀ k, G k → R k ∧ k ≠ t ∧ k < w.heap.size) (hH : ∀ k, H k → R k ∧ k ≠ t ∧ ¬ G k ∧ k < w.heap.size)
    (hr : Rd w C r.v r.x.data.length 1 (r.x.data.map U8)) (hC : ∀ k, C k → k ≠ t ∧ ¬ G k ∧ k < w.heap.size)
    (hO2 : Own w1 (Grow G w w1) TE 3 (.slice A2 (V.length + 1) c2) (V.length + 1) (V.flatMap LsV.cells ++ r.cells)) (hOp : Upd G w w1)
    (hB2 : Blk w2 t #[.slice A2 (V.length + 1) c2] TT) (hS : Upd (At t) w1 w2) :
    IsTG TT TE w2 (fun k => Grow R w w2 k ∨ C k) t (lsOf V ++ [r.x]) := by
  have h1 := hOp.size
  have h2 := hS.size
  refine ⟨A2, c2, V ++ [r], Grow G w w1, fun k => H k ∨ C k, ?_, ?_, ?_, by rw [lsOf, List.map_append]; rfl, .inl (.inl hRt), by omega, fun k hk => ?_, fun k hk => ?_⟩
  · rw [List.length_append]; exact hB2
  · rw [List.length_append, List.flatMap_append, List.flatMap_singleton]
    exact hO2.upd hS (fun k hk hl hS => by simp only [At] at hS; subst hS; rcases hk with h | h; exact (hG k h).2.1 rfl; omega)
  · intro q hq
    rcases List.mem_append.1 hq with hq | hq
    · exact (((hD q hq).upd hOp (fun k hk _ hS => (hH k hk).2.2.1 hS)).upd hS (fun k hk _ hS => by simp only [At] at hS; subst hS; exact (hH k hk).2.1 rfl)).mono (fun k hk => .inl hk)
    · rw [List.mem_singleton] at hq
      subst hq
      exact ((hr.upd hOp (fun k hk _ hS => (hC k hk).2.1 hS)).upd hS (fun k hk _ hS => by simp only [At] at hS; subst hS; exact (hC k hk).1 rfl)).mono (fun k hk => .inr hk)
  · rcases hk with hk | hk
    · have := hG k hk; exact ⟨.inl (.inl this.1), this.2.1, by omega⟩
    · exact ⟨.inl (.inr ⟨hk.1, by omega⟩), by omega, by omega⟩
  · rcases hk with hk | hk
    · have := hH k hk
      exact ⟨.inl (.inl this.1), this.2.1, fun h => h.elim (fun h => this.2.2.1 h) (fun h => by omega), by omega⟩
    · have := hC k hk
      exact ⟨.inr hk, this.1, fun h => h.elim (fun h => this.2.1 h) (fun h => by omega), by omega⟩
end Go.Proofs.Ytipabhbnljadfaa

/-
  Upd facts as tracked facts; rows copied into places; appended zeros.
-/
namespace Go.Proofs.Ytipabhbnljadfaa
open Go
set_option linter.unusedSimpArgs false
set_option linter.unusedVariables false

theorem Upd.upd {S S' : Nat → Prop} {w w1 w2 : World} (h : Upd S w w1) (h' : Upd S' w1 w2) (hs : ∀ k, k < w.heap.size → S' k → S k) : Upd S w w2 := h.trans h' hs
theorem Upd.updA {S S' : Nat → Prop} {w w1 w2 : World} (h : Upd S w w1) (h' : Upd S' w1 w2) (hs : ∀ k, k < w.heap.size → S' k → S k := by first | exact (fun _ _ h => h) | exact (fun _ _ h => h.elim) | (intro k hl hk; (try simp only [At, New, Grow, From, No] at hk ⊢); omega)) : Upd S w w2 := h.trans h' hs

section
variable {P : Program} {o : Oper} {w : World} {x y : Operand} {t : TypeId} {N : Nat} {ops : Array Oper} {Q : Exit → Act → World → Prop} {K : Env → World → Prop} {E : Env}

theorem run_copy_at (w : World) (dT sT ty elem : TypeId) (g o dLen dCap sz : Nat) (a : Addr) (sLen sCap : Nat) (cur : Array Value) (t : TypeId) (cs : List Value)
    (hu : P.underlying dT = some (.slice elem)) (hs : sizeIs P elem sz = true) (hm : Nat) (hmn : hm = Nat.min sLen dLen)
    (hg : w.heap[g]? = some (.cells cur t (0, 0))) (hn : cs.length = hm * sz)
    (hsrc : ∀ j v, cs[j]? = some v → w.cell? (a.add j) = some v) (hfit : o + cs.length ≤ cur.size) (h1 : ∀ v ∈ cs, v.oneCell' = true) :
    (Builtin.copy_ #[dT, sT] ty #[.slice (some ⟨g, o, none⟩) dLen dCap, .slice (some a) sLen sCap]).run P w =
      .ok (goInt hm) (w.setRow g (cur.toList.take o ++ cs ++ cur.toList.drop (o + cs.length)).toArray) := by
  have hl := run_loadCells_list (P := P) w a cs hsrc
  have hst := run_storeCells_at P g o t cs 0 cur w hg (by simpa using hfit) h1
  cases hq : P.info? elem with
  | none => simp [sizeIs, hq] at hs
  | some i =>
    have hi : i.size = sz := by simpa [sizeIs, hq] using hs
    rw [hn] at hl
    simp [Builtin.copy_, run_underlying hu, Builtin.lenOf, Builtin.firstCells, sizeOf, typeInfo, hq, hi, ← hmn, hl, hst]

/-- some elements copied into a row -/
theorem SO.copyAt {d : Nat} {t2 e : TypeId} {g off n c m c2 b2 off2 sz k : Nat} {cur : Array Value} {T : TypeId} {xs : List Value} (hk : k = Nat.min m n) (hb : Blk w g cur T) (hl : xs.length = k * sz) (hsrc : ∀ j u, xs[j]? = some u → w.cell? ⟨b2, off2 + j, none⟩ = some u)
    (h1 : ∀ u ∈ xs, u.oneCell' = true) (hfit : off + xs.length ≤ cur.size) (hu : sliceElem P t = some e) (hs : sizeIs P e sz = true)
    (hop : o.op = .call { callee := .builtin .copy, args := #[x, y], argTypes := #[t, t2] }) (hx : Env.ev E x = .slice (some ⟨g, off, none⟩) n c) (hy : Env.ev E y = .slice (some ⟨b2, off2, none⟩) m c2)
    (hd : o.dst = some d) (hN : Nat.blt d N = true) (ho : opsOK E o = true) (hw : wantedE ops E o = some true)
    (kk : ∀ w', Upd (At g) w w' → Blk w' g (cur.toList.take off ++ xs ++ cur.toList.drop (off + xs.length)).toArray T → w'.heap.size = w.heap.size → K ((d, .int .i64 (k : Int)) :: E) w') : SO P N ops Q o K E w := by
  have hrun := run_copy_at (P := P) w t t2 o.type e g off n c sz ⟨b2, off2, none⟩ m c2 cur T xs (sliceElem_und hu) hs k hk hb hl (fun j u hj => by rw [Addr.add_lit]; exact hsrc j u hj) hfit h1
  refine SO.val (v := .int .i64 (k : Int)) hd hN ho hw ?_ (kk _ (Upd.setRow _ _ _) (setRow_heap w g cur _ T _ hb) (by simp [World.setRow]))
  unfold execOp
  simp only [hop, resolve, invoke, builtin, Sem.run_bind, Sem.run_pure, Result.andThen_ok, List.map_toArray, List.map_cons, List.map_nil, hx, hy, hrun]
  rfl
/-- what a slice holds, and as many zeros more: a new row -/
theorem SO.appendZeros {d : Nat} {tn e : TypeId} {by_ sz n c k : Nat} {z : Value} {A : Option Addr} {xs : List Value} {F : Nat → Prop} {kq kn : IntKind} (hr : Rd w F (.slice A n c) n sz xs) (ht : RowT P t e sz by_ z) (htn : P.underlying tn = some (.int kn))
    (h0 : 0 < k) (hg : c < n + k) (hb : (n + k) * by_ ≤ 140737488355328) (hm : n + k ≤ 140737488355328) (hp : 0 < by_)
    (hop : o.op = .call { callee := .builtin .append, args := #[x, y], argTypes := #[t, tn] }) (hx : Env.ev E x = .slice A n c) (hy : Env.ev E y = .int kq (k : Int))
    (hd : o.dst = some d) (hN : Nat.blt d N = true) (ho : opsOK E o = true) (hw : wantedE ops E o = some true)
    (kk : ∀ (w' : World) (C : Nat) (cs : Array Value), Upd No w w' → Blk w' w.heap.size cs e → n + k ≤ C → C ≤ maxLen → cs.size = C * sz → cs.toList.take (n * sz) = xs → w'.heap.size = w.heap.size + 1 → K ((d, .slice (some ⟨w.heap.size, 0, none⟩) (n + k) C) :: E) w') : SO P N ops Q o K E w := by
  obtain ⟨i, hi, hz, hsz, hby⟩ := ht.parts
  have hold : (Builtin.firstCells i.size n (.slice A n c)).run P w.drew = .ok xs.toArray w.drew := by
    rw [hsz]
    rcases hr.src ht.pos with ⟨h, hxs, A', c', e9⟩ | ⟨ad, c', e9, hc⟩
    · subst h
      subst hxs
      cases A with
      | none => simp [Builtin.firstCells, loadCells, loadCellsFrom]
      | some a => simp [Builtin.firstCells, loadCells, loadCellsFrom]
    · injection e9 with e1 e2 e3
      subst e1 e3
      exact run_firstCells_some w.drew sz n ad n c xs hr.len (fun j u hj => hc j u hj)
  have hfit : Builtin.nextslicecap (n + k) c * i.bytes ≤ 281474976710656 := by rw [hby]; exact growslice_fits hg hb
  have hrun := Lib.run_append_grow_zeros (P := P) w t tn o.type e i z kq kn ht.und htn hi hz A n c xs hold k h0 (by rw [hsz]; exact ht.pos) hg (by omega) (by
    rw [hby]
    have : k * by_ ≤ (n + k) * by_ := Nat.mul_le_mul_right _ (by omega)
    omega) hfit
  have hC1 : n + k ≤ grownCap w (n + k) c e := grownCap_ge _ _ _ _
  have hC2 : grownCap w (n + k) c e ≤ maxLen := grownCap_le_maxLen _ _ _ _ (le_maxLen hm)
  have hzc : ∀ m, (Builtin.zeroCells z.cells m).size = m * sz := fun m => by simp [Builtin.zeroCells, ht.cells]
  refine SO.val hd hN ho hw (v := .slice (some ⟨w.heap.size, 0, none⟩) (n + k) (grownCap w (n + k) c e)) (w' := w.drew.alloc (.cells (xs.toArray ++ Builtin.zeroCells z.cells k ++ Builtin.zeroCells z.cells (grownCap w (n + k) c e - (n + k))) e)) ?_
    (kk _ _ (xs.toArray ++ Builtin.zeroCells z.cells k ++ Builtin.zeroCells z.cells (grownCap w (n + k) c e - (n + k))) ?_ (Blk.alloc_new w.drew _ _) hC1 hC2 ?_ ?_ ?_)
  · unfold execOp
    simp only [hop, resolve, invoke, builtin, Sem.run_bind, Sem.run_pure, Result.andThen_ok, List.map_toArray, List.map_cons, List.map_nil, hx, hy, hrun]
  · exact (Upd.drew No w).trans_same (Upd.alloc No _ _)
  · rw [Array.size_append, Array.size_append, hzc, hzc, List.size_toArray, hr.len, ← Nat.add_mul, ← Nat.add_mul]
    congr 1
    omega
  · rw [Array.toList_append, Array.toList_append, List.append_assoc, List.take_left' hr.len]
  · simp

theorem r_capSlice {ρ : Operand → Value} {e : TypeId} {A : Option Addr} {len cap : Nat} {ts : Array TypeId} (ho : o.op = .call { callee := .builtin .cap, args := #[x], argTypes := #[t] }) (hx : ρ x = .slice A len cap) (hu : sliceElem P t = some e) :
    (execOp ρ o).run P w = .ok (.value (.int .i64 cap)) w := by
  unfold sliceElem at hu
  cases hd : P.underlying t with
  | none => simp [hd] at hu
  | some d =>
    rw [hd] at hu
    cases d <;> simp at hu
    simp [execOp, ho, resolve, invoke, builtin, hx, Builtin.cap_, run_underlying hd, goInt]

theorem cutA_lt {g off c l sz : Nat} (h : l < c) : cutA (some ⟨g, off, none⟩) c l sz = some ⟨g, off + l * sz, none⟩ := by
  unfold cutA
  rw [if_neg (by omega)]
  simp [Addr.add_lit]
theorem cutA_zero {A : Option Addr} {c sz : Nat} : cutA A c 0 sz = A := by
  unfold cutA
  split
  · rfl
  · cases A with
    | none => rfl
    | some a => simp [Addr.add_zero']

/-- a call of what the model gives itself -/
theorem SO.extern {d : Nat} {f : FuncId} {fn : Func} {ext : Array Value → Sem Value} {xs : List Operand} {ts : Array TypeId} {vs : List Value} {v : Value} {w' : World} (hf : P.funcs[f]? = some fn) (hname : (fn.name == "runtime.NumGoroutine") = false)
    (hb : fn.body.isNone = true) (hn : Extern.findNext fn = none) (he : Extern.find fn = some ext) (hrun : (ext vs.toArray).run P w = .ok v w')
    (hop : o.op = .call { callee := .value (.func f), args := xs.toArray, argTypes := ts }) (hvs : evs E xs vs)
    (hd : o.dst = some d) (hN : Nat.blt d N = true) (ho : opsOK E o = true) (hw : wantedE ops E o = some true) (k : K ((d, v) :: E) w') : SO P N ops Q o K E w := by
  have e1 := evs_map hvs
  have h2 := run_callFunc_extern (P := P) hf hname hb hn he vs.toArray w
  rw [hrun] at h2
  refine SO.val hd hN ho hw ?_ k
  simp [execOp, hop, resolve, Deferred.ofValue, Env.ev, invoke, e1, h2, Result.andThen]

theorem SO.overlaps {d : Nat} {f : FuncId} {fn : Func} {ts : Array TypeId} {tR e : TypeId} {ga oa gb ob la ca lb cb sz : Nat} {csA csB : Array Value} {TA TB : TypeId} (hf : P.funcs[f]? = some fn) (hname : (fn.name == "runtime.NumGoroutine") = false)
    (hb : fn.body.isNone = true) (hn : Extern.findNext fn = none) (he : Extern.find fn = some (Extern.SlicesOverlaps.overlaps #[t, t] #[tR])) (hu : sliceElem P t = some e) (hs : sizeIs P e sz = true)
    (hA : Blk w ga csA TA) (hB : Blk w gb csB TB) (hne : ga ≠ gb) (h0 : csB.size ≠ 0)
    (hop : o.op = .call { callee := .value (.func f), args := #[x, y], argTypes := ts }) (hx : Env.ev E x = .slice (some ⟨ga, oa, none⟩) la ca) (hy : Env.ev E y = .slice (some ⟨gb, ob, none⟩) lb cb)
    (hd : o.dst = some d) (hN : Nat.blt d N = true) (ho : opsOK E o = true) (hw : wantedE ops E o = some true) (k : K ((d, .bool false) :: E) w) : SO P N ops Q o K E w := by
  have hrun := Lib.run_overlaps_apart (P := P) w t tR e (sliceElem_und hu) sz (fun w => run_sizeOf hs) ⟨ga, oa, none⟩ ⟨gb, ob, none⟩ la ca lb cb hne TA TB csA.size csB.size (by
    unfold Blk at hA; simp [World.shape?, hA]) (by unfold Blk at hB; simp [World.shape?, hB]) h0 (hA.free _) (hA.free _)
  exact SO.extern (xs := [x, y]) (vs := [_, _]) hf hname hb hn he hrun hop ⟨hx, hy, trivial⟩ hd hN ho hw k

/-- a slice up to its capacity -/
theorem r_sliceC {ρ : Operand → Value} {e : TypeId} {A : Option Addr} {n c l h sz : Nat} {lo hi : Option Operand} (ho : o.op = .slice t x lo hi none) (hx : ρ x = .slice A n c) (hu : sliceElem P t = some e) (hz : sizeIs P e sz = true)
    (hlo : bnd ρ lo 0 l) (hhi : bnd ρ hi n h) (h1 : l ≤ h) (h2 : h ≤ c) : (execOp ρ o).run P w = .ok (.value (.slice (cutA A c l sz) (h - l) (c - l))) w := by
  unfold sliceElem at hu
  cases hd : P.underlying t with
  | none => simp [hd] at hu
  | some d =>
    rw [hd] at hu
    cases d <;> simp at hu
    subst hu
    have hsz := run_sizeOf (P := P) (w := w) hz
    unfold cutA
    rcases hlo with ⟨rfl, rfl⟩ | ⟨y1, k1, b1, rfl, hy1, hb1⟩ <;> rcases hhi with ⟨rfl, rfl⟩ | ⟨y2, k2, b2, rfl, hy2, hb2⟩
    · simp [execOp, ho, hx, Instr.sliceAt, Instr.slice, run_underlying hd, Instr.sliceBounds, hsz]
    · simp [execOp, ho, hx, hy2, Instr.sliceAt, Instr.slice, run_underlying hd, Instr.sliceBounds, hsz, run_sliceBound_in hb2 h2]
    · simp [execOp, ho, hx, hy1, Instr.sliceAt, Instr.slice, run_underlying hd, Instr.sliceBounds, hsz, run_sliceBound_in hb1 h1]
    · simp [execOp, ho, hx, hy1, hy2, Instr.sliceAt, Instr.slice, run_underlying hd, Instr.sliceBounds, hsz, run_sliceBound_in hb1 h1, run_sliceBound_in hb2 h2]
end

theorem ins_grow {cs rc xs : List Value} {a s N M : Nat} (ha : a ≤ N) (hx : xs.length = N) (hrc : rc.length = s) (hc : N + s ≤ cs.length) (h : cs.take a = xs.take a) (hM : M = a + s + (N - a)) :
    ((cs.take a ++ rc ++ cs.drop (a + s)).take (a + s) ++ xs.drop a ++ (cs.take a ++ rc ++ cs.drop (a + s)).drop M).take (N + s) = xs.take a ++ rc ++ xs.drop a := by
  have e1 : (cs.take a ++ rc ++ cs.drop (a + s)).take (a + s) = xs.take a ++ rc := by
    rw [List.take_left' (by simp only [List.length_append, List.length_take, hrc]; omega), h]
  rw [e1, List.take_left' (by simp only [List.length_append, List.length_take, List.length_drop, hrc, hx]; omega)]
theorem ins_shift {cur rc xs : List Value} {a s N M : Nat} (ha : a ≤ N) (hx : cur.take N = xs) (hrc : rc.length = s) (hc : N + s ≤ cur.length) (hM : M = a + s + (N - a)) :
    ((cur.take (a + s) ++ xs.drop a ++ cur.drop M).take a ++ rc ++ (cur.take (a + s) ++ xs.drop a ++ cur.drop M).drop (a + s)).take (N + s) = xs.take a ++ rc ++ xs.drop a := by
  subst hM
  have hxl : xs.length = N := by rw [← hx, List.length_take]; omega
  have e1 : (cur.take (a + s) ++ xs.drop a ++ cur.drop (a + s + (N - a))).take a = xs.take a := by
    rw [List.append_assoc, List.take_append_of_le_length (by rw [List.length_take]; omega), List.take_take, ← hx, List.take_take]
    congr 1
    omega
  have e2 : (cur.take (a + s) ++ xs.drop a ++ cur.drop (a + s + (N - a))).drop (a + s) = xs.drop a ++ cur.drop (a + s + (N - a)) := by
    rw [List.append_assoc, List.drop_left' (by rw [List.length_take]; omega)]
  rw [e1, e2, ← List.append_assoc, List.take_left' (by simp only [List.length_append, List.length_take, List.length_drop, hrc, hxl]; omega)]
end Go.Proofs.Ytipabhbnljadfaa
