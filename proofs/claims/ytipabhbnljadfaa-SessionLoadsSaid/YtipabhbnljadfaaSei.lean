/-
  The reference's table: Save, Load; law 17: any bytes as a table.
-/
import Derived.Test.YtipabhbnljadfaaSeh
import Derived.Test.YtipabhbnljadfaaRre
import Derived.Test.YtipabhbnljadfaaRfi
namespace Go.Proofs.Ytipabhbnljadfaa
open Go
set_option linter.unusedSimpArgs false
set_option linter.unusedVariables false

/-- the reference's table in memory -/
abbrev IsQ (w : World) (R : Nat → Prop) (t : Nat) (L : List Ls) : Prop := IsTG 42 68 w R t L

set_option maxHeartbeats 2000000 in
theorem refSave_ok {w : World} {R : Nat → Prop} {t : Nat} {L : List Ls} (hT : IsQ w R t L) (hL : TOK L) :
    Ret Try.prog 18 #[.pointer (some ⟨t, 0, none⟩)] w fun u w' => Own w' (New w w') 5 1 u (saveS L).length ((saveS L).map U8) ∧ Upd No w w' := by
  obtain ⟨A, c, V, G, H, hB, hO, hD, hLV, hRt, htl, hG, hH⟩ := hT
  have hm := hL.most
  have hlen : V.length = L.length := by rw [← hLV, List.length_map]
  have hr := (hO.rd (by omega)).mono (F' := fun k => k < w.heap.size) (fun k hk => (hG k hk).2.2)
  refine enterRet (vs := [_]) (N := 55) Try.func18 rfl rfl rfl ?_
  have hU := Upd.refl No w
  refine WC.keep [(0, _)] ⟨rfl, trivial⟩ ?_
  refine WC.seq ?_
  refine WC.region ?_
  refine WL.val rfl rfl rfl rfl (r_assign rfl ev_c) ?_
  refine WL.nil ?_
  refine WX.keep [(0, _)] ⟨rfl, trivial⟩ ?_
  refine WX.next ?_
  refine WC.seq ?_
  refine WC.region ?_
  refine WL.val rfl rfl rfl rfl (r_move rfl (ev_t rfl)) ?_
  refine WL.val rfl rfl rfl rfl (r_nilCheck rfl (ev_t rfl)) ?_
  first | refine WL.val rfl rfl rfl rfl (r_field0 rfl (ev_t rfl) fld_42_0) ?_ | refine WL.val rfl rfl rfl rfl (r_fieldAt rfl (ev_t rfl) fld_42_0) ?_
  refine WL.val rfl rfl rfl rfl (r_load rfl (ev_t rfl) flat_40 (Blk.cell (hB.upd hU (fun h => h)) rfl)) ?_
  refine WL.val rfl rfl rfl rfl (r_lenSlice (ts := #[]) rfl (ev_t rfl) elem_40) ?_
  first | refine WL.val rfl rfl rfl rfl (r_convN rfl (ev_t rfl) some_3 int_27 (by simp only [inK]; omega)) ?_ | refine WL.val rfl rfl rfl rfl (r_conv rfl (ev_t rfl) some_3 int_27) ?_
  rw [hlen]
  refine WL.cons (SO.call (refUint_ok (n := L.length) (by omega)) rfl body_33 ⟨(ev_t rfl), trivial⟩ rfl rfl rfl rfl ?_)
  rintro v w1 ⟨hq, hu1⟩
  obtain ⟨Aq, cq, rfl, hcq⟩ := Own.form hq
  replace hq := hq.mono (F' := New w w1) (fun k hk => by have := hu1.size; simp only [New, Grow] at *; omega)
  have hs1 := hu1.size
  replace hU := hU.trans hu1 (by first | exact (fun _ _ h => h) | exact (fun _ _ h => h.elim) | (intro k hl hk; (try simp only [At, New, Grow, From, No] at hk ⊢); omega) | (intro k hl hk; (try simp only [At, New, Grow, From, No] at *); omega))
  refine WL.val rfl rfl rfl rfl (r_assign rfl (ev_t rfl)) ?_
  refine WL.nil ?_
  refine WX.keep [(0, _), (3, _)] ⟨rfl, rfl, trivial⟩ ?_
  refine WX.next ?_
  refine WC.seq ?_
  refine WC.seq ?_
  refine WC.region ?_
  refine WL.val rfl rfl rfl rfl (r_assign rfl ev_c) ?_
  refine WL.nil ?_
  refine WX.keep [(0, _), (3, _), (4, _)] ⟨rfl, rfl, rfl, trivial⟩ ?_
  refine WX.next ?_
  refine WC.block ?_
  -- loop 1: live [0, 3, 4]
  refine WC.keep [(0, _), (3, _), (4, _)] ⟨rfl, rfl, rfl, trivial⟩ ?_
  refine WC.loop (fun q E w' => ∃ (i : Nat) (A1 : Option Addr) (c1 : Nat), i ≤ L.length ∧ q = L.length - i ∧ Upd No w w' ∧ Own w' (New w w') 5 1 (.slice A1 (encU L.length ++ (L.take i).flatMap lsB).length c1) (encU L.length ++ (L.take i).flatMap lsB).length ((encU L.length ++ (L.take i).flatMap lsB).map U8) ∧   E = [(0, .pointer (some ⟨t, 0, none⟩)), (3, .slice A1 (encU L.length ++ (L.take i).flatMap lsB).length c1), (4, .int .i64 (i : Int))]) (L.length) ?_ ?_
  · exact ⟨0, Aq, cq, by omega, by omega, hU, by simpa using hq, by simp⟩
  · clear hU hq
    rintro q E w' ⟨i, A1, c1, hi, rfl, hU, hq, rfl⟩
    have hw0 := hU.size
    refine WC.seq ?_
    refine WC.seq ?_
    refine WC.region ?_
    refine WL.val rfl rfl rfl rfl (r_move rfl (ev_t rfl)) ?_
    refine WL.val rfl rfl rfl rfl (r_move rfl (ev_t rfl)) ?_
    refine WL.val rfl rfl rfl rfl (r_nilCheck rfl (ev_t rfl)) ?_
    first | refine WL.val rfl rfl rfl rfl (r_field0 rfl (ev_t rfl) fld_42_0) ?_ | refine WL.val rfl rfl rfl rfl (r_fieldAt rfl (ev_t rfl) fld_42_0) ?_
    refine WL.val rfl rfl rfl rfl (r_load rfl (ev_t rfl) flat_40 (Blk.cell (hB.upd hU (fun h => h)) rfl)) ?_
    refine WL.val rfl rfl rfl rfl (r_lenSlice (ts := #[]) rfl (ev_t rfl) elem_40) ?_
    refine WL.val rfl rfl rfl rfl (r_lss rfl (ev_t rfl) (ev_t rfl)) ?_
    refine WL.nil ?_
    refine WX.keep [(0, _), (3, _), (4, _), (18, _)] ⟨rfl, rfl, rfl, rfl, trivial⟩ ?_
    refine WX.next ?_
    refine WC.cond rfl (ev_t rfl) (fun hc3 => ?_) (fun hc3 => ?_)
    · try (exfalso; first | (simp at hc3; done) | (simp only [decide_eq_true_eq, decide_eq_false_iff_not, Bool.not_eq_true', Bool.not_eq_false', Bool.not_eq_true, Bool.not_eq_false] at hc3; omega) | omega)
      all_goals
       try simp only [decide_eq_true_eq, decide_eq_false_iff_not, Bool.not_eq_true', Bool.not_eq_false', Bool.not_eq_true, Bool.not_eq_false, Option.isNone_none, Option.isNone_some, Option.isSome_none, Option.isSome_some, ne_eq, Decidable.not_not] at hc3
       obtain ⟨r, hg⟩ : ∃ r, V[i]? = some r := ⟨_, List.getElem?_eq_getElem (by omega)⟩
       have hLi : L[i]? = some r.x := by rw [← hLV, List.getElem?_map, hg]; rfl
       obtain ⟨b, off, rfl, _⟩ := hr.open (by omega)
       have hcell := flatMap_get LsV.cells_len hg
       have hxo := hL.ok _ (List.mem_of_getElem? hLi)
       obtain ⟨hx1, hx2, hx3, hx4, hx5⟩ := hxo
       have htk := take_len hL i
       have he0 := encU_len9s (n := L.length) (by omega)
       have he1 := encU_len9s hx2
       have he2 := encU_len9s hx4
       have he3 := encU_len9s (n := r.x.data.length) (by omega)
       have hgl : (encU L.length ++ (L.take i).flatMap lsB).length = (encU L.length).length + ((L.take i).flatMap lsB).length := List.length_append
       have hBl : (encU r.x.data.length ++ r.x.data).length = (encU r.x.data.length).length + r.x.data.length := List.length_append
       generalize hX : encU L.length ++ (L.take i).flatMap lsB = X at *
       refine WC.skip ?_
       refine WX.next ?_
       refine WC.seq ?_
       refine WC.block ?_
       refine WC.seq ?_
       refine WC.region ?_
       refine WL.val rfl rfl rfl rfl (r_move rfl (ev_t rfl)) ?_
       refine WL.val rfl rfl rfl rfl (r_move rfl (ev_t rfl)) ?_
       refine WL.val rfl rfl rfl rfl (r_nilCheck rfl (ev_t rfl)) ?_
       first | refine WL.val rfl rfl rfl rfl (r_field0 rfl (ev_t rfl) fld_42_0) ?_ | refine WL.val rfl rfl rfl rfl (r_fieldAt rfl (ev_t rfl) fld_42_0) ?_
       refine WL.val rfl rfl rfl rfl (r_load rfl (ev_t rfl) flat_40 (Blk.cell (hB.upd hU (fun h => h)) rfl)) ?_
       refine WL.val rfl rfl rfl rfl (r_move rfl (ev_t rfl)) ?_
       refine WL.val rfl rfl rfl rfl (r_indexAddr rfl (ev_t rfl) (ev_t rfl) elem_40 size_68 (by omega) (by omega)) ?_
       first | refine WL.val rfl rfl rfl rfl (r_field0 rfl (ev_t rfl) fld_68_0) ?_ | refine WL.val rfl rfl rfl rfl (r_fieldAt rfl (ev_t rfl) fld_68_0) ?_
       refine WL.val rfl rfl rfl rfl (r_load rfl (ev_t rfl) flat_27 (Rd.cell (hr.upd hU (fun _ _ _ h => h)) (j := i * 3) (by omega) (hcell 0 _ rfl))) ?_
       refine WL.cons (SO.call (refUint_ok (n := r.x.id) hx2) rfl body_33 ⟨(ev_t rfl), trivial⟩ rfl rfl rfl rfl ?_)
       rintro v w2 ⟨he, hu2⟩
       have hs0 := hu2.size
       replace hq := hq.mono (F' := New w w2) (fun k hk => by simp only [New] at *; omega)
       have hs2 := hu2.size
       replace hU := hU.trans hu2 (by first | exact (fun _ _ h => h) | exact (fun _ _ h => h.elim) | (intro k hl hk; (try simp only [At, New, Grow, From, No] at hk ⊢); omega) | (intro k hl hk; (try simp only [At, New, Grow, From, No] at *); omega))
       replace hq := hq.upd hu2 (fun _ _ _ h => h)
       refine WL.cons (SO.append hq (he.rd (by omega)) row_23 (U8_one _) (le_maxLen (by omega)) (by omega) rfl (ev_t rfl) (ev_t rfl) rfl rfl rfl rfl ?_)
       intro v3 w3 hq hu3
       have hs3 := hu3.size
       replace hU := hU.trans hu3 (by first | exact (fun _ _ h => h) | exact (fun _ _ h => h.elim) | (intro k hl hk; (try simp only [At, New, Grow, From, No] at hk ⊢); omega) | (intro k hl hk; (try simp only [At, New, Grow, From, No] at *); omega))
       obtain ⟨A3, c3, rfl, hc3⟩ := Own.form hq
       rw [← List.map_append] at hq
       replace hq := hq.mono (F' := New w w3) (fun k hk => by have := hu3.size; simp only [New, Grow] at *; omega)
       refine WL.val rfl rfl rfl rfl (r_assign rfl (ev_t rfl)) ?_
       refine WL.nil ?_
       refine WX.keep [(0, _), (3, _), (4, _)] ⟨rfl, rfl, rfl, trivial⟩ ?_
       refine WX.next ?_
       refine WC.seq ?_
       refine WC.region ?_
       refine WL.val rfl rfl rfl rfl (r_move rfl (ev_t rfl)) ?_
       refine WL.val rfl rfl rfl rfl (r_move rfl (ev_t rfl)) ?_
       refine WL.val rfl rfl rfl rfl (r_nilCheck rfl (ev_t rfl)) ?_
       first | refine WL.val rfl rfl rfl rfl (r_field0 rfl (ev_t rfl) fld_42_0) ?_ | refine WL.val rfl rfl rfl rfl (r_fieldAt rfl (ev_t rfl) fld_42_0) ?_
       refine WL.val rfl rfl rfl rfl (r_load rfl (ev_t rfl) flat_40 (Blk.cell (hB.upd hU (fun h => h)) rfl)) ?_
       refine WL.val rfl rfl rfl rfl (r_move rfl (ev_t rfl)) ?_
       refine WL.val rfl rfl rfl rfl (r_indexAddr rfl (ev_t rfl) (ev_t rfl) elem_40 size_68 (by omega) (by omega)) ?_
       first | refine WL.val rfl rfl rfl rfl (r_field0 rfl (ev_t rfl) fld_68_1) ?_ | refine WL.val rfl rfl rfl rfl (r_fieldAt rfl (ev_t rfl) fld_68_1) ?_
       refine WL.val rfl rfl rfl rfl (r_load rfl (ev_t rfl) flat_27 (Rd.cell (hr.upd hU (fun _ _ _ h => h)) (j := i * 3 + 1) (by omega) (hcell 1 _ rfl))) ?_
       refine WL.cons (SO.call (refUint_ok (n := r.x.num) hx4) rfl body_33 ⟨(ev_t rfl), trivial⟩ rfl rfl rfl rfl ?_)
       rintro v w4 ⟨he, hu4⟩
       have hs0 := hu4.size
       replace hq := hq.mono (F' := New w w4) (fun k hk => by simp only [New] at *; omega)
       have hs4 := hu4.size
       replace hU := hU.trans hu4 (by first | exact (fun _ _ h => h) | exact (fun _ _ h => h.elim) | (intro k hl hk; (try simp only [At, New, Grow, From, No] at hk ⊢); omega) | (intro k hl hk; (try simp only [At, New, Grow, From, No] at *); omega))
       replace hq := hq.upd hu4 (fun _ _ _ h => h)
       refine WL.cons (SO.append hq (he.rd (by omega)) row_23 (U8_one _) (le_maxLen (by omega)) (by omega) rfl (ev_t rfl) (ev_t rfl) rfl rfl rfl rfl ?_)
       intro v5 w5 hq hu5
       have hs5 := hu5.size
       replace hU := hU.trans hu5 (by first | exact (fun _ _ h => h) | exact (fun _ _ h => h.elim) | (intro k hl hk; (try simp only [At, New, Grow, From, No] at hk ⊢); omega) | (intro k hl hk; (try simp only [At, New, Grow, From, No] at *); omega))
       obtain ⟨A5, c5, rfl, hc5⟩ := Own.form hq
       rw [← List.map_append] at hq
       replace hq := hq.mono (F' := New w w5) (fun k hk => by have := hu5.size; simp only [New, Grow] at *; omega)
       refine WL.val rfl rfl rfl rfl (r_assign rfl (ev_t rfl)) ?_
       refine WL.nil ?_
       refine WX.keep [(0, _), (3, _), (4, _)] ⟨rfl, rfl, rfl, trivial⟩ ?_
       refine WX.next ?_
       refine WC.region ?_
       refine WL.val rfl rfl rfl rfl (r_move rfl (ev_t rfl)) ?_
       refine WL.val rfl rfl rfl rfl (r_move rfl (ev_t rfl)) ?_
       refine WL.val rfl rfl rfl rfl (r_nilCheck rfl (ev_t rfl)) ?_
       first | refine WL.val rfl rfl rfl rfl (r_field0 rfl (ev_t rfl) fld_42_0) ?_ | refine WL.val rfl rfl rfl rfl (r_fieldAt rfl (ev_t rfl) fld_42_0) ?_
       refine WL.val rfl rfl rfl rfl (r_load rfl (ev_t rfl) flat_40 (Blk.cell (hB.upd hU (fun h => h)) rfl)) ?_
       refine WL.val rfl rfl rfl rfl (r_move rfl (ev_t rfl)) ?_
       refine WL.val rfl rfl rfl rfl (r_indexAddr rfl (ev_t rfl) (ev_t rfl) elem_40 size_68 (by omega) (by omega)) ?_
       first | refine WL.val rfl rfl rfl rfl (r_field0 rfl (ev_t rfl) fld_68_2) ?_ | refine WL.val rfl rfl rfl rfl (r_fieldAt rfl (ev_t rfl) fld_68_2) ?_
       refine WL.val rfl rfl rfl rfl (r_load rfl (ev_t rfl) flat_23 (Rd.cell (hr.upd hU (fun _ _ _ h => h)) (j := i * 3 + 2) (by omega) (hcell 2 _ rfl))) ?_
       refine WL.cons (SO.call (refBytes_ok ((hD r (List.mem_of_getElem? hg)).upd hU (fun _ _ _ h => h)) (by omega)) rfl body_34 ⟨(ev_t rfl), trivial⟩ rfl rfl rfl rfl ?_)
       rintro v w6 ⟨he, hu6⟩
       have hs0 := hu6.size
       replace hq := hq.mono (F' := New w w6) (fun k hk => by simp only [New] at *; omega)
       have hs6 := hu6.size
       replace hU := hU.trans hu6 (by first | exact (fun _ _ h => h) | exact (fun _ _ h => h.elim) | (intro k hl hk; (try simp only [At, New, Grow, From, No] at hk ⊢); omega) | (intro k hl hk; (try simp only [At, New, Grow, From, No] at *); omega))
       replace hq := hq.upd hu6 (fun _ _ _ h => h)
       refine WL.cons (SO.append hq (he.rd (by omega)) row_23 (U8_one _) (le_maxLen (by omega)) (by omega) rfl (ev_t rfl) (ev_t rfl) rfl rfl rfl rfl ?_)
       intro v7 w7 hq hu7
       have hs7 := hu7.size
       replace hU := hU.trans hu7 (by first | exact (fun _ _ h => h) | exact (fun _ _ h => h.elim) | (intro k hl hk; (try simp only [At, New, Grow, From, No] at hk ⊢); omega) | (intro k hl hk; (try simp only [At, New, Grow, From, No] at *); omega))
       obtain ⟨A7, c7, rfl, hc7⟩ := Own.form hq
       rw [← List.map_append] at hq
       replace hq := hq.mono (F' := New w w7) (fun k hk => by have := hu7.size; simp only [New, Grow] at *; omega)
       refine WL.val rfl rfl rfl rfl (r_assign rfl (ev_t rfl)) ?_
       refine WL.nil ?_
       refine WX.keep [(0, _), (3, _), (4, _)] ⟨rfl, rfl, rfl, trivial⟩ ?_
       refine WX.blockNormal ?_
       refine WX.next ?_
       refine WC.region ?_
       refine WL.val rfl rfl rfl rfl (r_move rfl (ev_t rfl)) ?_
       first | refine WL.val rfl rfl rfl rfl (r_addN rfl (ev_t rfl) ev_c (by simp only [inK]; omega)) ?_ | refine WL.val rfl rfl rfl rfl (r_add rfl (ev_t rfl) ev_c) ?_
       refine WL.val rfl rfl rfl rfl (r_assign rfl (ev_t rfl)) ?_
       refine WL.nil ?_
       refine WX.keep [(0, _), (3, _), (4, _)] ⟨rfl, rfl, rfl, trivial⟩ ?_
       refine WX.meet [(0, _), (3, _), (4, _)] ⟨rfl, rfl, rfl, trivial⟩ ?_
       have hXX : encU L.length ++ (L.take (i + 1)).flatMap lsB = X ++ encU r.x.id ++ encU r.x.num ++ (encU r.x.data.length ++ r.x.data) := by
         rw [take_flat hLi, ← hX]
         simp only [lsB, List.append_assoc]
       have hXl : (encU L.length ++ (L.take (i + 1)).flatMap lsB).length = X.length + (encU r.x.id).length + (encU r.x.num).length + (encU r.x.data.length ++ r.x.data).length := by
         rw [hXX]; simp only [List.length_append]
       refine ⟨L.length - (i + 1), by omega, i + 1, A7, c7, by omega, rfl, hU, ?_, ?_⟩
       · rw [hXl, hXX]; exact hq
       · rw [hXl]; simp
    · try (exfalso; first | (simp at hc3; done) | (simp only [decide_eq_true_eq, decide_eq_false_iff_not, Bool.not_eq_true', Bool.not_eq_false', Bool.not_eq_true, Bool.not_eq_false] at hc3; omega) | omega)
      all_goals
       try simp only [decide_eq_true_eq, decide_eq_false_iff_not, Bool.not_eq_true', Bool.not_eq_false', Bool.not_eq_true, Bool.not_eq_false, Option.isNone_none, Option.isNone_some, Option.isSome_none, Option.isSome_some, ne_eq, Decidable.not_not] at hc3
       obtain rfl : i = L.length := by omega
       rw [List.take_length] at hq
       refine WC.exit ?_
       refine WX.thenExit ?_
       refine WX.thenExit ?_
       refine WX.blockHere ?_
       refine WX.next ?_
       refine WC.seq ?_
       refine WC.region ?_
       refine WL.val rfl rfl rfl rfl (r_move rfl (ev_t rfl)) ?_
       refine WL.val rfl rfl rfl rfl (r_assign rfl (ev_t rfl)) ?_
       refine WL.nil ?_
       refine WX.keep [(2, _)] ⟨rfl, trivial⟩ ?_
       refine WX.next ?_
       refine WC.ret ?_
       refine WX.retE1 rfl rfl ?_
       exact ⟨by rw [List.take_length]; exact hq, hU⟩
end Go.Proofs.Ytipabhbnljadfaa
