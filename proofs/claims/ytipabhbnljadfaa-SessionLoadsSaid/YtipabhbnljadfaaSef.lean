/-
  session.Table: Save.
-/
import Derived.Test.YtipabhbnljadfaaSed
namespace Go.Proofs.Ytipabhbnljadfaa
open Go
set_option linter.unusedSimpArgs false
set_option linter.unusedVariables false

/-- a session's bytes; a table's -/
def lsB (x : Ls) : List UInt8 := encU x.id ++ (encU x.num ++ (encU x.data.length ++ x.data))
def saveS (L : List Ls) : List UInt8 := encU L.length ++ L.flatMap lsB
theorem encU_len9s {n : Nat} (h : n < 18446744073709551616) : (encU n).length ≤ 9 := by
  rw [encU_length]
  have := blen_le (n := n) (k := 8) (by omega)
  omega
theorem lsB_len {x : Ls} (h : x.ok) : (lsB x).length ≤ 1048603 := by
  obtain ⟨h1, h2, h3, h4, h5⟩ := h
  have e1 := encU_len9s h2
  have e2 := encU_len9s h4
  have e3 := encU_len9s (n := x.data.length) (by omega)
  simp only [lsB, List.length_append]
  omega
theorem lsBs_len : ∀ {L : List Ls}, (∀ x ∈ L, x.ok) → (L.flatMap lsB).length ≤ L.length * 1048603
  | [], _ => by simp
  | x :: L, h => by
    have h1 := lsBs_len (L := L) fun y hy => h y (List.mem_cons_of_mem _ hy)
    have h2 := lsB_len (h x List.mem_cons_self)
    rw [List.flatMap_cons, List.length_append, List.length_cons, Nat.add_mul]
    omega
theorem saveS_len {L : List Ls} (h : TOK L) : (saveS L).length ≤ 67110601 := by
  have h1 := lsBs_len h.ok
  have h2 := h.most
  have h3 := encU_len9s (n := L.length) (by omega)
  simp only [saveS, List.length_append]
  omega
theorem take_len {L : List Ls} (h : TOK L) (i : Nat) : ((L.take i).flatMap lsB).length ≤ 67110592 := by
  have h1 := lsBs_len (L := L.take i) fun x hx => h.ok x (List.mem_of_mem_take hx)
  have h2 := h.most
  rw [List.length_take] at h1
  omega
theorem take_flat {L : List Ls} {i : Nat} {x : Ls} (h : L[i]? = some x) : (L.take (i + 1)).flatMap lsB = (L.take i).flatMap lsB ++ lsB x := by
  rw [List.take_add_one, h]
  simp

set_option maxHeartbeats 1000000 in
theorem Save_ok {w : World} {R : Nat → Prop} {t : Nat} {L : List Ls} (hT : IsT w R t L) (hL : TOK L) :
    Ret Try.prog 14 #[.pointer (some ⟨t, 0, none⟩)] w fun u w' => Own w' (New w w') 5 1 u (saveS L).length ((saveS L).map U8) ∧ Upd No w w' := by
  have hT' := hT
  obtain ⟨A, c, V, G, H, hB, hO, hD, hLV, hRt, htl, hG, hH⟩ := hT'
  have hm := hL.most
  have hlen : V.length = L.length := by rw [← hLV, List.length_map]
  have hr := (hO.rd (by omega)).mono (F' := fun k => k < w.heap.size) (fun k hk => (hG k hk).2.2)
  refine enterRet (vs := [_]) (N := 48) Try.func14 rfl rfl rfl ?_
  have hU := Upd.refl No w
  refine WC.keep [(0, _)] ⟨rfl, trivial⟩ ?_
  refine WC.seq ?_
  refine WC.region ?_
  refine WL.val rfl rfl rfl rfl (r_assign rfl ev_c) ?_
  refine WL.nil ?_
  refine WX.keep [(0, _)] ⟨rfl, trivial⟩ ?_
  refine WX.next ?_
  refine WC.seq ?_
  refine WC.region ?_
  refine WL.val rfl rfl rfl rfl (r_build (cs := #[_]) (vs := []) rfl trivial plc_64 zero_64 rfl) ?_
  refine WL.cons (SO.alloc rfl rfl rfl rfl (r_boxAgg rfl (ev_t rfl)) ?_)
  intro w1 hu1 hB1 hz1
  have hs1 := hu1.size
  replace hU := hU.trans hu1 (by first | exact (fun _ _ h => h) | exact (fun _ _ h => h.elim) | (intro k hl hk; (try simp only [At, New, Grow, From, No] at hk ⊢); omega) | (intro k hl hk; (try simp only [At, New, Grow, From, No] at *); omega))
  refine WL.val rfl rfl rfl rfl (r_assign rfl (ev_t rfl)) ?_
  refine WL.nil ?_
  refine WX.keep [(0, _), (3, _)] ⟨rfl, rfl, trivial⟩ ?_
  refine WX.next ?_
  refine WC.seq ?_
  refine WC.region ?_
  refine WL.val rfl rfl rfl rfl (r_move rfl (ev_t rfl)) ?_
  refine WL.val rfl rfl rfl rfl (r_move rfl (ev_t rfl)) ?_
  refine WL.cons (SO.call (Len_ok (hT.upd hU (fun _ _ _ h => h))) rfl body_13 ⟨(ev_t rfl), trivial⟩ rfl rfl rfl rfl ?_)
  rintro v w2 ⟨rfl, hu2⟩
  have hs2 := hu2.size
  replace hU := hU.trans hu2 (by first | exact (fun _ _ h => h) | exact (fun _ _ h => h.elim) | (intro k hl hk; (try simp only [At, New, Grow, From, No] at hk ⊢); omega) | (intro k hl hk; (try simp only [At, New, Grow, From, No] at *); omega))
  replace hB1 := hB1.updA hu2
  first | refine WL.val rfl rfl rfl rfl (r_convN rfl (ev_t rfl) some_3 int_27 (by simp only [inK]; omega)) ?_ | refine WL.val rfl rfl rfl rfl (r_conv rfl (ev_t rfl) some_3 int_27) ?_
  have hI := IsW.of (M := New w w2) hB1 ⟨Nat.le_refl _, by omega⟩
  refine WL.cons (SO.call (wuint_ok (n := L.length) hI (by omega) (by simp)) rfl body_23 ⟨(ev_t rfl), (ev_t rfl), trivial⟩ rfl rfl rfl rfl ?_)
  rintro v w3 ⟨rfl, hI, hu3⟩
  rw [List.nil_append] at hI
  replace hI := hI.mono (M' := New w w3) (fun k hk => by have := hu3.size; simp only [New, Grow] at *; omega)
  have hs3 := hu3.size
  replace hU := hU.trans hu3 (by first | exact (fun _ _ h => h) | exact (fun _ _ h => h.elim) | (intro k hl hk; (try simp only [At, New, Grow, From, No] at hk ⊢); omega) | (intro k hl hk; (try simp only [At, New, Grow, From, No] at *); omega))
  refine WL.nil ?_
  refine WX.keep [(0, _), (3, _)] ⟨rfl, rfl, trivial⟩ ?_
  refine WX.next ?_
  refine WC.seq ?_
  refine WC.seq ?_
  refine WC.region ?_
  refine WL.val rfl rfl rfl rfl (r_move rfl (ev_t rfl)) ?_
  refine WL.cons (SO.call (Len_ok (hT.upd hU (fun _ _ _ h => h))) rfl body_13 ⟨(ev_t rfl), trivial⟩ rfl rfl rfl rfl ?_)
  rintro v w4 ⟨rfl, hu4⟩
  replace hI := hI.upd hu4 (fun _ _ _ h => h)
  replace hI := hI.mono (M' := New w w4) (fun k hk => by have := hu4.size; simp only [New, Grow] at *; omega)
  have hs4 := hu4.size
  replace hU := hU.trans hu4 (by first | exact (fun _ _ h => h) | exact (fun _ _ h => h.elim) | (intro k hl hk; (try simp only [At, New, Grow, From, No] at hk ⊢); omega) | (intro k hl hk; (try simp only [At, New, Grow, From, No] at *); omega))
  refine WL.val rfl rfl rfl rfl (r_move rfl ev_c) ?_
  refine WL.nil ?_
  refine WX.keep [(0, _), (3, _), (13, _), (14, _)] ⟨rfl, rfl, rfl, rfl, trivial⟩ ?_
  refine WX.next ?_
  refine WC.block ?_
  -- loop 1: live [0, 3, 13, 14]
  refine WC.keep [(0, _), (3, _), (13, _), (14, _)] ⟨rfl, rfl, rfl, rfl, trivial⟩ ?_
  refine WC.loop (fun q E w' => ∃ i : Nat, i ≤ L.length ∧ q = L.length - i ∧ Upd No w w' ∧ IsW w' (New w w') w.heap.size (encU L.length ++ (L.take i).flatMap lsB) ∧   E = [(0, .pointer (some ⟨t, 0, none⟩)), (3, .pointer (some ⟨w.heap.size, 0, none⟩)), (13, .int .i64 (L.length : Int)), (14, .int .i64 (i : Int))]) (L.length) ?_ ?_
  · exact ⟨0, by omega, by omega, hU, by simpa using hI, rfl⟩
  · clear hU hI
    rintro q E w' ⟨i, hi, rfl, hU, hI, rfl⟩
    have hw0 := hU.size
    refine WC.seq ?_
    refine WC.region ?_
    refine WL.val rfl rfl rfl rfl (r_lss rfl (ev_t rfl) (ev_t rfl)) ?_
    refine WL.nil ?_
    refine WX.keep [(0, _), (3, _), (13, _), (14, _), (15, _)] ⟨rfl, rfl, rfl, rfl, rfl, trivial⟩ ?_
    refine WX.next ?_
    refine WC.seq ?_
    refine WC.cond rfl (ev_t rfl) (fun hc4 => ?_) (fun hc4 => ?_)
    · try (exfalso; first | (simp at hc4; done) | (simp only [decide_eq_true_eq, decide_eq_false_iff_not, Bool.not_eq_true', Bool.not_eq_false', Bool.not_eq_true, Bool.not_eq_false] at hc4; omega) | omega)
      all_goals
       try simp only [decide_eq_true_eq, decide_eq_false_iff_not, Bool.not_eq_true', Bool.not_eq_false', Bool.not_eq_true, Bool.not_eq_false, Option.isNone_none, Option.isNone_some, Option.isSome_none, Option.isSome_some, ne_eq, Decidable.not_not] at hc4
       obtain ⟨r, hg⟩ : ∃ r, V[i]? = some r := ⟨_, List.getElem?_eq_getElem (by omega)⟩
       have hLi : L[i]? = some r.x := by rw [← hLV, List.getElem?_map, hg]; rfl
       obtain ⟨b, off, rfl, _⟩ := hr.open (by omega)
       have hcell := flatMap_get LsV.cells_len hg
       have hxo := hL.ok _ (List.mem_of_getElem? hLi)
       obtain ⟨hx1, hx2, hx3, hx4, hx5⟩ := hxo
       have htk := take_len hL i
       have he0 := encU_len9s (n := L.length) (by omega)
       have he1 := encU_len9s hx2
       have he2 := encU_len9s hx4
       refine WC.skip ?_
       refine WX.next ?_
       refine WC.seq ?_
       refine WC.block ?_
       refine WC.seq ?_
       refine WC.region ?_
       refine WL.val rfl rfl rfl rfl (r_move rfl (ev_t rfl)) ?_
       refine WL.val rfl rfl rfl rfl (r_assign rfl (ev_t rfl)) ?_
       refine WL.nil ?_
       refine WX.keep [(0, _), (3, _), (4, _), (13, _), (14, _)] ⟨rfl, rfl, rfl, rfl, rfl, trivial⟩ ?_
       refine WX.next ?_
       refine WC.draws' (fun u0_ u1_ => Upd (From w.heap.size) u0_ u1_) (fun j => [0, 0, 0, 0, 0, 0, 0, 0, 0, 1, 0, 0, 0, 0, 0, 0, 0, 0, 1, 0, 0, 0, 0, 0, 0, 0, 0, 2].getD j 0) (.calm 0 (.calm 1 (.calm 2 (.calm 3 (.calm 5 (.calm 10 (.calm 11 (.calm 12 (.calm 14 (.calm 19 (.calm 20 (.calm 21 (.calm 23 (.held 4 (.calm 6 (.calm 7 (.held 8 (.held 13 (.calm 15 (.calm 16 (.held 17 (.held 22 (.calm 24 (.calm 25 (.held 26 (.one 9 (.one 18 (.one 27 (.done))))))))))))))))))))))))))))) mixed (by kernel_rfl) (by repeat (first | with_reducible exact Deaf.body | with_reducible apply Deaf.then | with_reducible apply Deaf.block)) ?_
       intro w5 hu5
       have hz5 := congrArg Array.size hu5.2.2.2
       replace hu5 := Upd.of_draw hu5
       have hs5 := hu5.size
       replace hU := hU.trans hu5 (by first | exact (fun _ _ h => h) | exact (fun _ _ h => h.elim) | (intro k hl hk; (try simp only [At, New, Grow, From, No] at hk ⊢); omega) | (intro k hl hk; (try simp only [At, New, Grow, From, No] at *); omega))
       replace hI := hI.upd hu5 (fun _ _ _ h => h)
       have hS6 := Upd.refl (From w.heap.size) w5
       refine WN.calm _ rfl rfl rfl rfl rfl (fun _ => r_move rfl (ev_t rfl)) ?_
       refine WN.calm _ rfl rfl rfl rfl rfl (fun _ => r_move rfl (ev_t rfl)) ?_
       refine WN.calm _ rfl rfl rfl rfl rfl (fun _ => r_nilCheck rfl (ev_t rfl)) ?_
       first | refine WN.calm _ rfl rfl rfl rfl rfl (fun _ => r_field0 rfl (ev_t rfl) fld_55_0) ?_ | refine WN.calm _ rfl rfl rfl rfl rfl (fun _ => r_fieldAt rfl (ev_t rfl) fld_55_0) ?_
       refine WN.calm _ rfl rfl rfl rfl rfl (fun _ => r_move rfl (ev_t rfl)) ?_
       refine WN.calm _ rfl rfl rfl rfl rfl (fun _ => r_move rfl (ev_t rfl)) ?_
       refine WN.calm _ rfl rfl rfl rfl rfl (fun _ => r_nilCheck rfl (ev_t rfl)) ?_
       first | refine WN.calm _ rfl rfl rfl rfl rfl (fun _ => r_field0 rfl (ev_t rfl) fld_55_0) ?_ | refine WN.calm _ rfl rfl rfl rfl rfl (fun _ => r_fieldAt rfl (ev_t rfl) fld_55_0) ?_
       refine WN.calm _ rfl rfl rfl rfl rfl (fun _ => r_move rfl (ev_t rfl)) ?_
       refine WN.calm _ rfl rfl rfl rfl rfl (fun _ => r_move rfl (ev_t rfl)) ?_
       refine WN.calm _ rfl rfl rfl rfl rfl (fun _ => r_nilCheck rfl (ev_t rfl)) ?_
       first | refine WN.calm _ rfl rfl rfl rfl rfl (fun _ => r_field0 rfl (ev_t rfl) fld_55_0) ?_ | refine WN.calm _ rfl rfl rfl rfl rfl (fun _ => r_fieldAt rfl (ev_t rfl) fld_55_0) ?_
       refine WN.calm _ rfl rfl rfl rfl rfl (fun _ => r_move rfl (ev_t rfl)) ?_
       refine WN.held _ rfl rfl rfl rfl rfl hS6 (fun w' hS => r_load rfl (ev_t rfl) flat_53 (Blk.cell ((hB.upd hU (fun h => h)).upd hS (by (try simp only [At, From, No, Grow, New]); omega)) rfl)) ?_
       refine WN.calm _ rfl rfl rfl rfl rfl (fun _ => r_indexAddr rfl (ev_t rfl) (ev_t rfl) elem_53 size_58 (by omega) (by omega)) ?_
       first | refine WN.calm _ rfl rfl rfl rfl rfl (fun _ => r_field0 rfl (ev_t rfl) fld_58_0) ?_ | refine WN.calm _ rfl rfl rfl rfl rfl (fun _ => r_fieldAt rfl (ev_t rfl) fld_58_0) ?_
       refine WN.held _ rfl rfl rfl rfl rfl hS6 (fun w' hS => r_load rfl (ev_t rfl) flat_27 (Rd.cell ((hr.upd hU (fun _ _ _ h => h)).upd hS (by intro k hk hl hS'; (try simp only [At, From, No, Grow, New] at hk hS'); omega)) (j := i * 3) (by omega) (hcell 0 _ rfl))) ?_
       refine WN.held _ rfl rfl rfl rfl rfl hS6 (fun w' hS => r_load rfl (ev_t rfl) flat_53 (Blk.cell ((hB.upd hU (fun h => h)).upd hS (by (try simp only [At, From, No, Grow, New]); omega)) rfl)) ?_
       refine WN.calm _ rfl rfl rfl rfl rfl (fun _ => r_indexAddr rfl (ev_t rfl) (ev_t rfl) elem_53 size_58 (by omega) (by omega)) ?_
       first | refine WN.calm _ rfl rfl rfl rfl rfl (fun _ => r_field0 rfl (ev_t rfl) fld_58_1) ?_ | refine WN.calm _ rfl rfl rfl rfl rfl (fun _ => r_fieldAt rfl (ev_t rfl) fld_58_1) ?_
       refine WN.held _ rfl rfl rfl rfl rfl hS6 (fun w' hS => r_load rfl (ev_t rfl) flat_27 (Rd.cell ((hr.upd hU (fun _ _ _ h => h)).upd hS (by intro k hk hl hS'; (try simp only [At, From, No, Grow, New] at hk hS'); omega)) (j := i * 3 + 1) (by omega) (hcell 1 _ rfl))) ?_
       refine WN.held _ rfl rfl rfl rfl rfl hS6 (fun w' hS => r_load rfl (ev_t rfl) flat_53 (Blk.cell ((hB.upd hU (fun h => h)).upd hS (by (try simp only [At, From, No, Grow, New]); omega)) rfl)) ?_
       refine WN.calm _ rfl rfl rfl rfl rfl (fun _ => r_indexAddr rfl (ev_t rfl) (ev_t rfl) elem_53 size_58 (by omega) (by omega)) ?_
       first | refine WN.calm _ rfl rfl rfl rfl rfl (fun _ => r_field0 rfl (ev_t rfl) fld_58_2) ?_ | refine WN.calm _ rfl rfl rfl rfl rfl (fun _ => r_fieldAt rfl (ev_t rfl) fld_58_2) ?_
       refine WN.held _ rfl rfl rfl rfl rfl hS6 (fun w' hS => r_load rfl (ev_t rfl) flat_23 (Rd.cell ((hr.upd hU (fun _ _ _ h => h)).upd hS (by intro k hk hl hS'; (try simp only [At, From, No, Grow, New] at hk hS'); omega)) (j := i * 3 + 2) (by omega) (hcell 2 _ rfl))) ?_
       refine WN.step _ rfl (SO.call (wuint_ok (n := r.x.id) hI hx2 (by simp only [List.length_append]; omega)) rfl body_23 ⟨(ev_t rfl), (ev_t rfl), trivial⟩ rfl rfl rfl rfl ?_)
       rintro v w6 ⟨rfl, hI, hu6⟩
       replace hI := hI.mono (M' := New w w6) (fun k hk => by have := hu6.size; simp only [New, Grow] at *; omega)
       have hs6 := hu6.size
       replace hS6 := Upd.transA hS6 hu6
       replace hU := hU.trans hu6 (by first | exact (fun _ _ h => h) | exact (fun _ _ h => h.elim) | (intro k hl hk; (try simp only [At, New, Grow, From, No] at hk ⊢); omega) | (intro k hl hk; (try simp only [At, New, Grow, From, No] at *); omega))
       refine ⟨hS6, ?_⟩
       refine WN.step _ rfl (SO.call (wuint_ok (n := r.x.num) hI hx4 (by simp only [List.length_append]; omega)) rfl body_23 ⟨(ev_t rfl), (ev_t rfl), trivial⟩ rfl rfl rfl rfl ?_)
       rintro v w7 ⟨rfl, hI, hu7⟩
       replace hI := hI.mono (M' := New w w7) (fun k hk => by have := hu7.size; simp only [New, Grow] at *; omega)
       have hs7 := hu7.size
       replace hS6 := Upd.transA hS6 hu7
       replace hU := hU.trans hu7 (by first | exact (fun _ _ h => h) | exact (fun _ _ h => h.elim) | (intro k hl hk; (try simp only [At, New, Grow, From, No] at hk ⊢); omega) | (intro k hl hk; (try simp only [At, New, Grow, From, No] at *); omega))
       refine ⟨hS6, ?_⟩
       have hDr := (hD r (List.mem_of_getElem? hg)).upd hU (fun _ _ _ h => h)
       refine WN.step _ rfl (SO.call (wbytes_ok hI hDr (fun k hk h => by have := hH k hk; simp only [New] at h; omega) (by simp only [List.length_append]; omega)) rfl body_24 ⟨(ev_t rfl), (ev_t rfl), trivial⟩ rfl rfl rfl rfl ?_)
       rintro v w8 ⟨rfl, hI, hu8⟩
       replace hI := hI.mono (M' := New w w8) (fun k hk => by have := hu8.size; simp only [New, Grow] at *; omega)
       have hs8 := hu8.size
       try replace hS6 := Upd.transA hS6 hu8
       replace hU := hU.trans hu8 (by first | exact (fun _ _ h => h) | exact (fun _ _ h => h.elim) | (intro k hl hk; (try simp only [At, New, Grow, From, No] at hk ⊢); omega) | (intro k hl hk; (try simp only [At, New, Grow, From, No] at *); omega))
       refine ⟨trivial, ?_⟩
       refine WN.done ?_
       refine WX.keep [(0, _), (3, _), (13, _), (14, _)] ⟨rfl, rfl, rfl, rfl, trivial⟩ ?_
       refine WX.blockNormal ?_
       refine WX.next ?_
       refine WC.region ?_
       first | refine WL.val rfl rfl rfl rfl (r_addN rfl (ev_t rfl) ev_c (by simp only [inK]; omega)) ?_ | refine WL.val rfl rfl rfl rfl (r_add rfl (ev_t rfl) ev_c) ?_
       refine WL.val rfl rfl rfl rfl (r_move rfl (ev_t rfl)) ?_
       refine WL.nil ?_
       refine WX.keep [(0, _), (3, _), (13, _), (14, _)] ⟨rfl, rfl, rfl, rfl, trivial⟩ ?_
       refine WX.meet [(0, _), (3, _), (13, _), (14, _)] ⟨rfl, rfl, rfl, rfl, trivial⟩ ?_
       refine ⟨L.length - (i + 1), by omega, i + 1, by omega, rfl, hU, ?_, rfl⟩
       rw [take_flat hLi]
       simpa only [lsB, List.append_assoc] using hI
    · try (exfalso; first | (simp at hc4; done) | (simp only [decide_eq_true_eq, decide_eq_false_iff_not, Bool.not_eq_true', Bool.not_eq_false', Bool.not_eq_true, Bool.not_eq_false] at hc4; omega) | omega)
      all_goals
       try simp only [decide_eq_true_eq, decide_eq_false_iff_not, Bool.not_eq_true', Bool.not_eq_false', Bool.not_eq_true, Bool.not_eq_false, Option.isNone_none, Option.isNone_some, Option.isSome_none, Option.isSome_some, ne_eq, Decidable.not_not] at hc4
       obtain rfl : i = L.length := by omega
       rw [List.take_length] at hI
       refine WC.exit ?_
       refine WX.thenExit ?_
       refine WX.thenExit ?_
       refine WX.blockHere ?_
       refine WX.next ?_
       refine WC.seq ?_
       refine WC.region ?_
       refine WL.val rfl rfl rfl rfl (r_move rfl (ev_t rfl)) ?_
       refine WL.cons (SO.call (wdone_ok hI (by have := saveS_len hL; simp only [saveS] at this; omega)) rfl body_25 ⟨(ev_t rfl), trivial⟩ rfl rfl rfl rfl ?_)
       rintro v w9 ⟨ho, hu9⟩
       replace ho := ho.mono (F' := New w w9) (fun k hk => by simp only [New] at *; omega)
       have hs9 := hu9.size
       replace hU := hU.trans hu9 (by first | exact (fun _ _ h => h) | exact (fun _ _ h => h.elim) | (intro k hl hk; (try simp only [At, New, Grow, From, No] at hk ⊢); omega) | (intro k hl hk; (try simp only [At, New, Grow, From, No] at *); omega))
       replace hI := hI.upd hu9 (fun _ _ _ h => h)
       refine WL.val rfl rfl rfl rfl (r_assign rfl (ev_t rfl)) ?_
       refine WL.nil ?_
       refine WX.keep [(2, _)] ⟨rfl, trivial⟩ ?_
       refine WX.next ?_
       refine WC.ret ?_
       refine WX.retE1 rfl rfl ?_
       exact ⟨ho, hU⟩
set_option maxHeartbeats 1000000 in
theorem Save_nil {w : World} : Ret Try.prog 14 #[.pointer none] w fun u w' => Own w' (New w w') 5 1 u (saveS []).length ((saveS []).map U8) ∧ Upd No w w' := by
  have hn0 : ∀ w, Ret Try.prog 13 #[.pointer none] w fun u w' => u = .int .i64 0 ∧ Upd No w w' := fun w => by
    refine enterRet (vs := [_]) (N := 10) Try.func13 rfl rfl rfl ?_
    have hU := Upd.refl No w
    refine WC.keep [(0, _)] ⟨rfl, trivial⟩ ?_
    refine WC.seq ?_
    refine WC.region ?_
    refine WL.val rfl rfl rfl rfl (r_assign rfl ev_c) ?_
    refine WL.nil ?_
    refine WX.keep [(0, _)] ⟨rfl, trivial⟩ ?_
    refine WX.next ?_
    refine WC.seq ?_
    refine WC.seq ?_
    refine WC.region ?_
    refine WL.val rfl rfl rfl rfl (r_move rfl (ev_t rfl)) ?_
    refine WL.val rfl rfl rfl rfl (r_eqlPtrNil rfl (ev_t rfl) ev_c ptr_25) ?_
    refine WL.nil ?_
    refine WX.keep [(0, _), (4, _)] ⟨rfl, rfl, trivial⟩ ?_
    refine WX.next ?_
    refine WC.cond rfl (ev_t rfl) (fun hc1 => ?_) (fun hc1 => ?_)
    · try (exfalso; first | (simp at hc1; done) | (simp only [decide_eq_true_eq, decide_eq_false_iff_not, Bool.not_eq_true', Bool.not_eq_false', Bool.not_eq_true, Bool.not_eq_false] at hc1; omega) | omega)
      all_goals
       try simp only [decide_eq_true_eq, decide_eq_false_iff_not, Bool.not_eq_true', Bool.not_eq_false', Bool.not_eq_true, Bool.not_eq_false, Option.isNone_none, Option.isNone_some, Option.isSome_none, Option.isSome_some, ne_eq, Decidable.not_not] at hc1
       refine WC.seq ?_
       refine WC.region ?_
       refine WL.val rfl rfl rfl rfl (r_assign rfl ev_c) ?_
       refine WL.nil ?_
       refine WX.keep [(2, _)] ⟨rfl, trivial⟩ ?_
       refine WX.next ?_
       refine WC.ret ?_
       refine WX.thenRet ?_
       refine WX.retE1 rfl rfl ?_
       exact ⟨rfl, hU⟩
    · try (exfalso; first | (simp at hc1; done) | (simp only [decide_eq_true_eq, decide_eq_false_iff_not, Bool.not_eq_true', Bool.not_eq_false', Bool.not_eq_true, Bool.not_eq_false] at hc1; omega) | omega)
      all_goals
       try simp only [decide_eq_true_eq, decide_eq_false_iff_not, Bool.not_eq_true', Bool.not_eq_false', Bool.not_eq_true, Bool.not_eq_false, Option.isNone_none, Option.isNone_some, Option.isSome_none, Option.isSome_some, ne_eq, Decidable.not_not] at hc1
       refine WC.skip ?_
       refine WX.next ?_
       refine WC.seq ?_
       refine WC.region ?_
       refine WL.val rfl rfl rfl rfl (r_move rfl (ev_t rfl)) ?_
       refine WL.val rfl rfl rfl rfl (r_nilCheck rfl (ev_t rfl)) ?_
       first | refine WL.val rfl rfl rfl rfl (r_field0 rfl (ev_t rfl) fld_55_0) ?_ | refine WL.val rfl rfl rfl rfl (r_fieldAt rfl (ev_t rfl) fld_55_0) ?_
       fail -- load 3.3: no facts
  refine enterRet (vs := [_]) (N := 48) Try.func14 rfl rfl rfl ?_
  have hU := Upd.refl No w
  refine WC.keep [(0, _)] ⟨rfl, trivial⟩ ?_
  refine WC.seq ?_
  refine WC.region ?_
  refine WL.val rfl rfl rfl rfl (r_assign rfl ev_c) ?_
  refine WL.nil ?_
  refine WX.keep [(0, _)] ⟨rfl, trivial⟩ ?_
  refine WX.next ?_
  refine WC.seq ?_
  refine WC.region ?_
  refine WL.val rfl rfl rfl rfl (r_build (cs := #[_]) (vs := []) rfl trivial plc_64 zero_64 rfl) ?_
  refine WL.cons (SO.alloc rfl rfl rfl rfl (r_boxAgg rfl (ev_t rfl)) ?_)
  intro w1 hu1 hB1 hz1
  have hs1 := hu1.size
  replace hU := hU.trans hu1 (by first | exact (fun _ _ h => h) | exact (fun _ _ h => h.elim) | (intro k hl hk; (try simp only [At, New, Grow, From, No] at hk ⊢); omega) | (intro k hl hk; (try simp only [At, New, Grow, From, No] at *); omega))
  refine WL.val rfl rfl rfl rfl (r_assign rfl (ev_t rfl)) ?_
  refine WL.nil ?_
  refine WX.keep [(0, _), (3, _)] ⟨rfl, rfl, trivial⟩ ?_
  refine WX.next ?_
  refine WC.seq ?_
  refine WC.region ?_
  refine WL.val rfl rfl rfl rfl (r_move rfl (ev_t rfl)) ?_
  refine WL.val rfl rfl rfl rfl (r_move rfl (ev_t rfl)) ?_
  refine WL.cons (SO.call (hn0 _) rfl body_13 ⟨(ev_t rfl), trivial⟩ rfl rfl rfl rfl ?_)
  rintro v w2 ⟨rfl, hu2⟩
  have hs2 := hu2.size
  replace hU := hU.trans hu2 (by first | exact (fun _ _ h => h) | exact (fun _ _ h => h.elim) | (intro k hl hk; (try simp only [At, New, Grow, From, No] at hk ⊢); omega) | (intro k hl hk; (try simp only [At, New, Grow, From, No] at *); omega))
  replace hB1 := hB1.updA hu2
  first | refine WL.val rfl rfl rfl rfl (r_convN rfl (ev_t rfl) some_3 int_27 (by simp only [inK]; omega)) ?_ | refine WL.val rfl rfl rfl rfl (r_conv rfl (ev_t rfl) some_3 int_27) ?_
  have hI := IsW.of (M := New w w2) hB1 ⟨Nat.le_refl _, by omega⟩
  refine WL.cons (SO.call (wuint_ok (n := 0) hI (by omega) (by simp)) rfl body_23 ⟨(ev_t rfl), (ev_t rfl), trivial⟩ rfl rfl rfl rfl ?_)
  rintro v w3 ⟨rfl, hI, hu3⟩
  rw [List.nil_append] at hI
  replace hI := hI.mono (M' := New w w3) (fun k hk => by have := hu3.size; simp only [New, Grow] at *; omega)
  have hs3 := hu3.size
  replace hU := hU.trans hu3 (by first | exact (fun _ _ h => h) | exact (fun _ _ h => h.elim) | (intro k hl hk; (try simp only [At, New, Grow, From, No] at hk ⊢); omega) | (intro k hl hk; (try simp only [At, New, Grow, From, No] at *); omega))
  refine WL.nil ?_
  refine WX.keep [(0, _), (3, _)] ⟨rfl, rfl, trivial⟩ ?_
  refine WX.next ?_
  refine WC.seq ?_
  refine WC.seq ?_
  refine WC.region ?_
  refine WL.val rfl rfl rfl rfl (r_move rfl (ev_t rfl)) ?_
  refine WL.cons (SO.call (hn0 _) rfl body_13 ⟨(ev_t rfl), trivial⟩ rfl rfl rfl rfl ?_)
  rintro v w4 ⟨rfl, hu4⟩
  replace hI := hI.upd hu4 (fun _ _ _ h => h)
  replace hI := hI.mono (M' := New w w4) (fun k hk => by have := hu4.size; simp only [New, Grow] at *; omega)
  have hs4 := hu4.size
  replace hU := hU.trans hu4 (by first | exact (fun _ _ h => h) | exact (fun _ _ h => h.elim) | (intro k hl hk; (try simp only [At, New, Grow, From, No] at hk ⊢); omega) | (intro k hl hk; (try simp only [At, New, Grow, From, No] at *); omega))
  refine WL.val rfl rfl rfl rfl (r_move rfl ev_c) ?_
  refine WL.nil ?_
  refine WX.keep [(0, _), (3, _), (13, _), (14, _)] ⟨rfl, rfl, rfl, rfl, trivial⟩ ?_
  refine WX.next ?_
  refine WC.block ?_
  -- loop 1: live [0, 3, 13, 14]
  refine WC.keep [(0, _), (3, _), (13, _), (14, _)] ⟨rfl, rfl, rfl, rfl, trivial⟩ ?_
  refine WC.loop (fun q E w' => q = 0 ∧ Upd No w w' ∧ IsW w' (New w w') w.heap.size (encU 0) ∧   E = [(0, .pointer none), (3, .pointer (some ⟨w.heap.size, 0, none⟩)), (13, .int .i64 0), (14, .int .i64 0)]) (0) ?_ ?_
  · exact ⟨rfl, hU, hI, rfl⟩
  · clear hU hI
    rintro q E w' ⟨rfl, hU, hI, rfl⟩
    have hw0 := hU.size
    refine WC.seq ?_
    refine WC.region ?_
    refine WL.val rfl rfl rfl rfl (r_lss rfl (ev_t rfl) (ev_t rfl)) ?_
    refine WL.nil ?_
    refine WX.keep [(0, _), (3, _), (13, _), (14, _), (15, _)] ⟨rfl, rfl, rfl, rfl, rfl, trivial⟩ ?_
    refine WX.next ?_
    refine WC.seq ?_
    refine WC.cond rfl (ev_t rfl) (fun hc4 => ?_) (fun hc4 => ?_)
    · try simp only [decide_eq_true_eq, decide_eq_false_iff_not, Bool.not_eq_true', Bool.not_eq_false', Bool.not_eq_true, Bool.not_eq_false, Option.isNone_none, Option.isNone_some, Option.isSome_none, Option.isSome_some, ne_eq, Decidable.not_not] at hc4
      exfalso
      omega
    · try (exfalso; first | (simp at hc4; done) | (simp only [decide_eq_true_eq, decide_eq_false_iff_not, Bool.not_eq_true', Bool.not_eq_false', Bool.not_eq_true, Bool.not_eq_false] at hc4; omega) | omega)
      all_goals
       try simp only [decide_eq_true_eq, decide_eq_false_iff_not, Bool.not_eq_true', Bool.not_eq_false', Bool.not_eq_true, Bool.not_eq_false, Option.isNone_none, Option.isNone_some, Option.isSome_none, Option.isSome_some, ne_eq, Decidable.not_not] at hc4
       refine WC.exit ?_
       refine WX.thenExit ?_
       refine WX.thenExit ?_
       refine WX.blockHere ?_
       refine WX.next ?_
       refine WC.seq ?_
       refine WC.region ?_
       refine WL.val rfl rfl rfl rfl (r_move rfl (ev_t rfl)) ?_
       refine WL.cons (SO.call (wdone_ok hI (by have := encU_len9s (n := 0) (by omega); omega)) rfl body_25 ⟨(ev_t rfl), trivial⟩ rfl rfl rfl rfl ?_)
       rintro v w5 ⟨ho, hu5⟩
       replace ho := ho.mono (F' := New w w5) (fun k hk => by simp only [New] at *; omega)
       have hs5 := hu5.size
       replace hU := hU.trans hu5 (by first | exact (fun _ _ h => h) | exact (fun _ _ h => h.elim) | (intro k hl hk; (try simp only [At, New, Grow, From, No] at hk ⊢); omega) | (intro k hl hk; (try simp only [At, New, Grow, From, No] at *); omega))
       refine WL.val rfl rfl rfl rfl (r_assign rfl (ev_t rfl)) ?_
       refine WL.nil ?_
       refine WX.keep [(2, _)] ⟨rfl, trivial⟩ ?_
       refine WX.next ?_
       refine WC.ret ?_
       refine WX.retE1 rfl rfl ?_
       exact ⟨by simpa [saveS] using ho, hU⟩
theorem Ask_nil (w : World) (id num : Nat) : Ret Try.prog 12 #[.pointer none, .int .u64 (id : Int), .int .u64 (num : Int)] w fun u w' => u = .tuple #[.slice none 0 0, .int .i64 15] ∧ Upd No w w' := by
  refine enterRet (vs := [_, _, _]) (N := 72) Try.func12 rfl rfl rfl ?_
  have hU := Upd.refl No w
  refine WC.keep [(0, _), (1, _), (2, _)] ⟨rfl, rfl, rfl, trivial⟩ ?_
  refine WC.seq ?_
  refine WC.region ?_
  refine WL.val rfl rfl rfl rfl (r_assign rfl ev_c) ?_
  refine WL.val rfl rfl rfl rfl (r_assign rfl ev_c) ?_
  refine WL.nil ?_
  refine WX.keep [(0, _), (1, _), (2, _)] ⟨rfl, rfl, rfl, trivial⟩ ?_
  refine WX.next ?_
  refine WC.seq ?_
  refine WC.block ?_
  refine WC.seq ?_
  refine WC.region ?_
  refine WL.val rfl rfl rfl rfl (r_move rfl (ev_t rfl)) ?_
  refine WL.val rfl rfl rfl rfl (r_eqlPtrNil rfl (ev_t rfl) ev_c ptr_25) ?_
  refine WL.val rfl rfl rfl rfl (r_assign rfl (ev_t rfl)) ?_
  refine WL.nil ?_
  refine WX.keep [(0, _), (1, _), (2, _), (10, _)] ⟨rfl, rfl, rfl, rfl, trivial⟩ ?_
  refine WX.next ?_
  refine WC.cond rfl (ev_t rfl) (fun hc1 => ?_) (fun hc1 => ?_)
  · try (exfalso; first | (simp at hc1; done) | (simp only [decide_eq_true_eq, decide_eq_false_iff_not, Bool.not_eq_true', Bool.not_eq_false', Bool.not_eq_true, Bool.not_eq_false] at hc1; omega) | omega)
    all_goals
     try simp only [decide_eq_true_eq, decide_eq_false_iff_not, Bool.not_eq_true', Bool.not_eq_false', Bool.not_eq_true, Bool.not_eq_false, Option.isNone_none, Option.isNone_some, Option.isSome_none, Option.isSome_some, ne_eq, Decidable.not_not] at hc1
     refine WC.seq ?_
     refine WC.region ?_
     refine WL.val rfl rfl rfl rfl (r_assign rfl ev_c) ?_
     refine WL.val rfl rfl rfl rfl (r_assign rfl ev_c) ?_
     refine WL.nil ?_
     refine WX.keep [(6, _), (7, _)] ⟨rfl, rfl, trivial⟩ ?_
     refine WX.next ?_
     refine WC.ret ?_
     refine WX.blockRet ?_
     refine WX.thenRet ?_
     refine WX.retE2 rfl rfl rfl ?_
     exact ⟨rfl, hU⟩
  · try (exfalso; first | (simp at hc1; done) | (simp only [decide_eq_true_eq, decide_eq_false_iff_not, Bool.not_eq_true', Bool.not_eq_false', Bool.not_eq_true, Bool.not_eq_false] at hc1; omega) | omega)
    all_goals
     try simp only [decide_eq_true_eq, decide_eq_false_iff_not, Bool.not_eq_true', Bool.not_eq_false', Bool.not_eq_true, Bool.not_eq_false, Option.isNone_none, Option.isNone_some, Option.isSome_none, Option.isSome_some, ne_eq, Decidable.not_not] at hc1
     refine WC.seq ?_
     refine WC.region ?_
     refine WL.val rfl rfl rfl rfl (r_move rfl (ev_t rfl)) ?_
     refine WL.val rfl rfl rfl rfl (r_eql rfl (ev_t rfl) ev_c) ?_
     refine WL.val rfl rfl rfl rfl (r_move rfl (ev_t rfl)) ?_
     refine WL.cases 16 rfl (fun hb3_2 => ?_) (fun hb3_2 => ?_)
     · try (exfalso; first | (simp at hb3_2; done) | (simp only [decide_eq_true_eq, decide_eq_false_iff_not, Bool.not_eq_true', Bool.not_eq_false', Bool.not_eq_true, Bool.not_eq_false] at hb3_2; omega) | omega)
       all_goals
        try simp only [decide_eq_true_eq, decide_eq_false_iff_not, Bool.not_eq_true', Bool.not_eq_false', Bool.not_eq_true, Bool.not_eq_false, Option.isNone_none, Option.isNone_some, Option.isSome_none, Option.isSome_some, ne_eq, Decidable.not_not] at hb3_2
        refine WL.skip rfl rfl rfl ?_
        refine WL.skip rfl rfl rfl ?_
        refine WL.val rfl rfl rfl rfl (r_pickT rfl (ev_t rfl) ev_c) ?_
        refine WL.val rfl rfl rfl rfl (r_assign rfl (ev_t rfl)) ?_
        refine WL.nil ?_
        refine WX.keep [(0, _), (1, _), (2, _), (13, _)] ⟨rfl, rfl, rfl, rfl, trivial⟩ ?_
        refine WX.next ?_
        refine WC.cond_true rfl (ev_t rfl) ?_
        refine WC.seq ?_
        refine WC.region ?_
        refine WL.val rfl rfl rfl rfl (r_assign rfl ev_c) ?_
        refine WL.val rfl rfl rfl rfl (r_assign rfl ev_c) ?_
        refine WL.nil ?_
        refine WX.keep [(6, _), (7, _)] ⟨rfl, rfl, trivial⟩ ?_
        refine WX.next ?_
        refine WC.ret ?_
        refine WX.blockRet ?_
        refine WX.thenRet ?_
        refine WX.retE2 rfl rfl rfl ?_
        exact ⟨rfl, hU⟩
     · try (exfalso; first | (simp at hb3_2; done) | (simp only [decide_eq_true_eq, decide_eq_false_iff_not, Bool.not_eq_true', Bool.not_eq_false', Bool.not_eq_true, Bool.not_eq_false] at hb3_2; omega) | omega)
       all_goals
        try simp only [decide_eq_true_eq, decide_eq_false_iff_not, Bool.not_eq_true', Bool.not_eq_false', Bool.not_eq_true, Bool.not_eq_false, Option.isNone_none, Option.isNone_some, Option.isSome_none, Option.isSome_some, ne_eq, Decidable.not_not] at hb3_2
        refine WL.val rfl rfl rfl rfl (r_move rfl (ev_t rfl)) ?_
        refine WL.val rfl rfl rfl rfl (r_eql rfl (ev_t rfl) ev_c) ?_
        refine WL.val rfl rfl rfl rfl (r_pickF rfl (ev_t rfl) (ev_t rfl)) ?_
        refine WL.val rfl rfl rfl rfl (r_assign rfl (ev_t rfl)) ?_
        refine WL.nil ?_
        refine WX.keep [(0, _), (1, _), (2, _), (13, _)] ⟨rfl, rfl, rfl, rfl, trivial⟩ ?_
        refine WX.next ?_
        refine WC.cond rfl (ev_t rfl) (fun hc3 => ?_) (fun hc3 => ?_)
        · try (exfalso; first | (simp at hc3; done) | (simp only [decide_eq_true_eq, decide_eq_false_iff_not, Bool.not_eq_true', Bool.not_eq_false', Bool.not_eq_true, Bool.not_eq_false] at hc3; omega) | omega)
          all_goals
           try simp only [decide_eq_true_eq, decide_eq_false_iff_not, Bool.not_eq_true', Bool.not_eq_false', Bool.not_eq_true, Bool.not_eq_false, Option.isNone_none, Option.isNone_some, Option.isSome_none, Option.isSome_some, ne_eq, Decidable.not_not] at hc3
           refine WC.seq ?_
           refine WC.region ?_
           refine WL.val rfl rfl rfl rfl (r_assign rfl ev_c) ?_
           refine WL.val rfl rfl rfl rfl (r_assign rfl ev_c) ?_
           refine WL.nil ?_
           refine WX.keep [(6, _), (7, _)] ⟨rfl, rfl, trivial⟩ ?_
           refine WX.next ?_
           refine WC.ret ?_
           refine WX.blockRet ?_
           refine WX.thenRet ?_
           refine WX.retE2 rfl rfl rfl ?_
           exact ⟨rfl, hU⟩
        · try (exfalso; first | (simp at hc3; done) | (simp only [decide_eq_true_eq, decide_eq_false_iff_not, Bool.not_eq_true', Bool.not_eq_false', Bool.not_eq_true, Bool.not_eq_false] at hc3; omega) | omega)
          all_goals
           try simp only [decide_eq_true_eq, decide_eq_false_iff_not, Bool.not_eq_true', Bool.not_eq_false', Bool.not_eq_true, Bool.not_eq_false, Option.isNone_none, Option.isNone_some, Option.isSome_none, Option.isSome_some, ne_eq, Decidable.not_not] at hc3
           refine WC.skip ?_
           refine WX.blockNormal ?_
           refine WX.next ?_
           refine WC.seq ?_
           refine WC.region ?_
           refine WL.val rfl rfl rfl rfl (r_move rfl (ev_t rfl)) ?_
           refine WL.val rfl rfl rfl rfl (r_move rfl (ev_t rfl)) ?_
           fail -- call 5.2 of (*battledore/session.Table).find
theorem Put_nil (w : World) (id num : Nat) (v : Value) : Ret Try.prog 11 #[.pointer none, .int .u64 (id : Int), .int .u64 (num : Int), v] w fun u w' => u = .int .i64 15 ∧ Upd No w w' := by
  refine enterRet (vs := [_, _, _, _]) (N := 56) Try.func11 rfl rfl rfl ?_
  have hU := Upd.refl No w
  refine WC.keep [(0, _), (1, _), (2, _), (3, _)] ⟨rfl, rfl, rfl, rfl, trivial⟩ ?_
  refine WC.seq ?_
  refine WC.region ?_
  refine WL.val rfl rfl rfl rfl (r_assign rfl ev_c) ?_
  refine WL.nil ?_
  refine WX.keep [(0, _), (1, _), (2, _), (3, _)] ⟨rfl, rfl, rfl, rfl, trivial⟩ ?_
  refine WX.next ?_
  refine WC.seq ?_
  refine WC.seq ?_
  refine WC.region ?_
  refine WL.val rfl rfl rfl rfl (r_move rfl (ev_t rfl)) ?_
  refine WL.val rfl rfl rfl rfl (r_move rfl (ev_t rfl)) ?_
  refine WL.val rfl rfl rfl rfl (r_move rfl (ev_t rfl)) ?_
  refine WL.cons (SO.call (Ask_nil _ id num) rfl body_12 ⟨(ev_t rfl), (ev_t rfl), (ev_t rfl), trivial⟩ rfl rfl rfl rfl ?_)
  rintro v w1 ⟨rfl, hu1⟩
  have hs1 := hu1.size
  replace hU := hU.transA hu1
  refine WL.val rfl rfl rfl rfl (r_move rfl (ev_t rfl)) ?_
  refine WL.val rfl rfl rfl rfl (r_extract rfl (ev_t rfl) rfl) ?_
  refine WL.val rfl rfl rfl rfl (r_extract rfl (ev_t rfl) rfl) ?_
  refine WL.val rfl rfl rfl rfl (r_assign rfl (ev_t rfl)) ?_
  refine WL.val rfl rfl rfl rfl (r_assign rfl (ev_t rfl)) ?_
  refine WL.nil ?_
  refine WX.keep [(0, _), (1, _), (2, _), (3, _), (10, _)] ⟨rfl, rfl, rfl, rfl, rfl, trivial⟩ ?_
  refine WX.next ?_
  refine WC.seq ?_
  refine WC.region ?_
  refine WL.val rfl rfl rfl rfl (r_move rfl (ev_t rfl)) ?_
  refine WL.val rfl rfl rfl rfl (r_neq rfl (ev_t rfl) ev_c) ?_
  refine WL.nil ?_
  refine WX.keep [(0, _), (1, _), (2, _), (3, _), (10, _), (22, _)] ⟨rfl, rfl, rfl, rfl, rfl, rfl, trivial⟩ ?_
  refine WX.next ?_
  refine WC.cond rfl (ev_t rfl) (fun hc2 => ?_) (fun hc2 => ?_)
  · try (exfalso; first | (simp at hc2; done) | (simp only [decide_eq_true_eq, decide_eq_false_iff_not, Bool.not_eq_true', Bool.not_eq_false', Bool.not_eq_true, Bool.not_eq_false] at hc2; omega) | omega)
    all_goals
     try simp only [decide_eq_true_eq, decide_eq_false_iff_not, Bool.not_eq_true', Bool.not_eq_false', Bool.not_eq_true, Bool.not_eq_false, Option.isNone_none, Option.isNone_some, Option.isSome_none, Option.isSome_some, ne_eq, Decidable.not_not] at hc2
     refine WC.seq ?_
     refine WC.seq ?_
     refine WC.region ?_
     refine WL.val rfl rfl rfl rfl (r_move rfl (ev_t rfl)) ?_
     refine WL.val rfl rfl rfl rfl (r_eql rfl (ev_t rfl) ev_c) ?_
     refine WL.nil ?_
     refine WX.keep [(10, _), (24, _)] ⟨rfl, rfl, trivial⟩ ?_
     refine WX.next ?_
     refine WC.cond rfl (ev_t rfl) (fun hc3 => ?_) (fun hc3 => ?_)
     · try (exfalso; first | (simp at hc3; done) | (simp only [decide_eq_true_eq, decide_eq_false_iff_not, Bool.not_eq_true', Bool.not_eq_false', Bool.not_eq_true, Bool.not_eq_false] at hc3; omega) | omega)
       all_goals
        try simp only [decide_eq_true_eq, decide_eq_false_iff_not, Bool.not_eq_true', Bool.not_eq_false', Bool.not_eq_true, Bool.not_eq_false, Option.isNone_none, Option.isNone_some, Option.isSome_none, Option.isSome_some, ne_eq, Decidable.not_not] at hc3
        refine WC.seq ?_
        refine WC.region ?_
        refine WL.val rfl rfl rfl rfl (r_assign rfl ev_c) ?_
        refine WL.nil ?_
        refine WX.keep [(8, _)] ⟨rfl, trivial⟩ ?_
        refine WX.next ?_
        refine WC.ret ?_
        refine WX.thenRet ?_
        refine WX.thenRet ?_
        refine WX.retE1 rfl rfl ?_
        exact ⟨rfl, hU⟩
     · try (exfalso; first | (simp at hc3; done) | (simp only [decide_eq_true_eq, decide_eq_false_iff_not, Bool.not_eq_true', Bool.not_eq_false', Bool.not_eq_true, Bool.not_eq_false] at hc3; omega) | omega)
       all_goals
        try simp only [decide_eq_true_eq, decide_eq_false_iff_not, Bool.not_eq_true', Bool.not_eq_false', Bool.not_eq_true, Bool.not_eq_false, Option.isNone_none, Option.isNone_some, Option.isSome_none, Option.isSome_some, ne_eq, Decidable.not_not] at hc3
        refine WC.skip ?_
        refine WX.next ?_
        refine WC.seq ?_
        refine WC.region ?_
        refine WL.val rfl rfl rfl rfl (r_move rfl (ev_t rfl)) ?_
        refine WL.val rfl rfl rfl rfl (r_assign rfl (ev_t rfl)) ?_
        refine WL.nil ?_
        refine WX.keep [(8, _)] ⟨rfl, trivial⟩ ?_
        refine WX.next ?_
        refine WC.ret ?_
        refine WX.thenRet ?_
        refine WX.retE1 rfl rfl ?_
        exact ⟨rfl, hU⟩
  · try (exfalso; first | (simp at hc2; done) | (simp only [decide_eq_true_eq, decide_eq_false_iff_not, Bool.not_eq_true', Bool.not_eq_false', Bool.not_eq_true, Bool.not_eq_false] at hc2; omega) | omega)
    all_goals
     try simp only [decide_eq_true_eq, decide_eq_false_iff_not, Bool.not_eq_true', Bool.not_eq_false', Bool.not_eq_true, Bool.not_eq_false, Option.isNone_none, Option.isNone_some, Option.isSome_none, Option.isSome_some, ne_eq, Decidable.not_not] at hc2
     refine WC.skip ?_
     refine WX.next ?_
     refine WC.seq ?_
     refine WC.region ?_
     refine WL.val rfl rfl rfl rfl (r_move rfl (ev_t rfl)) ?_
     refine WL.val rfl rfl rfl rfl (r_move rfl (ev_t rfl)) ?_
     refine WL.val rfl rfl rfl rfl (r_move rfl (ev_t rfl)) ?_
     fail -- call 6.3 of slices.Clone[[]byte,byte]
theorem Len_nil (w : World) : Ret Try.prog 13 #[.pointer none] w fun u w' => u = .int .i64 0 ∧ Upd No w w' := by
  refine enterRet (vs := [_]) (N := 10) Try.func13 rfl rfl rfl ?_
  have hU := Upd.refl No w
  refine WC.keep [(0, _)] ⟨rfl, trivial⟩ ?_
  refine WC.seq ?_
  refine WC.region ?_
  refine WL.val rfl rfl rfl rfl (r_assign rfl ev_c) ?_
  refine WL.nil ?_
  refine WX.keep [(0, _)] ⟨rfl, trivial⟩ ?_
  refine WX.next ?_
  refine WC.seq ?_
  refine WC.seq ?_
  refine WC.region ?_
  refine WL.val rfl rfl rfl rfl (r_move rfl (ev_t rfl)) ?_
  refine WL.val rfl rfl rfl rfl (r_eqlPtrNil rfl (ev_t rfl) ev_c ptr_25) ?_
  refine WL.nil ?_
  refine WX.keep [(0, _), (4, _)] ⟨rfl, rfl, trivial⟩ ?_
  refine WX.next ?_
  refine WC.cond rfl (ev_t rfl) (fun hc1 => ?_) (fun hc1 => ?_)
  · try (exfalso; first | (simp at hc1; done) | (simp only [decide_eq_true_eq, decide_eq_false_iff_not, Bool.not_eq_true', Bool.not_eq_false', Bool.not_eq_true, Bool.not_eq_false] at hc1; omega) | omega)
    all_goals
     try simp only [decide_eq_true_eq, decide_eq_false_iff_not, Bool.not_eq_true', Bool.not_eq_false', Bool.not_eq_true, Bool.not_eq_false, Option.isNone_none, Option.isNone_some, Option.isSome_none, Option.isSome_some, ne_eq, Decidable.not_not] at hc1
     refine WC.seq ?_
     refine WC.region ?_
     refine WL.val rfl rfl rfl rfl (r_assign rfl ev_c) ?_
     refine WL.nil ?_
     refine WX.keep [(2, _)] ⟨rfl, trivial⟩ ?_
     refine WX.next ?_
     refine WC.ret ?_
     refine WX.thenRet ?_
     refine WX.retE1 rfl rfl ?_
     exact ⟨rfl, hU⟩
  · try (exfalso; first | (simp at hc1; done) | (simp only [decide_eq_true_eq, decide_eq_false_iff_not, Bool.not_eq_true', Bool.not_eq_false', Bool.not_eq_true, Bool.not_eq_false] at hc1; omega) | omega)
    all_goals
     try simp only [decide_eq_true_eq, decide_eq_false_iff_not, Bool.not_eq_true', Bool.not_eq_false', Bool.not_eq_true, Bool.not_eq_false, Option.isNone_none, Option.isNone_some, Option.isSome_none, Option.isSome_some, ne_eq, Decidable.not_not] at hc1
     refine WC.skip ?_
     refine WX.next ?_
     refine WC.seq ?_
     refine WC.region ?_
     refine WL.val rfl rfl rfl rfl (r_move rfl (ev_t rfl)) ?_
     refine WL.val rfl rfl rfl rfl (r_nilCheck rfl (ev_t rfl)) ?_
     first | refine WL.val rfl rfl rfl rfl (r_field0 rfl (ev_t rfl) fld_55_0) ?_ | refine WL.val rfl rfl rfl rfl (r_fieldAt rfl (ev_t rfl) fld_55_0) ?_
     fail -- load 3.3: no facts

set_option maxHeartbeats 1000000 in
theorem sessionNil.walk {w : World} {id num : Nat} (hid : id < 18446744073709551616) (hnum : num < 18446744073709551616) :
    Ret Try.prog 6 #[.int .u64 (id : Int), .int .u64 (num : Int)] w fun v w' => v = .bool true ∧ Upd No w w' := by
  refine enterRet (vs := [_, _]) (N := 41) Try.func6 rfl rfl rfl ?_
  have hU := Upd.refl No w
  refine WC.keep [(0, _), (1, _)] ⟨rfl, rfl, trivial⟩ ?_
  refine WC.seq ?_
  refine WC.region ?_
  refine WL.val rfl rfl rfl rfl (r_assign rfl ev_c) ?_
  refine WL.nil ?_
  refine WX.keep [(0, _), (1, _)] ⟨rfl, rfl, trivial⟩ ?_
  refine WX.next ?_
  refine WC.seq ?_
  refine WC.region ?_
  refine WL.val rfl rfl rfl rfl (r_assign rfl ev_c) ?_
  refine WL.nil ?_
  refine WX.keep [(0, _), (1, _), (5, _)] ⟨rfl, rfl, rfl, trivial⟩ ?_
  refine WX.next ?_
  refine WC.seq ?_
  refine WC.region ?_
  refine WL.val rfl rfl rfl rfl (r_move rfl (ev_t rfl)) ?_
  refine WL.val rfl rfl rfl rfl (r_move rfl (ev_t rfl)) ?_
  refine WL.val rfl rfl rfl rfl (r_move rfl (ev_t rfl)) ?_
  refine WL.cons (SO.call (Ask_nil _ id num) rfl body_12 ⟨(ev_t rfl), (ev_t rfl), (ev_t rfl), trivial⟩ rfl rfl rfl rfl ?_)
  rintro v w1 ⟨rfl, hu1⟩
  have hs1 := hu1.size
  replace hU := hU.trans hu1 (by first | exact (fun _ _ h => h) | exact (fun _ _ h => h.elim) | (intro k hl hk; (try simp only [At, New, Grow, From, No] at hk ⊢); omega) | (intro k hl hk; (try simp only [At, New, Grow, From, No] at *); omega))
  refine WL.val rfl rfl rfl rfl (r_move rfl (ev_t rfl)) ?_
  refine WL.val rfl rfl rfl rfl (r_extract rfl (ev_t rfl) rfl) ?_
  refine WL.val rfl rfl rfl rfl (r_extract rfl (ev_t rfl) rfl) ?_
  refine WL.val rfl rfl rfl rfl (r_assign rfl (ev_t rfl)) ?_
  refine WL.val rfl rfl rfl rfl (r_assign rfl (ev_t rfl)) ?_
  refine WL.nil ?_
  refine WX.keep [(0, _), (1, _), (5, _), (7, _)] ⟨rfl, rfl, rfl, rfl, trivial⟩ ?_
  refine WX.next ?_
  refine WC.seq ?_
  refine WC.draws' (fun u0_ u1_ => Upd No u0_ u1_) (fun j => [2, 0, 0, 0, 0, 0, 0, 0, 0, 2, 0, 0, 0, 0, 2, 0, 0, 0, 0, 2, 2, 2, 2, 2, 0, 0, 0].getD j 0) (.one 0 (.calm 1 (.calm 2 (.calm 3 (.calm 4 (.calm 5 (.calm 6 (.calm 7 (.calm 8 (.one 9 (.calm 10 (.calm 11 (.calm 12 (.calm 13 (.one 14 (.calm 15 (.calm 16 (.calm 17 (.calm 18 (.one 19 (.two 20 21 (.one 21 (.one 22 (.one 23 (.calm 24 (.calm 25 (.calm 26 (.done))))))) (.two 20 22 (.one 22 (.one 23 (.calm 24 (.calm 25 (.calm 26 (.done)))))) (.two 20 23 (.one 23 (.calm 24 (.calm 25 (.calm 26 (.done))))) (.one 20 (.calm 24 (.calm 25 (.calm 26 (.done)))))))))))))))))))))))))))) mixed (by kernel_rfl) (by repeat (first | with_reducible exact Deaf.body | with_reducible apply Deaf.then | with_reducible apply Deaf.block)) ?_
  intro w2 hu2
  have hz2 := congrArg Array.size hu2.2.2.2
  replace hu2 := Upd.of_draw hu2
  have hs2 := hu2.size
  replace hU := hU.trans hu2 (by first | exact (fun _ _ h => h) | exact (fun _ _ h => h.elim) | (intro k hl hk; (try simp only [At, New, Grow, From, No] at hk ⊢); omega) | (intro k hl hk; (try simp only [At, New, Grow, From, No] at *); omega))
  refine WN.step _ rfl (SO.call (awake17_ok _) rfl body_9 trivial rfl rfl rfl rfl ?_)
  rintro v w3 ⟨rfl, hu3⟩
  have hs3 := hu3.size
  replace hU := hU.trans hu3 (by first | exact (fun _ _ h => h) | exact (fun _ _ h => h.elim) | (intro k hl hk; (try simp only [At, New, Grow, From, No] at hk ⊢); omega) | (intro k hl hk; (try simp only [At, New, Grow, From, No] at *); omega))
  refine ⟨trivial, ?_⟩
  refine WN.calm _ rfl rfl rfl rfl rfl (fun _ => r_move rfl (ev_t rfl)) ?_
  refine WN.cases 16 rfl (fun hb3_1 => ?_) (fun hb3_1 => ?_)
  · try (exfalso; first | (simp at hb3_1; done) | (simp only [decide_eq_true_eq, decide_eq_false_iff_not, Bool.not_eq_true', Bool.not_eq_false', Bool.not_eq_true, Bool.not_eq_false] at hb3_1; omega) | omega)
    all_goals
     try simp only [decide_eq_true_eq, decide_eq_false_iff_not, Bool.not_eq_true', Bool.not_eq_false', Bool.not_eq_true, Bool.not_eq_false, Option.isNone_none, Option.isNone_some, Option.isSome_none, Option.isSome_some, ne_eq, Decidable.not_not] at hb3_1
     refine WN.calm _ rfl rfl rfl rfl rfl (fun _ => r_move rfl (ev_t rfl)) ?_
     refine WN.calm _ rfl rfl rfl rfl rfl (fun _ => r_eql rfl (ev_t rfl) ev_c) ?_
     refine WN.calm _ rfl rfl rfl rfl rfl (fun _ => r_pickT rfl (ev_t rfl) (ev_t rfl)) ?_
     refine WN.calm _ rfl rfl rfl rfl rfl (fun _ => r_move rfl (ev_t rfl)) ?_
     refine WN.cases 20 rfl (fun hb3_5 => ?_) (fun hb3_5 => ?_)
     · try (exfalso; first | (simp at hb3_5; done) | (simp only [decide_eq_true_eq, decide_eq_false_iff_not, Bool.not_eq_true', Bool.not_eq_false', Bool.not_eq_true, Bool.not_eq_false] at hb3_5; omega) | omega)
       all_goals
        try simp only [decide_eq_true_eq, decide_eq_false_iff_not, Bool.not_eq_true', Bool.not_eq_false', Bool.not_eq_true, Bool.not_eq_false, Option.isNone_none, Option.isNone_some, Option.isSome_none, Option.isSome_some, ne_eq, Decidable.not_not] at hb3_5
        refine WN.calm _ rfl rfl rfl rfl rfl (fun _ => r_move rfl (ev_t rfl)) ?_
        refine WN.calm _ rfl rfl rfl rfl rfl (fun _ => r_move rfl (ev_t rfl)) ?_
        refine WN.calm _ rfl rfl rfl rfl rfl (fun _ => r_move rfl (ev_t rfl)) ?_
        refine WN.step _ rfl (SO.call (Put_nil _ id num _) rfl body_11 ⟨(ev_t rfl), (ev_t rfl), (ev_t rfl), ev_c, trivial⟩ rfl rfl rfl rfl ?_)
        rintro v w4 ⟨rfl, hu4⟩
        have hs4 := hu4.size
        replace hU := hU.trans hu4 (by first | exact (fun _ _ h => h) | exact (fun _ _ h => h.elim) | (intro k hl hk; (try simp only [At, New, Grow, From, No] at hk ⊢); omega) | (intro k hl hk; (try simp only [At, New, Grow, From, No] at *); omega))
        refine ⟨trivial, ?_⟩
        refine WN.calm _ rfl rfl rfl rfl rfl (fun _ => r_eql rfl (ev_t rfl) ev_c) ?_
        refine WN.calm _ rfl rfl rfl rfl rfl (fun _ => r_pickT rfl (ev_t rfl) (ev_t rfl)) ?_
        refine WN.calm _ rfl rfl rfl rfl rfl (fun _ => r_move rfl (ev_t rfl)) ?_
        refine WN.cases 27 rfl (fun hb3_12 => ?_) (fun hb3_12 => ?_)
        · try (exfalso; first | (simp at hb3_12; done) | (simp only [decide_eq_true_eq, decide_eq_false_iff_not, Bool.not_eq_true', Bool.not_eq_false', Bool.not_eq_true, Bool.not_eq_false] at hb3_12; omega) | omega)
          all_goals
           try simp only [decide_eq_true_eq, decide_eq_false_iff_not, Bool.not_eq_true', Bool.not_eq_false', Bool.not_eq_true, Bool.not_eq_false, Option.isNone_none, Option.isNone_some, Option.isSome_none, Option.isSome_some, ne_eq, Decidable.not_not] at hb3_12
           refine WN.calm _ rfl rfl rfl rfl rfl (fun _ => r_move rfl (ev_t rfl)) ?_
           refine WN.step _ rfl (SO.call (Len_nil _) rfl body_13 ⟨(ev_t rfl), trivial⟩ rfl rfl rfl rfl ?_)
           rintro v w5 ⟨rfl, hu5⟩
           have hs5 := hu5.size
           replace hU := hU.trans hu5 (by first | exact (fun _ _ h => h) | exact (fun _ _ h => h.elim) | (intro k hl hk; (try simp only [At, New, Grow, From, No] at hk ⊢); omega) | (intro k hl hk; (try simp only [At, New, Grow, From, No] at *); omega))
           refine ⟨trivial, ?_⟩
           refine WN.calm _ rfl rfl rfl rfl rfl (fun _ => r_eql rfl (ev_t rfl) ev_c) ?_
           refine WN.calm _ rfl rfl rfl rfl rfl (fun _ => r_pickT rfl (ev_t rfl) (ev_t rfl)) ?_
           refine WN.calm _ rfl rfl rfl rfl rfl (fun _ => r_move rfl (ev_t rfl)) ?_
           refine WN.cases 32 rfl (fun hb3_17 => ?_) (fun hb3_17 => ?_)
           · try (exfalso; first | (simp at hb3_17; done) | (simp only [decide_eq_true_eq, decide_eq_false_iff_not, Bool.not_eq_true', Bool.not_eq_false', Bool.not_eq_true, Bool.not_eq_false] at hb3_17; omega) | omega)
             all_goals
              try simp only [decide_eq_true_eq, decide_eq_false_iff_not, Bool.not_eq_true', Bool.not_eq_false', Bool.not_eq_true, Bool.not_eq_false, Option.isNone_none, Option.isNone_some, Option.isSome_none, Option.isSome_some, ne_eq, Decidable.not_not] at hb3_17
              refine WN.calm _ rfl rfl rfl rfl rfl (fun _ => r_move rfl (ev_t rfl)) ?_
              refine WN.step _ rfl (SO.call (Save_nil) rfl body_14 ⟨(ev_t rfl), trivial⟩ rfl rfl rfl rfl ?_)
              rintro v w6 ⟨ho, hu6⟩
              obtain ⟨A1, c1, rfl, hc1⟩ := Own.form ho
              have hs6 := hu6.size
              replace hU := hU.trans hu6 (by first | exact (fun _ _ h => h) | exact (fun _ _ h => h.elim) | (intro k hl hk; (try simp only [At, New, Grow, From, No] at hk ⊢); omega) | (intro k hl hk; (try simp only [At, New, Grow, From, No] at *); omega))
              refine ⟨trivial, ?_⟩
              refine WN.fork _ _ rfl rfl ?_ ?_
              · refine SO.val rfl rfl rfl rfl (r_toStr rfl (ev_t rfl) (ho.rd (by have := saveS_len TOK.nil; omega)) elem_23 int_5 str_9) ?_
                refine ⟨trivial, ?_⟩
                refine WN.step _ rfl (SO.call (SNew_ok) rfl body_10 trivial rfl rfl rfl rfl ?_)
                rintro v w7 ⟨t, rfl, hT, hu7⟩
                have hs7 := hu7.size
                replace hU := hU.trans hu7 (by first | exact (fun _ _ h => h) | exact (fun _ _ h => h.elim) | (intro k hl hk; (try simp only [At, New, Grow, From, No] at hk ⊢); omega) | (intro k hl hk; (try simp only [At, New, Grow, From, No] at *); omega))
                replace ho := ho.updA hu7
                refine ⟨trivial, ?_⟩
                refine WN.step _ rfl (SO.call (Save_ok hT TOK.nil) rfl body_14 ⟨(ev_t rfl), trivial⟩ rfl rfl rfl rfl ?_)
                rintro v w8 ⟨hp, hu8⟩
                obtain ⟨A2, c2, rfl, hc2⟩ := Own.form hp
                have hs8 := hu8.size
                replace hU := hU.trans hu8 (by first | exact (fun _ _ h => h) | exact (fun _ _ h => h.elim) | (intro k hl hk; (try simp only [At, New, Grow, From, No] at hk ⊢); omega) | (intro k hl hk; (try simp only [At, New, Grow, From, No] at *); omega))
                replace ho := ho.updA hu8
                refine ⟨trivial, ?_⟩
                refine WN.step _ rfl (SO.val rfl rfl rfl rfl (r_toStr rfl (ev_t rfl) (hp.rd (by have := saveS_len TOK.nil; omega)) elem_23 int_5 str_9) ?_)
                refine ⟨trivial, ?_⟩
                refine WN.calm _ rfl rfl rfl rfl rfl (fun _ => r_eqlStrL rfl (ev_t rfl) (ev_t rfl)) ?_
                refine WN.calm _ rfl rfl rfl rfl rfl (fun _ => r_pickT rfl (ev_t rfl) (ev_t rfl)) ?_
                refine WN.calm _ rfl rfl rfl rfl rfl (fun _ => r_assign rfl (ev_t rfl)) ?_
                refine WN.done ?_
                refine WX.keep [(4, _)] ⟨rfl, trivial⟩ ?_
                refine WX.next ?_
                refine WC.ret ?_
                refine WX.retE1 rfl rfl ?_
                first
                  | exact ⟨rfl, hU⟩
                  | exact ⟨by simp, hU⟩
              · refine SO.call (SNew_ok) rfl body_10 trivial rfl rfl rfl rfl ?_
                rintro v w9 ⟨t, rfl, hT, hu9⟩
                have hs9 := hu9.size
                replace hU := hU.trans hu9 (by first | exact (fun _ _ h => h) | exact (fun _ _ h => h.elim) | (intro k hl hk; (try simp only [At, New, Grow, From, No] at hk ⊢); omega) | (intro k hl hk; (try simp only [At, New, Grow, From, No] at *); omega))
                replace ho := ho.updA hu9
                refine ⟨trivial, ?_⟩
                refine WN.fork _ _ rfl rfl ?_ ?_
                · refine SO.val rfl rfl rfl rfl (r_toStr rfl (ev_t rfl) (ho.rd (by have := saveS_len TOK.nil; omega)) elem_23 int_5 str_9) ?_
                  refine ⟨trivial, ?_⟩
                  refine WN.step _ rfl (SO.call (Save_ok hT TOK.nil) rfl body_14 ⟨(ev_t rfl), trivial⟩ rfl rfl rfl rfl ?_)
                  rintro v w10 ⟨hp, hu10⟩
                  obtain ⟨A2, c2, rfl, hc2⟩ := Own.form hp
                  have hs10 := hu10.size
                  replace hU := hU.trans hu10 (by first | exact (fun _ _ h => h) | exact (fun _ _ h => h.elim) | (intro k hl hk; (try simp only [At, New, Grow, From, No] at hk ⊢); omega) | (intro k hl hk; (try simp only [At, New, Grow, From, No] at *); omega))
                  replace ho := ho.updA hu10
                  refine ⟨trivial, ?_⟩
                  refine WN.step _ rfl (SO.val rfl rfl rfl rfl (r_toStr rfl (ev_t rfl) (hp.rd (by have := saveS_len TOK.nil; omega)) elem_23 int_5 str_9) ?_)
                  refine ⟨trivial, ?_⟩
                  refine WN.calm _ rfl rfl rfl rfl rfl (fun _ => r_eqlStrL rfl (ev_t rfl) (ev_t rfl)) ?_
                  refine WN.calm _ rfl rfl rfl rfl rfl (fun _ => r_pickT rfl (ev_t rfl) (ev_t rfl)) ?_
                  refine WN.calm _ rfl rfl rfl rfl rfl (fun _ => r_assign rfl (ev_t rfl)) ?_
                  refine WN.done ?_
                  refine WX.keep [(4, _)] ⟨rfl, trivial⟩ ?_
                  refine WX.next ?_
                  refine WC.ret ?_
                  refine WX.retE1 rfl rfl ?_
                  first
                    | exact ⟨rfl, hU⟩
                    | exact ⟨by simp, hU⟩
                · refine SO.call (Save_ok hT TOK.nil) rfl body_14 ⟨(ev_t rfl), trivial⟩ rfl rfl rfl rfl ?_
                  rintro v w11 ⟨hp, hu11⟩
                  obtain ⟨A2, c2, rfl, hc2⟩ := Own.form hp
                  have hs11 := hu11.size
                  replace hU := hU.trans hu11 (by first | exact (fun _ _ h => h) | exact (fun _ _ h => h.elim) | (intro k hl hk; (try simp only [At, New, Grow, From, No] at hk ⊢); omega) | (intro k hl hk; (try simp only [At, New, Grow, From, No] at *); omega))
                  replace ho := ho.updA hu11
                  refine ⟨trivial, ?_⟩
                  refine WN.fork _ _ rfl rfl ?_ ?_
                  · refine SO.val rfl rfl rfl rfl (r_toStr rfl (ev_t rfl) (ho.rd (by have := saveS_len TOK.nil; omega)) elem_23 int_5 str_9) ?_
                    refine ⟨trivial, ?_⟩
                    refine WN.step _ rfl (SO.val rfl rfl rfl rfl (r_toStr rfl (ev_t rfl) (hp.rd (by have := saveS_len TOK.nil; omega)) elem_23 int_5 str_9) ?_)
                    refine ⟨trivial, ?_⟩
                    refine WN.calm _ rfl rfl rfl rfl rfl (fun _ => r_eqlStrL rfl (ev_t rfl) (ev_t rfl)) ?_
                    refine WN.calm _ rfl rfl rfl rfl rfl (fun _ => r_pickT rfl (ev_t rfl) (ev_t rfl)) ?_
                    refine WN.calm _ rfl rfl rfl rfl rfl (fun _ => r_assign rfl (ev_t rfl)) ?_
                    refine WN.done ?_
                    refine WX.keep [(4, _)] ⟨rfl, trivial⟩ ?_
                    refine WX.next ?_
                    refine WC.ret ?_
                    refine WX.retE1 rfl rfl ?_
                    first
                      | exact ⟨rfl, hU⟩
                      | exact ⟨by simp, hU⟩
                  · refine SO.val rfl rfl rfl rfl (r_toStr rfl (ev_t rfl) (hp.rd (by have := saveS_len TOK.nil; omega)) elem_23 int_5 str_9) ?_
                    refine ⟨trivial, ?_⟩
                    refine WN.step _ rfl (SO.val rfl rfl rfl rfl (r_toStr rfl (ev_t rfl) (ho.rd (by have := saveS_len TOK.nil; omega)) elem_23 int_5 str_9) ?_)
                    refine ⟨trivial, ?_⟩
                    refine WN.calm _ rfl rfl rfl rfl rfl (fun _ => r_eqlStrL rfl (ev_t rfl) (ev_t rfl)) ?_
                    refine WN.calm _ rfl rfl rfl rfl rfl (fun _ => r_pickT rfl (ev_t rfl) (ev_t rfl)) ?_
                    refine WN.calm _ rfl rfl rfl rfl rfl (fun _ => r_assign rfl (ev_t rfl)) ?_
                    refine WN.done ?_
                    refine WX.keep [(4, _)] ⟨rfl, trivial⟩ ?_
                    refine WX.next ?_
                    refine WC.ret ?_
                    refine WX.retE1 rfl rfl ?_
                    first
                      | exact ⟨rfl, hU⟩
                      | exact ⟨by simp, hU⟩
           · try (exfalso; first | (simp at hb3_17; done) | (simp only [decide_eq_true_eq, decide_eq_false_iff_not, Bool.not_eq_true', Bool.not_eq_false', Bool.not_eq_true, Bool.not_eq_false] at hb3_17; omega) | omega)
             all_goals
              try simp only [decide_eq_true_eq, decide_eq_false_iff_not, Bool.not_eq_true', Bool.not_eq_false', Bool.not_eq_true, Bool.not_eq_false, Option.isNone_none, Option.isNone_some, Option.isSome_none, Option.isSome_some, ne_eq, Decidable.not_not] at hb3_17
              refine WN.skip _ rfl rfl rfl rfl ?_
              refine WN.step _ rfl (SO.skip rfl rfl rfl ?_)
              refine ⟨trivial, ?_⟩
              refine WN.fork _ _ rfl rfl ?_ ?_
              · refine SO.skip rfl rfl rfl ?_
                refine ⟨trivial, ?_⟩
                refine WN.step _ rfl (SO.skip rfl rfl rfl ?_)
                refine ⟨trivial, ?_⟩
                refine WN.step _ rfl (SO.skip rfl rfl rfl ?_)
                refine ⟨trivial, ?_⟩
                refine WN.step _ rfl (SO.skip rfl rfl rfl ?_)
                refine ⟨trivial, ?_⟩
                refine WN.skip _ rfl rfl rfl rfl ?_
                refine WN.calm _ rfl rfl rfl rfl rfl (fun _ => r_pickF rfl (ev_t rfl) ev_c) ?_
                refine WN.calm _ rfl rfl rfl rfl rfl (fun _ => r_assign rfl (ev_t rfl)) ?_
                refine WN.done ?_
                refine WX.keep [(4, _)] ⟨rfl, trivial⟩ ?_
                refine WX.next ?_
                refine WC.ret ?_
                refine WX.retE1 rfl rfl ?_
                first
                  | exact ⟨rfl, hU⟩
                  | exact ⟨by simp, hU⟩
              · refine SO.skip rfl rfl rfl ?_
                refine ⟨trivial, ?_⟩
                refine WN.fork _ _ rfl rfl ?_ ?_
                · refine SO.skip rfl rfl rfl ?_
                  refine ⟨trivial, ?_⟩
                  refine WN.step _ rfl (SO.skip rfl rfl rfl ?_)
                  refine ⟨trivial, ?_⟩
                  refine WN.step _ rfl (SO.skip rfl rfl rfl ?_)
                  refine ⟨trivial, ?_⟩
                  refine WN.skip _ rfl rfl rfl rfl ?_
                  refine WN.calm _ rfl rfl rfl rfl rfl (fun _ => r_pickF rfl (ev_t rfl) ev_c) ?_
                  refine WN.calm _ rfl rfl rfl rfl rfl (fun _ => r_assign rfl (ev_t rfl)) ?_
                  refine WN.done ?_
                  refine WX.keep [(4, _)] ⟨rfl, trivial⟩ ?_
                  refine WX.next ?_
                  refine WC.ret ?_
                  refine WX.retE1 rfl rfl ?_
                  first
                    | exact ⟨rfl, hU⟩
                    | exact ⟨by simp, hU⟩
                · refine SO.skip rfl rfl rfl ?_
                  refine ⟨trivial, ?_⟩
                  refine WN.fork _ _ rfl rfl ?_ ?_
                  · refine SO.skip rfl rfl rfl ?_
                    refine ⟨trivial, ?_⟩
                    refine WN.step _ rfl (SO.skip rfl rfl rfl ?_)
                    refine ⟨trivial, ?_⟩
                    refine WN.skip _ rfl rfl rfl rfl ?_
                    refine WN.calm _ rfl rfl rfl rfl rfl (fun _ => r_pickF rfl (ev_t rfl) ev_c) ?_
                    refine WN.calm _ rfl rfl rfl rfl rfl (fun _ => r_assign rfl (ev_t rfl)) ?_
                    refine WN.done ?_
                    refine WX.keep [(4, _)] ⟨rfl, trivial⟩ ?_
                    refine WX.next ?_
                    refine WC.ret ?_
                    refine WX.retE1 rfl rfl ?_
                    first
                      | exact ⟨rfl, hU⟩
                      | exact ⟨by simp, hU⟩
                  · refine SO.skip rfl rfl rfl ?_
                    refine ⟨trivial, ?_⟩
                    refine WN.step _ rfl (SO.skip rfl rfl rfl ?_)
                    refine ⟨trivial, ?_⟩
                    refine WN.skip _ rfl rfl rfl rfl ?_
                    refine WN.calm _ rfl rfl rfl rfl rfl (fun _ => r_pickF rfl (ev_t rfl) ev_c) ?_
                    refine WN.calm _ rfl rfl rfl rfl rfl (fun _ => r_assign rfl (ev_t rfl)) ?_
                    refine WN.done ?_
                    refine WX.keep [(4, _)] ⟨rfl, trivial⟩ ?_
                    refine WX.next ?_
                    refine WC.ret ?_
                    refine WX.retE1 rfl rfl ?_
                    first
                      | exact ⟨rfl, hU⟩
                      | exact ⟨by simp, hU⟩
        · try (exfalso; first | (simp at hb3_12; done) | (simp only [decide_eq_true_eq, decide_eq_false_iff_not, Bool.not_eq_true', Bool.not_eq_false', Bool.not_eq_true, Bool.not_eq_false] at hb3_12; omega) | omega)
          all_goals
           try simp only [decide_eq_true_eq, decide_eq_false_iff_not, Bool.not_eq_true', Bool.not_eq_false', Bool.not_eq_true, Bool.not_eq_false, Option.isNone_none, Option.isNone_some, Option.isSome_none, Option.isSome_some, ne_eq, Decidable.not_not] at hb3_12
           refine WN.skip _ rfl rfl rfl rfl ?_
           refine WN.step _ rfl (SO.skip rfl rfl rfl ?_)
           refine ⟨trivial, ?_⟩
           refine WN.skip _ rfl rfl rfl rfl ?_
           refine WN.calm _ rfl rfl rfl rfl rfl (fun _ => r_pickF rfl (ev_t rfl) ev_c) ?_
           refine WN.calm _ rfl rfl rfl rfl rfl (fun _ => r_move rfl (ev_t rfl)) ?_
           refine WN.skip _ rfl rfl rfl rfl ?_
           refine WN.step _ rfl (SO.skip rfl rfl rfl ?_)
           refine ⟨trivial, ?_⟩
           refine WN.fork _ _ rfl rfl ?_ ?_
           · refine SO.skip rfl rfl rfl ?_
             refine ⟨trivial, ?_⟩
             refine WN.step _ rfl (SO.skip rfl rfl rfl ?_)
             refine ⟨trivial, ?_⟩
             refine WN.step _ rfl (SO.skip rfl rfl rfl ?_)
             refine ⟨trivial, ?_⟩
             refine WN.step _ rfl (SO.skip rfl rfl rfl ?_)
             refine ⟨trivial, ?_⟩
             refine WN.skip _ rfl rfl rfl rfl ?_
             refine WN.calm _ rfl rfl rfl rfl rfl (fun _ => r_pickF rfl (ev_t rfl) ev_c) ?_
             refine WN.calm _ rfl rfl rfl rfl rfl (fun _ => r_assign rfl (ev_t rfl)) ?_
             refine WN.done ?_
             refine WX.keep [(4, _)] ⟨rfl, trivial⟩ ?_
             refine WX.next ?_
             refine WC.ret ?_
             refine WX.retE1 rfl rfl ?_
             first
               | exact ⟨rfl, hU⟩
               | exact ⟨by simp, hU⟩
           · refine SO.skip rfl rfl rfl ?_
             refine ⟨trivial, ?_⟩
             refine WN.fork _ _ rfl rfl ?_ ?_
             · refine SO.skip rfl rfl rfl ?_
               refine ⟨trivial, ?_⟩
               refine WN.step _ rfl (SO.skip rfl rfl rfl ?_)
               refine ⟨trivial, ?_⟩
               refine WN.step _ rfl (SO.skip rfl rfl rfl ?_)
               refine ⟨trivial, ?_⟩
               refine WN.skip _ rfl rfl rfl rfl ?_
               refine WN.calm _ rfl rfl rfl rfl rfl (fun _ => r_pickF rfl (ev_t rfl) ev_c) ?_
               refine WN.calm _ rfl rfl rfl rfl rfl (fun _ => r_assign rfl (ev_t rfl)) ?_
               refine WN.done ?_
               refine WX.keep [(4, _)] ⟨rfl, trivial⟩ ?_
               refine WX.next ?_
               refine WC.ret ?_
               refine WX.retE1 rfl rfl ?_
               first
                 | exact ⟨rfl, hU⟩
                 | exact ⟨by simp, hU⟩
             · refine SO.skip rfl rfl rfl ?_
               refine ⟨trivial, ?_⟩
               refine WN.fork _ _ rfl rfl ?_ ?_
               · refine SO.skip rfl rfl rfl ?_
                 refine ⟨trivial, ?_⟩
                 refine WN.step _ rfl (SO.skip rfl rfl rfl ?_)
                 refine ⟨trivial, ?_⟩
                 refine WN.skip _ rfl rfl rfl rfl ?_
                 refine WN.calm _ rfl rfl rfl rfl rfl (fun _ => r_pickF rfl (ev_t rfl) ev_c) ?_
                 refine WN.calm _ rfl rfl rfl rfl rfl (fun _ => r_assign rfl (ev_t rfl)) ?_
                 refine WN.done ?_
                 refine WX.keep [(4, _)] ⟨rfl, trivial⟩ ?_
                 refine WX.next ?_
                 refine WC.ret ?_
                 refine WX.retE1 rfl rfl ?_
                 first
                   | exact ⟨rfl, hU⟩
                   | exact ⟨by simp, hU⟩
               · refine SO.skip rfl rfl rfl ?_
                 refine ⟨trivial, ?_⟩
                 refine WN.step _ rfl (SO.skip rfl rfl rfl ?_)
                 refine ⟨trivial, ?_⟩
                 refine WN.skip _ rfl rfl rfl rfl ?_
                 refine WN.calm _ rfl rfl rfl rfl rfl (fun _ => r_pickF rfl (ev_t rfl) ev_c) ?_
                 refine WN.calm _ rfl rfl rfl rfl rfl (fun _ => r_assign rfl (ev_t rfl)) ?_
                 refine WN.done ?_
                 refine WX.keep [(4, _)] ⟨rfl, trivial⟩ ?_
                 refine WX.next ?_
                 refine WC.ret ?_
                 refine WX.retE1 rfl rfl ?_
                 first
                   | exact ⟨rfl, hU⟩
                   | exact ⟨by simp, hU⟩
     · try (exfalso; first | (simp at hb3_5; done) | (simp only [decide_eq_true_eq, decide_eq_false_iff_not, Bool.not_eq_true', Bool.not_eq_false', Bool.not_eq_true, Bool.not_eq_false] at hb3_5; omega) | omega)
       all_goals
        try simp only [decide_eq_true_eq, decide_eq_false_iff_not, Bool.not_eq_true', Bool.not_eq_false', Bool.not_eq_true, Bool.not_eq_false, Option.isNone_none, Option.isNone_some, Option.isSome_none, Option.isSome_some, ne_eq, Decidable.not_not] at hb3_5
        refine WN.skip _ rfl rfl rfl rfl ?_
        refine WN.skip _ rfl rfl rfl rfl ?_
        refine WN.skip _ rfl rfl rfl rfl ?_
        refine WN.step _ rfl (SO.skip rfl rfl rfl ?_)
        refine ⟨trivial, ?_⟩
        refine WN.skip _ rfl rfl rfl rfl ?_
        refine WN.calm _ rfl rfl rfl rfl rfl (fun _ => r_pickF rfl (ev_t rfl) ev_c) ?_
        refine WN.calm _ rfl rfl rfl rfl rfl (fun _ => r_move rfl (ev_t rfl)) ?_
        refine WN.skip _ rfl rfl rfl rfl ?_
        refine WN.step _ rfl (SO.skip rfl rfl rfl ?_)
        refine ⟨trivial, ?_⟩
        refine WN.skip _ rfl rfl rfl rfl ?_
        refine WN.calm _ rfl rfl rfl rfl rfl (fun _ => r_pickF rfl (ev_t rfl) ev_c) ?_
        refine WN.calm _ rfl rfl rfl rfl rfl (fun _ => r_move rfl (ev_t rfl)) ?_
        refine WN.skip _ rfl rfl rfl rfl ?_
        refine WN.step _ rfl (SO.skip rfl rfl rfl ?_)
        refine ⟨trivial, ?_⟩
        refine WN.fork _ _ rfl rfl ?_ ?_
        · refine SO.skip rfl rfl rfl ?_
          refine ⟨trivial, ?_⟩
          refine WN.step _ rfl (SO.skip rfl rfl rfl ?_)
          refine ⟨trivial, ?_⟩
          refine WN.step _ rfl (SO.skip rfl rfl rfl ?_)
          refine ⟨trivial, ?_⟩
          refine WN.step _ rfl (SO.skip rfl rfl rfl ?_)
          refine ⟨trivial, ?_⟩
          refine WN.skip _ rfl rfl rfl rfl ?_
          refine WN.calm _ rfl rfl rfl rfl rfl (fun _ => r_pickF rfl (ev_t rfl) ev_c) ?_
          refine WN.calm _ rfl rfl rfl rfl rfl (fun _ => r_assign rfl (ev_t rfl)) ?_
          refine WN.done ?_
          refine WX.keep [(4, _)] ⟨rfl, trivial⟩ ?_
          refine WX.next ?_
          refine WC.ret ?_
          refine WX.retE1 rfl rfl ?_
          first
            | exact ⟨rfl, hU⟩
            | exact ⟨by simp, hU⟩
        · refine SO.skip rfl rfl rfl ?_
          refine ⟨trivial, ?_⟩
          refine WN.fork _ _ rfl rfl ?_ ?_
          · refine SO.skip rfl rfl rfl ?_
            refine ⟨trivial, ?_⟩
            refine WN.step _ rfl (SO.skip rfl rfl rfl ?_)
            refine ⟨trivial, ?_⟩
            refine WN.step _ rfl (SO.skip rfl rfl rfl ?_)
            refine ⟨trivial, ?_⟩
            refine WN.skip _ rfl rfl rfl rfl ?_
            refine WN.calm _ rfl rfl rfl rfl rfl (fun _ => r_pickF rfl (ev_t rfl) ev_c) ?_
            refine WN.calm _ rfl rfl rfl rfl rfl (fun _ => r_assign rfl (ev_t rfl)) ?_
            refine WN.done ?_
            refine WX.keep [(4, _)] ⟨rfl, trivial⟩ ?_
            refine WX.next ?_
            refine WC.ret ?_
            refine WX.retE1 rfl rfl ?_
            first
              | exact ⟨rfl, hU⟩
              | exact ⟨by simp, hU⟩
          · refine SO.skip rfl rfl rfl ?_
            refine ⟨trivial, ?_⟩
            refine WN.fork _ _ rfl rfl ?_ ?_
            · refine SO.skip rfl rfl rfl ?_
              refine ⟨trivial, ?_⟩
              refine WN.step _ rfl (SO.skip rfl rfl rfl ?_)
              refine ⟨trivial, ?_⟩
              refine WN.skip _ rfl rfl rfl rfl ?_
              refine WN.calm _ rfl rfl rfl rfl rfl (fun _ => r_pickF rfl (ev_t rfl) ev_c) ?_
              refine WN.calm _ rfl rfl rfl rfl rfl (fun _ => r_assign rfl (ev_t rfl)) ?_
              refine WN.done ?_
              refine WX.keep [(4, _)] ⟨rfl, trivial⟩ ?_
              refine WX.next ?_
              refine WC.ret ?_
              refine WX.retE1 rfl rfl ?_
              first
                | exact ⟨rfl, hU⟩
                | exact ⟨by simp, hU⟩
            · refine SO.skip rfl rfl rfl ?_
              refine ⟨trivial, ?_⟩
              refine WN.step _ rfl (SO.skip rfl rfl rfl ?_)
              refine ⟨trivial, ?_⟩
              refine WN.skip _ rfl rfl rfl rfl ?_
              refine WN.calm _ rfl rfl rfl rfl rfl (fun _ => r_pickF rfl (ev_t rfl) ev_c) ?_
              refine WN.calm _ rfl rfl rfl rfl rfl (fun _ => r_assign rfl (ev_t rfl)) ?_
              refine WN.done ?_
              refine WX.keep [(4, _)] ⟨rfl, trivial⟩ ?_
              refine WX.next ?_
              refine WC.ret ?_
              refine WX.retE1 rfl rfl ?_
              first
                | exact ⟨rfl, hU⟩
                | exact ⟨by simp, hU⟩
  · try (exfalso; first | (simp at hb3_1; done) | (simp only [decide_eq_true_eq, decide_eq_false_iff_not, Bool.not_eq_true', Bool.not_eq_false', Bool.not_eq_true, Bool.not_eq_false] at hb3_1; omega) | omega)
    all_goals
     try simp only [decide_eq_true_eq, decide_eq_false_iff_not, Bool.not_eq_true', Bool.not_eq_false', Bool.not_eq_true, Bool.not_eq_false, Option.isNone_none, Option.isNone_some, Option.isSome_none, Option.isSome_some, ne_eq, Decidable.not_not] at hb3_1
     refine WN.skip _ rfl rfl rfl rfl ?_
     refine WN.skip _ rfl rfl rfl rfl ?_
     refine WN.calm _ rfl rfl rfl rfl rfl (fun _ => r_pickF rfl (ev_t rfl) ev_c) ?_
     refine WN.calm _ rfl rfl rfl rfl rfl (fun _ => r_move rfl (ev_t rfl)) ?_
     refine WN.skip _ rfl rfl rfl rfl ?_
     refine WN.skip _ rfl rfl rfl rfl ?_
     refine WN.skip _ rfl rfl rfl rfl ?_
     refine WN.step _ rfl (SO.skip rfl rfl rfl ?_)
     refine ⟨trivial, ?_⟩
     refine WN.skip _ rfl rfl rfl rfl ?_
     refine WN.calm _ rfl rfl rfl rfl rfl (fun _ => r_pickF rfl (ev_t rfl) ev_c) ?_
     refine WN.calm _ rfl rfl rfl rfl rfl (fun _ => r_move rfl (ev_t rfl)) ?_
     refine WN.skip _ rfl rfl rfl rfl ?_
     refine WN.step _ rfl (SO.skip rfl rfl rfl ?_)
     refine ⟨trivial, ?_⟩
     refine WN.skip _ rfl rfl rfl rfl ?_
     refine WN.calm _ rfl rfl rfl rfl rfl (fun _ => r_pickF rfl (ev_t rfl) ev_c) ?_
     refine WN.calm _ rfl rfl rfl rfl rfl (fun _ => r_move rfl (ev_t rfl)) ?_
     refine WN.skip _ rfl rfl rfl rfl ?_
     refine WN.step _ rfl (SO.skip rfl rfl rfl ?_)
     refine ⟨trivial, ?_⟩
     refine WN.fork _ _ rfl rfl ?_ ?_
     · refine SO.skip rfl rfl rfl ?_
       refine ⟨trivial, ?_⟩
       refine WN.step _ rfl (SO.skip rfl rfl rfl ?_)
       refine ⟨trivial, ?_⟩
       refine WN.step _ rfl (SO.skip rfl rfl rfl ?_)
       refine ⟨trivial, ?_⟩
       refine WN.step _ rfl (SO.skip rfl rfl rfl ?_)
       refine ⟨trivial, ?_⟩
       refine WN.skip _ rfl rfl rfl rfl ?_
       refine WN.calm _ rfl rfl rfl rfl rfl (fun _ => r_pickF rfl (ev_t rfl) ev_c) ?_
       refine WN.calm _ rfl rfl rfl rfl rfl (fun _ => r_assign rfl (ev_t rfl)) ?_
       refine WN.done ?_
       refine WX.keep [(4, _)] ⟨rfl, trivial⟩ ?_
       refine WX.next ?_
       refine WC.ret ?_
       refine WX.retE1 rfl rfl ?_
       first
         | exact ⟨rfl, hU⟩
         | exact ⟨by simp, hU⟩
     · refine SO.skip rfl rfl rfl ?_
       refine ⟨trivial, ?_⟩
       refine WN.fork _ _ rfl rfl ?_ ?_
       · refine SO.skip rfl rfl rfl ?_
         refine ⟨trivial, ?_⟩
         refine WN.step _ rfl (SO.skip rfl rfl rfl ?_)
         refine ⟨trivial, ?_⟩
         refine WN.step _ rfl (SO.skip rfl rfl rfl ?_)
         refine ⟨trivial, ?_⟩
         refine WN.skip _ rfl rfl rfl rfl ?_
         refine WN.calm _ rfl rfl rfl rfl rfl (fun _ => r_pickF rfl (ev_t rfl) ev_c) ?_
         refine WN.calm _ rfl rfl rfl rfl rfl (fun _ => r_assign rfl (ev_t rfl)) ?_
         refine WN.done ?_
         refine WX.keep [(4, _)] ⟨rfl, trivial⟩ ?_
         refine WX.next ?_
         refine WC.ret ?_
         refine WX.retE1 rfl rfl ?_
         first
           | exact ⟨rfl, hU⟩
           | exact ⟨by simp, hU⟩
       · refine SO.skip rfl rfl rfl ?_
         refine ⟨trivial, ?_⟩
         refine WN.fork _ _ rfl rfl ?_ ?_
         · refine SO.skip rfl rfl rfl ?_
           refine ⟨trivial, ?_⟩
           refine WN.step _ rfl (SO.skip rfl rfl rfl ?_)
           refine ⟨trivial, ?_⟩
           refine WN.skip _ rfl rfl rfl rfl ?_
           refine WN.calm _ rfl rfl rfl rfl rfl (fun _ => r_pickF rfl (ev_t rfl) ev_c) ?_
           refine WN.calm _ rfl rfl rfl rfl rfl (fun _ => r_assign rfl (ev_t rfl)) ?_
           refine WN.done ?_
           refine WX.keep [(4, _)] ⟨rfl, trivial⟩ ?_
           refine WX.next ?_
           refine WC.ret ?_
           refine WX.retE1 rfl rfl ?_
           first
             | exact ⟨rfl, hU⟩
             | exact ⟨by simp, hU⟩
         · refine SO.skip rfl rfl rfl ?_
           refine ⟨trivial, ?_⟩
           refine WN.step _ rfl (SO.skip rfl rfl rfl ?_)
           refine ⟨trivial, ?_⟩
           refine WN.skip _ rfl rfl rfl rfl ?_
           refine WN.calm _ rfl rfl rfl rfl rfl (fun _ => r_pickF rfl (ev_t rfl) ev_c) ?_
           refine WN.calm _ rfl rfl rfl rfl rfl (fun _ => r_assign rfl (ev_t rfl)) ?_
           refine WN.done ?_
           refine WX.keep [(4, _)] ⟨rfl, trivial⟩ ?_
           refine WX.next ?_
           refine WC.ret ?_
           refine WX.retE1 rfl rfl ?_
           first
             | exact ⟨rfl, hU⟩
             | exact ⟨by simp, hU⟩
end Go.Proofs.Ytipabhbnljadfaa
