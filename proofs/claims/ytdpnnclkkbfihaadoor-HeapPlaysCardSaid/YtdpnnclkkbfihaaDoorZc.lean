/-
  Several texts put together: Hem, HeU, HeV, Heo, Hep, HeW, Heq, HeX, Her, HeZ.
-/
import Derived.Laws.BitsAllLaws
import Derived.Test.YtdpnnclkkbfihaaDoorZb
/-
  heap: Copy, Words; the law's words, same.
-/
namespace Go.Proofs.YtdpnnclkkbfihaaDoor
open Go
set_option linter.unusedSimpArgs false
set_option linter.unusedVariables false

theorem hwords_ok {w : World} {G : Nat → Prop} {p : Nat} {A : Option Addr} {c : Nat} {mem : List Nat} {q n : Nat} (hH : HS w G p A c mem q n) :
    Ret Tryd.prog 22 #[.pointer (some ⟨p, 0, none⟩)] w fun v w' => Own w' (New w w') tWord 1 v mem.length (mem.map Wd) ∧ Upd No w w' := by
  have hle := hH.le
  have hr := hH.ow.rd (by omega)
  refine enterRet (vs := [_]) (N := 10) Tryd.func22 rfl rfl rfl ?_
  have hU := Upd.refl No w
  refine WC.keep [(0, _)] ⟨rfl, trivial⟩ ?_
  refine WC.seq ?_
  refine WC.region ?_
  refine WL.val rfl rfl rfl rfl (r_assign rfl ev_c) ?_
  refine WL.nil ?_
  refine WX.keep [(0, _)] ⟨rfl, trivial⟩ ?_
  refine WX.next ?_
  refine WC.seq ?_
  refine WC.seq ?_
  refine WC.region ?_
  refine WL.val rfl rfl rfl rfl (r_move rfl (ev_t rfl)) ?_
  refine WL.val rfl rfl rfl rfl (r_eqlPtrNil rfl (ev_t rfl) ev_c ptr_26) ?_
  refine WL.nil ?_
  refine WX.keep [(0, _), (4, _)] ⟨rfl, rfl, trivial⟩ ?_
  refine WX.next ?_
  refine WC.cond rfl (ev_t rfl) (fun hc1 => ?_) (fun hc1 => ?_)
  · try (exfalso; first | (simp at hc1; done) | (simp only [decide_eq_true_eq, decide_eq_false_iff_not, Bool.not_eq_true', Bool.not_eq_false', Bool.not_eq_true, Bool.not_eq_false] at hc1; omega) | omega)
  · try (exfalso; first | (simp at hc1; done) | (simp only [decide_eq_true_eq, decide_eq_false_iff_not, Bool.not_eq_true', Bool.not_eq_false', Bool.not_eq_true, Bool.not_eq_false] at hc1; omega) | omega)
    all_goals
     try simp only [decide_eq_true_eq, decide_eq_false_iff_not, Bool.not_eq_true', Bool.not_eq_false', Bool.not_eq_true, Bool.not_eq_false, Option.isNone_none, Option.isNone_some, Option.isSome_none, Option.isSome_some, ne_eq, Decidable.not_not] at hc1
     refine WC.skip ?_
     refine WX.next ?_
     refine WC.seq ?_
     refine WC.region ?_
     refine WL.val rfl rfl rfl rfl (r_move rfl (ev_t rfl)) ?_
     refine WL.val rfl rfl rfl rfl (r_nilCheck rfl (ev_t rfl)) ?_
     refine WL.val rfl rfl rfl rfl (r_field0 rfl (ev_t rfl) fld_79_0) ?_
     refine WL.val rfl rfl rfl rfl (r_load rfl (ev_t rfl) flat_30 (Blk.cell hH.hd rfl)) ?_
     refine WL.cons (SO.append (Own.nil _ No _ _) hr row_30 (fun u hu => by obtain ⟨x, _, rfl⟩ := List.mem_map.1 hu; rfl) (le_maxLen (by omega)) (by omega) rfl ev_c (ev_t rfl) rfl rfl rfl rfl ?_)
     intro v1 w1 how hu1
     have hs1 := hu1.size
     replace hU := hU.transA hu1
     obtain ⟨A1, c1, rfl, hc1⟩ := Own.form how
     refine WL.val rfl rfl rfl rfl (r_assign rfl (ev_t rfl)) ?_
     refine WL.nil ?_
     refine WX.keep [(2, _)] ⟨rfl, trivial⟩ ?_
     refine WX.next ?_
     refine WC.ret ?_
     refine WX.retE1 rfl rfl ?_
     refine ⟨?_, hU⟩
     simp only [Nat.zero_add, List.nil_append] at how ⊢
     exact how.mono (fun k hk => by rcases hk with hk | hk; exact hk.elim; exact hk)
theorem copy_ok {w : World} {G : Nat → Prop} {p : Nat} {A : Option Addr} {c : Nat} {mem : List Nat} {q n : Nat} (hH : HS w G p A c mem q n) :
    Ret Tryd.prog 20 #[.pointer (some ⟨p, 0, none⟩)] w fun v w' => ∃ G' p' A' c', v = .pointer (some ⟨p', 0, none⟩) ∧ HS w' G' p' A' c' mem q n ∧ w.heap.size ≤ p' ∧ (∀ k, G' k → w.heap.size ≤ k) ∧ Upd No w w' := by
  have hle := hH.le
  have hcn := hH.cn
  have hr := hH.ow.rd (by omega)
  refine enterRet (vs := [_]) (N := 20) Tryd.func20 rfl rfl rfl ?_
  have hU := Upd.refl No w
  refine WC.keep [(0, _)] ⟨rfl, trivial⟩ ?_
  refine WC.seq ?_
  refine WC.region ?_
  refine WL.val rfl rfl rfl rfl (r_assign rfl ev_c) ?_
  refine WL.nil ?_
  refine WX.keep [(0, _)] ⟨rfl, trivial⟩ ?_
  refine WX.next ?_
  refine WC.seq ?_
  refine WC.seq ?_
  refine WC.region ?_
  refine WL.val rfl rfl rfl rfl (r_move rfl (ev_t rfl)) ?_
  refine WL.val rfl rfl rfl rfl (r_eqlPtrNil rfl (ev_t rfl) ev_c ptr_26) ?_
  refine WL.nil ?_
  refine WX.keep [(0, _), (4, _)] ⟨rfl, rfl, trivial⟩ ?_
  refine WX.next ?_
  refine WC.cond rfl (ev_t rfl) (fun hc1 => ?_) (fun hc1 => ?_)
  · try (exfalso; first | (simp at hc1; done) | (simp only [decide_eq_true_eq, decide_eq_false_iff_not, Bool.not_eq_true', Bool.not_eq_false', Bool.not_eq_true, Bool.not_eq_false] at hc1; omega) | omega)
  · try (exfalso; first | (simp at hc1; done) | (simp only [decide_eq_true_eq, decide_eq_false_iff_not, Bool.not_eq_true', Bool.not_eq_false', Bool.not_eq_true, Bool.not_eq_false] at hc1; omega) | omega)
    all_goals
     try simp only [decide_eq_true_eq, decide_eq_false_iff_not, Bool.not_eq_true', Bool.not_eq_false', Bool.not_eq_true, Bool.not_eq_false, Option.isNone_none, Option.isNone_some, Option.isSome_none, Option.isSome_some, ne_eq, Decidable.not_not] at hc1
     refine WC.skip ?_
     refine WX.next ?_
     refine WC.seq ?_
     refine WC.draws' (fun u0_ u1_ => Upd No u0_ u1_) (fun j => [0, 0, 0, 0, 1, 0, 0, 0, 0, 0, 0, 0, 0, 0, 2, 0].getD j 0) (.calm 0 (.calm 1 (.calm 2 (.calm 5 (.calm 6 (.calm 7 (.calm 9 (.calm 10 (.calm 11 (.held 3 (.held 8 (.held 12 (.one 4 (.calm 13 (.one 14 (.calm 15 (.done))))))))))))))))) mixed (by kernel_rfl) (by repeat (first | with_reducible exact Deaf.body | with_reducible apply Deaf.then)) ?_
     intro w1 hu1
     have hz1 := congrArg Array.size hu1.2.2.2
     replace hu1 := Upd.of_draw hu1
     have hs1 := hu1.size
     replace hU := hU.transA hu1
     replace hH := hH.upd hu1 (fun k hk hl hS => (show False from hS).elim)
     replace hr := hr.upd hu1 (fun k hk hl hS => (show False from hS).elim)
     have hS3 := Upd.refl No w1
     refine WN.calm _ rfl rfl rfl rfl rfl (fun _ => r_move rfl (ev_t rfl)) ?_
     refine WN.calm _ rfl rfl rfl rfl rfl (fun _ => r_nilCheck rfl (ev_t rfl)) ?_
     refine WN.calm _ rfl rfl rfl rfl rfl (fun _ => r_field0 rfl (ev_t rfl) fld_79_0) ?_
     refine WN.calm _ rfl rfl rfl rfl rfl (fun _ => r_move rfl (ev_t rfl)) ?_
     refine WN.calm _ rfl rfl rfl rfl rfl (fun _ => r_nilCheck rfl (ev_t rfl)) ?_
     refine WN.calm _ rfl rfl rfl rfl rfl (fun _ => r_field0 rfl (ev_t rfl) fld_79_1) ?_
     refine WN.calm _ rfl rfl rfl rfl rfl (fun _ => r_move rfl (ev_t rfl)) ?_
     refine WN.calm _ rfl rfl rfl rfl rfl (fun _ => r_nilCheck rfl (ev_t rfl)) ?_
     refine WN.calm _ rfl rfl rfl rfl rfl (fun _ => r_field0 rfl (ev_t rfl) fld_79_2) ?_
     refine WN.held _ rfl rfl rfl rfl rfl hS3 (fun w' hS => r_load rfl (ev_t rfl) flat_30 (Blk.cell (hH.upd hS (fun _ _ _ h => h)).hd rfl)) ?_
     refine WN.held _ rfl rfl rfl rfl rfl hS3 (fun w' hS => r_load rfl (ev_t rfl) flat_3 (Blk.cell (hH.upd hS (fun _ _ _ h => h)).hd rfl)) ?_
     refine WN.held _ rfl rfl rfl rfl rfl hS3 (fun w' hS => r_load rfl (ev_t rfl) flat_3 (Blk.cell (hH.upd hS (fun _ _ _ h => h)).hd rfl)) ?_
     refine WN.step _ rfl (SO.append (Own.nil _ No _ _) hr row_30 (fun u hu => by obtain ⟨x, _, rfl⟩ := List.mem_map.1 hu; rfl) (le_maxLen (by omega)) (by omega) rfl ev_c (ev_t rfl) rfl rfl rfl rfl ?_)
     intro v2 w2 how hu2
     have hs2 := hu2.size
     replace hS3 := Upd.transA hS3 hu2
     replace hU := hU.transA hu2
     replace hH := hH.upd hu2 (fun k hk hl hS => (show False from hS).elim)
     replace hr := hr.upd hu2 (fun k hk hl hS => (show False from hS).elim)
     refine ⟨hS3, ?_⟩
     obtain ⟨A2, c2, rfl, hc2⟩ := Own.form how
     refine WN.calm _ rfl rfl rfl rfl rfl (fun _ => r_build (cs := #[_, _, _]) (vs := [(0, _), (1, _), (2, _)]) rfl ⟨⟨rfl, (ev_t rfl)⟩, ⟨rfl, (ev_t rfl)⟩, ⟨rfl, (ev_t rfl)⟩, trivial⟩ plc_79 zero_79 rfl) ?_
     refine WN.step _ rfl (SO.alloc rfl rfl rfl rfl (r_boxAgg rfl (ev_t rfl)) ?_)
     intro w3 hu3 hB3 hz3
     have hs3 := hu3.size
     try replace hS3 := Upd.transA hS3 hu3
     replace hU := hU.transA hu3
     replace hH := hH.upd hu3 (fun k hk hl hS => (show False from hS).elim)
     replace hr := hr.upd hu3 (fun k hk hl hS => (show False from hS).elim)
     replace how := how.upd hu3 (fun k hk hl hS => (show False from hS).elim)
     refine ⟨trivial, ?_⟩
     refine WN.calm _ rfl rfl rfl rfl rfl (fun _ => r_assign rfl (ev_t rfl)) ?_
     refine WN.done ?_
     refine WX.keep [(2, _)] ⟨rfl, trivial⟩ ?_
     refine WX.next ?_
     refine WC.ret ?_
     refine WX.retE1 rfl rfl ?_
     simp only [Nat.zero_add, List.nil_append] at *
     have hs1 := hU.size
     refine ⟨_, _, _, _, rfl, ⟨hB3, how, ?_, ?_, hle, hcn⟩, ?_, ?_, hU⟩
     · rintro (h | h)
       · exact h
       · omega
     · rintro k (h | h)
       · exact h.elim
       · have := Blk.lt hB3; omega
     · omega
     · rintro k (h | h)
       · exact h.elim
       · omega
theorem lwords_ok {w : World} {F : Nat → Prop} {v : Value} {l : List Nat} (hr : Rd w F v l.length 1 (l.map Wd)) (hn : l.length ≤ 1000000000) :
    Ret Tryd.prog 21 #[v] w fun v' w' => Own w' (New w w') 31 1 v' l.length (l.map Wd) ∧ Upd No w w' := by
  replace hr := hr.bound
  obtain ⟨A, c, rfl, hc⟩ := hr.slice_form
  generalize hF : (fun k => F k ∧ k < w.heap.size) = F' at hr
  have hFl : ∀ k, F' k → k < w.heap.size := by subst hF; exact fun k h => h.2
  refine enterRet (vs := [_]) (N := 19) Tryd.func21 rfl rfl rfl ?_
  have hU := Upd.refl No w
  refine WC.keep [(0, _)] ⟨rfl, trivial⟩ ?_
  refine WC.seq ?_
  refine WC.region ?_
  refine WL.val rfl rfl rfl rfl (r_assign rfl ev_c) ?_
  refine WL.nil ?_
  refine WX.keep [(0, _)] ⟨rfl, trivial⟩ ?_
  refine WX.next ?_
  refine WC.seq ?_
  refine WC.region ?_
  refine WL.val rfl rfl rfl rfl (r_assign rfl ev_c) ?_
  refine WL.nil ?_
  refine WX.keep [(0, _), (3, _)] ⟨rfl, rfl, trivial⟩ ?_
  refine WX.next ?_
  refine WC.seq ?_
  refine WC.seq ?_
  refine WC.region ?_
  refine WL.val rfl rfl rfl rfl (r_assign rfl ev_c) ?_
  refine WL.nil ?_
  refine WX.keep [(0, _), (3, _), (4, _)] ⟨rfl, rfl, rfl, trivial⟩ ?_
  refine WX.next ?_
  refine WC.block ?_
  -- loop 1: live [0, 3, 4]
  refine WC.keep [(0, _), (3, _), (4, _)] ⟨rfl, rfl, rfl, trivial⟩ ?_
  refine WC.loop (fun qq E wC => ∃ (j : Nat) (v1 : Value), j ≤ l.length ∧ qq = l.length - j ∧ Upd No w wC ∧ Rd wC F' (.slice A l.length c) l.length 1 (l.map Wd) ∧ Own wC (New w wC) 31 1 v1 j ((l.take j).map Wd) ∧ E = [(0, .slice A l.length c), (3, v1), (4, .int .i64 (j : Int))]) (l.length) ?_ ?_
  · exact ⟨0, _, by omega, by omega, hU, hr, by simpa using Own.nil _ _ _ _, rfl⟩
  · clear hU hr
    rintro qq E wC ⟨j, v1, hj, rfl, hU, hr, how, rfl⟩
    have hUs := hU.size
    refine WC.seq ?_
    refine WC.seq ?_
    refine WC.region ?_
    refine WL.val rfl rfl rfl rfl (r_move rfl (ev_t rfl)) ?_
    refine WL.val rfl rfl rfl rfl (r_move rfl (ev_t rfl)) ?_
    refine WL.val rfl rfl rfl rfl (r_lenSlice (ts := #[]) rfl (ev_t rfl) elem_30) ?_
    refine WL.val rfl rfl rfl rfl (r_lss rfl (ev_t rfl) (ev_t rfl)) ?_
    refine WL.nil ?_
    refine WX.keep [(0, _), (3, _), (4, _), (8, _)] ⟨rfl, rfl, rfl, rfl, trivial⟩ ?_
    refine WX.next ?_
    refine WC.cond rfl (ev_t rfl) (fun hc3 => ?_) (fun hc3 => ?_)
    · try (exfalso; first | (simp at hc3; done) | (simp only [decide_eq_true_eq, decide_eq_false_iff_not, Bool.not_eq_true', Bool.not_eq_false', Bool.not_eq_true, Bool.not_eq_false] at hc3; omega) | omega)
      all_goals
       try simp only [decide_eq_true_eq, decide_eq_false_iff_not, Bool.not_eq_true', Bool.not_eq_false', Bool.not_eq_true, Bool.not_eq_false, Option.isNone_none, Option.isNone_some, Option.isSome_none, Option.isSome_some, ne_eq, Decidable.not_not] at hc3
       have hjl : j < l.length := by simpa using hc3
       obtain ⟨b0, off, rfl, _⟩ := hr.open (by omega)
       refine WC.skip ?_
       refine WX.next ?_
       refine WC.seq ?_
       refine WC.block ?_
       refine WC.region ?_
       refine WL.val rfl rfl rfl rfl (r_move rfl (ev_t rfl)) ?_
       refine WL.val rfl rfl rfl rfl (r_move rfl (ev_t rfl)) ?_
       refine WL.val rfl rfl rfl rfl (r_move rfl (ev_t rfl)) ?_
       refine WL.val rfl rfl rfl rfl (r_indexAddr rfl (ev_t rfl) (ev_t rfl) elem_30 size_32 (by omega) (by omega)) ?_
       refine WL.val rfl rfl rfl rfl (r_load rfl (ev_t rfl) flat_32 (hr.cell (j := j) (u := Wd l[j]) (by omega) (by rw [List.getElem?_map, List.getElem?_eq_getElem hjl]; rfl))) ?_
       refine WL.cons (SO.alloc rfl rfl rfl rfl (r_buildSlice1 (vs := [_]) rfl ⟨(ev_t rfl), trivial⟩ rfl row_46 rfl rfl) ?_)
       intro w1 hu1 hB1 hz1
       have hs1 := hu1.size
       replace hU := hU.trans hu1 (by exact (fun _ _ h => h))
       replace hr := hr.upd hu1 (fun k hk hl hS => by exact (show False from hS).elim)
       replace how := how.upd hu1 (fun k hk hl hS => (show False from hS).elim)
       refine WL.cons (SO.append how (show Rd _ _ _ 1 1 [Wd l[j]] from Rd.of_blk (F := At _) (n := 1) (sz := 1) hB1 rfl rfl (by omega)) row_46 (fun u hu => by simp at hu; subst hu; rfl) (le_maxLen (by omega)) (by omega) rfl (ev_t rfl) (ev_t rfl) rfl rfl rfl rfl ?_)
       intro v2 w2 how hu2
       have hs2 := hu2.size
       replace hU := hU.trans hu2 (by (intro k hl hk; (try simp only [At, New, Grow, From, No] at hk ⊢); omega))
       replace hr := hr.upd hu2 (fun k hk hl hS => by (have h1 := hFl k hk; have h2 := hS.1; omega))
       obtain ⟨A2, c2, rfl, hc2⟩ := Own.form how
       refine WL.val rfl rfl rfl rfl (r_assign rfl (ev_t rfl)) ?_
       refine WL.nil ?_
       refine WX.keep [(0, _), (3, _), (4, _)] ⟨rfl, rfl, rfl, trivial⟩ ?_
       refine WX.blockNormal ?_
       refine WX.next ?_
       refine WC.region ?_
       refine WL.val rfl rfl rfl rfl (r_move rfl (ev_t rfl)) ?_
       refine WL.val rfl rfl rfl rfl (r_addN rfl (ev_t rfl) ev_c (by simp only [inK]; omega)) ?_
       refine WL.val rfl rfl rfl rfl (r_assign rfl (ev_t rfl)) ?_
       refine WL.nil ?_
       refine WX.keep [(0, _), (3, _), (4, _)] ⟨rfl, rfl, rfl, trivial⟩ ?_
       refine WX.meet [(0, _), (3, _), (4, _)] ⟨rfl, rfl, rfl, trivial⟩ ?_
       refine ⟨l.length - (j + 1), by omega, j + 1, _, by omega, rfl, hU, hr, ?_, rfl⟩
       have e1 : (l.take j).map Wd ++ [Wd l[j]] = (l.take (j + 1)).map Wd := by rw [take_get (List.getElem?_eq_getElem hjl), List.map_append]; rfl
       rw [e1] at how
       have hUt := hU.size
       refine how.mono (fun k hk => ?_)
       simp only [Grow, New] at hk ⊢
       have hs9 := (hu2).size
       omega
    · try (exfalso; first | (simp at hc3; done) | (simp only [decide_eq_true_eq, decide_eq_false_iff_not, Bool.not_eq_true', Bool.not_eq_false', Bool.not_eq_true, Bool.not_eq_false] at hc3; omega) | omega)
      all_goals
       try simp only [decide_eq_true_eq, decide_eq_false_iff_not, Bool.not_eq_true', Bool.not_eq_false', Bool.not_eq_true, Bool.not_eq_false, Option.isNone_none, Option.isNone_some, Option.isSome_none, Option.isSome_some, ne_eq, Decidable.not_not] at hc3
       refine WC.exit ?_
       refine WX.thenExit ?_
       refine WX.thenExit ?_
       refine WX.blockHere ?_
       refine WX.next ?_
       refine WC.seq ?_
       refine WC.region ?_
       refine WL.val rfl rfl rfl rfl (r_move rfl (ev_t rfl)) ?_
       refine WL.val rfl rfl rfl rfl (r_assign rfl (ev_t rfl)) ?_
       refine WL.nil ?_
       refine WX.keep [(2, _)] ⟨rfl, trivial⟩ ?_
       refine WX.next ?_
       refine WC.ret ?_
       refine WX.retE1 rfl rfl ?_
       obtain rfl : j = l.length := by
         have : ¬ j < l.length := by simpa using hc3
         omega
       rw [List.take_length] at how
       exact ⟨how, hU⟩
theorem same_ok {w : World} {F F2 : Nat → Prop} {v v2 : Value} {l : List Nat} (hr : Rd w F v l.length 1 (l.map Wd)) (hr2 : Rd w F2 v2 l.length 1 (l.map Wd)) (hn : l.length ≤ 1000000000) :
    Ret Tryd.prog 24 #[v, v2] w fun v' w' => v' = .bool true ∧ Upd No w w' := by
  obtain ⟨A, c, rfl, hc⟩ := hr.slice_form
  obtain ⟨A2, c2, rfl, hc2⟩ := hr2.slice_form
  refine enterRet (vs := [_, _]) (N := 26) Tryd.func24 rfl rfl rfl ?_
  have hU := Upd.refl No w
  refine WC.keep [(0, _), (1, _)] ⟨rfl, rfl, trivial⟩ ?_
  refine WC.seq ?_
  refine WC.region ?_
  refine WL.val rfl rfl rfl rfl (r_assign rfl ev_c) ?_
  refine WL.nil ?_
  refine WX.keep [(0, _), (1, _)] ⟨rfl, rfl, trivial⟩ ?_
  refine WX.next ?_
  refine WC.seq ?_
  refine WC.seq ?_
  refine WC.region ?_
  refine WL.val rfl rfl rfl rfl (r_move rfl (ev_t rfl)) ?_
  refine WL.val rfl rfl rfl rfl (r_lenSlice (ts := #[]) rfl (ev_t rfl) elem_46) ?_
  refine WL.val rfl rfl rfl rfl (r_move rfl (ev_t rfl)) ?_
  refine WL.val rfl rfl rfl rfl (r_lenSlice (ts := #[]) rfl (ev_t rfl) elem_46) ?_
  refine WL.val rfl rfl rfl rfl (r_neq rfl (ev_t rfl) (ev_t rfl)) ?_
  refine WL.nil ?_
  refine WX.keep [(0, _), (1, _), (10, _)] ⟨rfl, rfl, rfl, trivial⟩ ?_
  refine WX.next ?_
  refine WC.cond rfl (ev_t rfl) (fun hc1 => ?_) (fun hc1 => ?_)
  · try (exfalso; first | (simp at hc1; done) | (simp only [decide_eq_true_eq, decide_eq_false_iff_not, Bool.not_eq_true', Bool.not_eq_false', Bool.not_eq_true, Bool.not_eq_false] at hc1; omega) | omega)
  · try (exfalso; first | (simp at hc1; done) | (simp only [decide_eq_true_eq, decide_eq_false_iff_not, Bool.not_eq_true', Bool.not_eq_false', Bool.not_eq_true, Bool.not_eq_false] at hc1; omega) | omega)
    all_goals
     try simp only [decide_eq_true_eq, decide_eq_false_iff_not, Bool.not_eq_true', Bool.not_eq_false', Bool.not_eq_true, Bool.not_eq_false, Option.isNone_none, Option.isNone_some, Option.isSome_none, Option.isSome_some, ne_eq, Decidable.not_not] at hc1
     refine WC.skip ?_
     refine WX.next ?_
     refine WC.seq ?_
     refine WC.seq ?_
     refine WC.region ?_
     refine WL.val rfl rfl rfl rfl (r_assign rfl ev_c) ?_
     refine WL.nil ?_
     refine WX.keep [(0, _), (1, _), (5, _)] ⟨rfl, rfl, rfl, trivial⟩ ?_
     refine WX.next ?_
     refine WC.block ?_
     -- loop 1: live [0, 1, 5]
     refine WC.keep [(0, _), (1, _), (5, _)] ⟨rfl, rfl, rfl, trivial⟩ ?_
     refine WC.loop (fun qq E wC => ∃ (j : Nat), j ≤ l.length ∧ qq = l.length - j ∧ Upd No w wC ∧ Rd wC F (.slice A l.length c) l.length 1 (l.map Wd) ∧ Rd wC F2 (.slice A2 l.length c2) l.length 1 (l.map Wd) ∧ E = [(0, .slice A l.length c), (1, .slice A2 l.length c2), (5, .int .i64 (j : Int))]) (l.length) ?_ ?_
     · exact ⟨0, by omega, by omega, hU, hr, hr2, rfl⟩
     · clear hU hr hr2
       rintro qq E wC ⟨j, hj, rfl, hU, hr, hr2, rfl⟩
       refine WC.seq ?_
       refine WC.seq ?_
       refine WC.region ?_
       refine WL.val rfl rfl rfl rfl (r_move rfl (ev_t rfl)) ?_
       refine WL.val rfl rfl rfl rfl (r_move rfl (ev_t rfl)) ?_
       refine WL.val rfl rfl rfl rfl (r_lenSlice (ts := #[]) rfl (ev_t rfl) elem_46) ?_
       refine WL.val rfl rfl rfl rfl (r_lss rfl (ev_t rfl) (ev_t rfl)) ?_
       refine WL.nil ?_
       refine WX.keep [(0, _), (1, _), (5, _), (14, _)] ⟨rfl, rfl, rfl, rfl, trivial⟩ ?_
       refine WX.next ?_
       refine WC.cond rfl (ev_t rfl) (fun hc4 => ?_) (fun hc4 => ?_)
       · try (exfalso; first | (simp at hc4; done) | (simp only [decide_eq_true_eq, decide_eq_false_iff_not, Bool.not_eq_true', Bool.not_eq_false', Bool.not_eq_true, Bool.not_eq_false] at hc4; omega) | omega)
         all_goals
          try simp only [decide_eq_true_eq, decide_eq_false_iff_not, Bool.not_eq_true', Bool.not_eq_false', Bool.not_eq_true, Bool.not_eq_false, Option.isNone_none, Option.isNone_some, Option.isSome_none, Option.isSome_some, ne_eq, Decidable.not_not] at hc4
          have hjl : j < l.length := by simpa using hc4
          obtain ⟨b0, off, rfl, _⟩ := hr.open (by omega)
          obtain ⟨b1, off1, rfl, _⟩ := hr2.open (by omega)
          refine WC.skip ?_
          refine WX.next ?_
          refine WC.seq ?_
          refine WC.block ?_
          refine WC.seq ?_
          refine WC.draws' (fun u0_ u1_ => Upd No u0_ u1_) (fun j => [0, 0, 0, 0, 0, 0, 0, 1, 0].getD j 0) (.calm 0 (.calm 1 (.calm 2 (.calm 4 (.calm 5 (.calm 6 (.held 3 (.one 7 (.calm 8 (.done)))))))))) mixed (by kernel_rfl) (by repeat (first | with_reducible exact Deaf.body | with_reducible apply Deaf.then | with_reducible apply Deaf.block)) ?_
          intro w1 hu1
          have hz1 := congrArg Array.size hu1.2.2.2
          replace hu1 := Upd.of_draw hu1
          have hs1 := hu1.size
          replace hU := hU.transA hu1
          replace hr := hr.upd hu1 (fun k hk hl hS => (show False from hS).elim)
          replace hr2 := hr2.upd hu1 (fun k hk hl hS => (show False from hS).elim)
          have hS6 := Upd.refl No w1
          refine WN.calm _ rfl rfl rfl rfl rfl (fun _ => r_move rfl (ev_t rfl)) ?_
          refine WN.calm _ rfl rfl rfl rfl rfl (fun _ => r_move rfl (ev_t rfl)) ?_
          refine WN.calm _ rfl rfl rfl rfl rfl (fun _ => r_indexAddr rfl (ev_t rfl) (ev_t rfl) elem_46 size_31 (by omega) (by omega)) ?_
          refine WN.calm _ rfl rfl rfl rfl rfl (fun _ => r_move rfl (ev_t rfl)) ?_
          refine WN.calm _ rfl rfl rfl rfl rfl (fun _ => r_move rfl (ev_t rfl)) ?_
          refine WN.calm _ rfl rfl rfl rfl rfl (fun _ => r_indexAddr rfl (ev_t rfl) (ev_t rfl) elem_46 size_31 (by omega) (by omega)) ?_
          refine WN.held _ rfl rfl rfl rfl rfl hS6 (fun w' hS => r_load rfl (ev_t rfl) flat_31 ((hr.upd hS (fun _ _ _ h => h)).cell (j := j) (u := Wd l[j]) (show off + (j : Int).toNat * 1 = off + j by omega) (by rw [List.getElem?_map, List.getElem?_eq_getElem hjl]; rfl))) ?_
          refine WN.step _ rfl (SO.val rfl rfl rfl rfl (r_load rfl (ev_t rfl) flat_31 (hr2.cell (j := j) (u := Wd l[j]) (show off1 + (j : Int).toNat * 1 = off1 + j by omega) (by rw [List.getElem?_map, List.getElem?_eq_getElem hjl]; rfl))) ?_)
          refine ⟨hS6, ?_⟩
          refine WN.calm _ rfl rfl rfl rfl rfl (fun _ => r_neq rfl (ev_t rfl) (ev_t rfl)) ?_
          refine WN.done ?_
          refine WX.keep [(0, _), (1, _), (5, _), (25, _)] ⟨rfl, rfl, rfl, rfl, trivial⟩ ?_
          refine WX.next ?_
          refine WC.cond rfl (ev_t rfl) (fun hc6 => ?_) (fun hc6 => ?_)
          · try (exfalso; first | (simp at hc6; done) | (simp only [decide_eq_true_eq, decide_eq_false_iff_not, Bool.not_eq_true', Bool.not_eq_false', Bool.not_eq_true, Bool.not_eq_false] at hc6; omega) | omega)
          · try (exfalso; first | (simp at hc6; done) | (simp only [decide_eq_true_eq, decide_eq_false_iff_not, Bool.not_eq_true', Bool.not_eq_false', Bool.not_eq_true, Bool.not_eq_false] at hc6; omega) | omega)
            all_goals
             try simp only [decide_eq_true_eq, decide_eq_false_iff_not, Bool.not_eq_true', Bool.not_eq_false', Bool.not_eq_true, Bool.not_eq_false, Option.isNone_none, Option.isNone_some, Option.isSome_none, Option.isSome_some, ne_eq, Decidable.not_not] at hc6
             refine WC.skip ?_
             refine WX.blockNormal ?_
             refine WX.next ?_
             refine WC.region ?_
             refine WL.val rfl rfl rfl rfl (r_move rfl (ev_t rfl)) ?_
             refine WL.val rfl rfl rfl rfl (r_addN rfl (ev_t rfl) ev_c (by simp only [inK]; omega)) ?_
             refine WL.val rfl rfl rfl rfl (r_assign rfl (ev_t rfl)) ?_
             refine WL.nil ?_
             refine WX.keep [(0, _), (1, _), (5, _)] ⟨rfl, rfl, rfl, trivial⟩ ?_
             refine WX.meet [(0, _), (1, _), (5, _)] ⟨rfl, rfl, rfl, trivial⟩ ?_
             exact ⟨l.length - (j + 1), by omega, j + 1, by omega, rfl, hU, hr, hr2, rfl⟩
       · try (exfalso; first | (simp at hc4; done) | (simp only [decide_eq_true_eq, decide_eq_false_iff_not, Bool.not_eq_true', Bool.not_eq_false', Bool.not_eq_true, Bool.not_eq_false] at hc4; omega) | omega)
         all_goals
          try simp only [decide_eq_true_eq, decide_eq_false_iff_not, Bool.not_eq_true', Bool.not_eq_false', Bool.not_eq_true, Bool.not_eq_false, Option.isNone_none, Option.isNone_some, Option.isSome_none, Option.isSome_some, ne_eq, Decidable.not_not] at hc4
          refine WC.exit ?_
          refine WX.thenExit ?_
          refine WX.thenExit ?_
          refine WX.blockHere ?_
          refine WX.next ?_
          refine WC.seq ?_
          refine WC.region ?_
          refine WL.val rfl rfl rfl rfl (r_assign rfl ev_c) ?_
          refine WL.nil ?_
          refine WX.keep [(4, _)] ⟨rfl, trivial⟩ ?_
          refine WX.next ?_
          refine WC.ret ?_
          refine WX.retE1 rfl rfl ?_
          exact ⟨rfl, hU⟩
end Go.Proofs.YtdpnnclkkbfihaaDoor

/-
  heap: what collecting does, plain; append with room.
-/
namespace Go.Proofs.YtdpnnclkkbfihaaDoor
open Go
set_option linter.unusedSimpArgs false
set_option linter.unusedVariables false

theorem and_even (k : Nat) (h : 2 * k + 1 < 18446744073709551616) : (2 * k + 1) &&& 18446744073709551614 = 2 * k := by
  apply Nat.eq_of_testBit_eq
  intro i
  rw [Nat.testBit_and]
  cases i with
  | zero =>
    have h1 : Nat.testBit 18446744073709551614 0 = false := by decide
    rw [h1, Bool.and_false]
    simp [Nat.testBit_zero]
  | succ i =>
    rw [Nat.testBit_succ, Nat.testBit_succ, Nat.testBit_succ]
    have e1 : (2 * k + 1) / 2 = k := by omega
    have e2 : 18446744073709551614 / 2 = 2 ^ 63 - 1 := by decide
    have e3 : 2 * k / 2 = k := by omega
    rw [e1, e2, e3, Nat.testBit_two_pow_sub_one]
    by_cases hi : i < 63
    · simp [hi]
    · have : k.testBit i = false := Nat.testBit_lt_two_pow (Nat.lt_of_lt_of_le (show k < 2 ^ 63 by omega) (Nat.pow_le_pow_right (by decide) (by omega)))
      simp [hi, this]
theorem andNot_odd (k : Nat) (h : 2 * k + 1 < 18446744073709551616) : bits .andNot .u64 ((2 * k + 1 : Nat) : Int) 1 = ((2 * k : Nat) : Int) := by
  have := u64_andNot_nat (2 * k + 1) 1 h (by decide)
  rw [show ((1 : Nat) : Int) = 1 from rfl] at this
  rw [this, and_even k h]

/-! ### the collector's step -/
def szO (x : Nat) : Nat := if x % 256 = 3 then 1 + (x / 256 + 7) / 8 else 1 + x / 256
theorem szO_pos (x : Nat) : 1 ≤ szO x := by unfold szO; split <;> omega
def szAt (old : List Nat) (a : Nat) : Nat := szO (old.getD a 0)
theorem szAt_pos (old : List Nat) (a : Nat) : 1 ≤ szAt old a := szO_pos _
def objAt (old : List Nat) (a : Nat) : List Nat := (old.drop a).take (szAt old a)
theorem objAt_len {old : List Nat} {a : Nat} (h : a + szAt old a ≤ old.length) : (objAt old a).length = szAt old a := by
  unfold objAt; rw [List.length_take, List.length_drop]; omega
def isR (old : List Nat) (x : Nat) : Prop := x % 2 = 0 ∧ x / 2 < old.length
instance (old : List Nat) (x : Nat) : Decidable (isR old x) := by unfold isR; infer_instance
def mvTo (old to mv : List Nat) (x : Nat) : List Nat := if isR old x ∧ mv.getD (x / 2) 0 = 0 then to ++ objAt old (x / 2) else to
def mvMv (old to mv : List Nat) (x : Nat) : List Nat := if isR old x ∧ mv.getD (x / 2) 0 = 0 then mv.set (x / 2) (2 * to.length + 1) else mv
def mvY (old to mv : List Nat) (x : Nat) : Nat := if isR old x then (if mv.getD (x / 2) 0 = 0 then 2 * to.length else mv.getD (x / 2) 0 - 1) else x

section
variable {P : Program} {N : Nat} {ops : Array Oper} {Q : Exit → Act → World → Prop} {o : Oper} {E : Env} {w : World} {d : Nat} {v2 : Value} {K : Env → World → Prop} {F2 : Nat → Prop} {g n m cap : Nat} {cur : Array Value} {news : List Value}
theorem SO.appendRoom {x y : Operand} {t e : TypeId} {by_ : Nat} {z : Value} (hb : Blk w g cur e) (hsrc : Rd w F2 v2 m 1 news) (ht : RowT P t e 1 by_ z) (h1 : ∀ u ∈ news, u.oneCell' = true) (hroom : n + m ≤ cap) (hcs : cur.size = cap) (hm : 0 < m)
    (hop : o.op = .call { callee := .builtin .append, args := #[x, y], argTypes := #[t, t] }) (hx : Env.ev E x = .slice (some ⟨g, 0, none⟩) n cap) (hy : Env.ev E y = v2)
    (hd : o.dst = some d) (hN : Nat.blt d N = true) (ho : opsOK E o = true) (hw : wantedE ops E o = some true)
    (k : ∀ w', Upd (At g) w w' → Blk w' g (cur.toList.take n ++ news ++ cur.toList.drop (n + m)).toArray e → w'.heap.size = w.heap.size → K ((d, .slice (some ⟨g, 0, none⟩) (n + m) cap) :: E) w') : SO P N ops Q o K E w := by
  obtain ⟨i, hi, hz, hs, hby⟩ := ht.parts
  have hl := hsrc.len
  rcases hsrc.src ht.pos with ⟨rfl, _⟩ | ⟨ad, c, rfl, hcells⟩
  · omega
  · have hr := run_append_room (P := P) w t o.type e i ht.und hi g n cap cur hb ad m c news (by rw [hs]; exact hl) hcells h1 hroom (by rw [hs]; omega)
    rw [hs, Nat.mul_one, hl, Nat.mul_one] at hr
    refine SO.val hd hN ho hw ?_ (k (w.setRow g (cur.toList.take n ++ news ++ cur.toList.drop (n + m)).toArray) ⟨rfl, rfl, rfl, by simp [World.setRow], fun j _ hn => setRow_other _ _ _ _ hn⟩ (setRow_heap _ _ _ _ _ _ hb) (by simp [World.setRow]))
    unfold execOp
    simp only [hop, resolve, invoke, builtin, Sem.run_bind, Sem.run_pure, Result.andThen_ok, List.map_toArray, List.map_cons, List.map_nil, hx, hy, hr]
end

/-- the collector's memory: the old words, the new ones, where they were moved to -/
structure CS (w : World) (D : Nat → Prop) (co cm ct bm bt : Nat) (vo : Value) (old to mv : List Nat) : Prop where
  ho : Blk w co #[vo] 30
  hm : Blk w cm #[.slice (some ⟨bm, 0, none⟩) old.length old.length] 30
  ht : Blk w ct #[.slice (some ⟨bt, 0, none⟩) to.length old.length] 30
  ro : Rd w D vo old.length 1 (old.map Wd)
  rm : Blk w bm (mv.map Wd).toArray tWord
  rt : ∃ cur : Array Value, Blk w bt cur tWord ∧ cur.size = old.length ∧ cur.toList.take to.length = to.map Wd
  ne : co ≠ ct ∧ cm ≠ ct ∧ bm ≠ bt
  nD : ¬ D ct ∧ ¬ D bm ∧ ¬ D bt
  lm : mv.length = old.length
  le : to.length ≤ old.length ∧ old.length ≤ 1048576
theorem CS.upd {w w' : World} {D S : Nat → Prop} {co cm ct bm bt : Nat} {vo : Value} {old to mv : List Nat} (h : CS w D co cm ct bm bt vo old to mv) (hu : Upd S w w')
    (hn : ∀ k, (k = co ∨ k = cm ∨ k = ct ∨ k = bm ∨ k = bt ∨ D k) → k < w.heap.size → ¬ S k) : CS w' D co cm ct bm bt vo old to mv := by
  obtain ⟨cur, h1, h2, h3⟩ := h.rt
  exact ⟨h.ho.upd hu (hn _ (by simp) h.ho.lt), h.hm.upd hu (hn _ (by simp) h.hm.lt), h.ht.upd hu (hn _ (by simp) h.ht.lt), h.ro.upd hu (fun k hk hl => hn k (by simp [hk]) hl), h.rm.upd hu (hn _ (by simp) h.rm.lt), ⟨cur, h1.upd hu (hn _ (by simp) h1.lt), h2, h3⟩, h.ne, h.nD, h.lm, h.le⟩
end Go.Proofs.YtdpnnclkkbfihaaDoor

/-
  heap: what collecting does to the words, plain. No program in sight.
-/
namespace Go.Proofs.YtdpnnclkkbfihaaDoor
open Go
set_option linter.unusedSimpArgs false
set_option linter.unusedVariables false

/-! ### places -/
def plc (sz : Nat → Nat) : List Nat → Nat → Nat
  | [], _ => 0
  | b :: r, a => if b = a then 0 else sz b + plc sz r a
def tot (sz : Nat → Nat) (ord : List Nat) : Nat := (ord.map sz).sum
theorem tot_nil (sz : Nat → Nat) : tot sz [] = 0 := rfl
theorem tot_cons (sz : Nat → Nat) (b : Nat) (r : List Nat) : tot sz (b :: r) = sz b + tot sz r := by simp [tot]
theorem tot_app (sz : Nat → Nat) (a b : List Nat) : tot sz (a ++ b) = tot sz a + tot sz b := by simp [tot]
theorem plc_app {sz : Nat → Nat} : ∀ {ord : List Nat} {a : Nat} (r : List Nat), a ∈ ord → plc sz (ord ++ r) a = plc sz ord a
  | [], a, r, h => by cases h
  | b :: l, a, r, h => by
    simp only [List.cons_append, plc]
    split
    · rfl
    · rename_i hne
      rw [plc_app r (by rcases List.mem_cons.1 h with h | h; exact absurd h.symm hne; exact h)]
theorem plc_new {sz : Nat → Nat} : ∀ {ord : List Nat} {a : Nat}, a ∉ ord → plc sz (ord ++ [a]) a = tot sz ord
  | [], a, _ => by simp [plc, tot]
  | b :: l, a, h => by
    have h1 : b ≠ a := fun e => h (by simp [e])
    have h2 : a ∉ l := fun e => h (by simp [e])
    simp only [List.cons_append, plc, tot_cons]
    rw [if_neg h1, plc_new h2]
theorem plc_lt {sz : Nat → Nat} : ∀ {ord : List Nat} {a : Nat}, a ∈ ord → plc sz ord a + sz a ≤ tot sz ord
  | [], a, h => by cases h
  | b :: l, a, h => by
    simp only [plc, tot_cons]
    split
    · rename_i e; subst e; omega
    · rename_i hne
      have := plc_lt (sz := sz) (show a ∈ l by rcases List.mem_cons.1 h with h | h; exact absurd h.symm hne; exact h)
      omega
theorem plc_inj {sz : Nat → Nat} : ∀ {ord : List Nat} {a a' d d' : Nat}, a ∈ ord → a' ∈ ord → d < sz a → d' < sz a' → plc sz ord a + d = plc sz ord a' + d' → a = a' ∧ d = d'
  | [], a, a', d, d', h, _, _, _, _ => by cases h
  | b :: l, a, a', d, d', h, h', hd, hd', e => by
    simp only [plc] at e
    by_cases h1 : b = a
    · by_cases h2 : b = a'
      · rw [if_pos h1, if_pos h2] at e; exact ⟨h1.symm.trans h2, by omega⟩
      · rw [if_pos h1, if_neg h2] at e; subst h1; omega
    · by_cases h2 : b = a'
      · rw [if_neg h1, if_pos h2] at e; subst h2; omega
      · rw [if_neg h1, if_neg h2] at e
        exact plc_inj (sz := sz) (ord := l) (by rcases List.mem_cons.1 h with h | h; exact absurd h.symm h1; exact h) (by rcases List.mem_cons.1 h' with h | h; exact absurd h.symm h2; exact h) hd hd' (by omega)
theorem plc_take {sz : Nat → Nat} : ∀ {ord : List Nat} {k a : Nat}, ord.Nodup → ord[k]? = some a → plc sz ord a = tot sz (ord.take k)
  | [], k, a, _, h => by simp at h
  | b :: l, 0, a, _, h => by simp at h; subst h; simp [plc, tot]
  | b :: l, k + 1, a, hn, h => by
    have h1 : l[k]? = some a := by simpa using h
    have h2 : a ∈ l := List.mem_of_getElem? h1
    have h3 : b ≠ a := fun e => by subst e; exact (List.nodup_cons.1 hn).1 h2
    simp only [plc, List.take_succ_cons, tot_cons]
    rw [if_neg h3, plc_take (List.nodup_cons.1 hn).2 h1]
theorem plc_pos {sz : Nat → Nat} : ∀ {ord : List Nat} {m : Nat}, m < tot sz ord → ∃ a ∈ ord, ∃ d, d < sz a ∧ (ord.Nodup → plc sz ord a + d = m)
  | [], m, h => by simp [tot] at h
  | b :: l, m, h => by
    rw [tot_cons] at h
    rcases Nat.lt_or_ge m (sz b) with h1 | h1
    · exact ⟨b, by simp, m, h1, fun _ => by simp [plc]⟩
    · obtain ⟨a, ha, d, hd, he⟩ := plc_pos (sz := sz) (ord := l) (m := m - sz b) (by omega)
      refine ⟨a, by simp [ha], d, hd, fun hn => ?_⟩
      have h3 : b ≠ a := fun e => by subst e; exact (List.nodup_cons.1 hn).1 ha
      have h4 := he (List.nodup_cons.1 hn).2
      simp only [plc]
      rw [if_neg h3]
      omega
theorem tot_erase {sz : Nat → Nat} : ∀ {l : List Nat} {a : Nat}, a ∈ l → tot sz l = sz a + tot sz (l.erase a)
  | [], a, h => by cases h
  | b :: l, a, h => by
    by_cases e : b = a
    · subst e; rw [List.erase_cons_head, tot_cons]
    · rw [List.erase_cons_tail (by simpa using e), tot_cons, tot_cons, tot_erase (sz := sz) (show a ∈ l by rcases List.mem_cons.1 h with h | h; exact absurd h.symm e; exact h)]
      omega
theorem tot_sub {sz : Nat → Nat} : ∀ {a b : List Nat}, a.Nodup → (∀ x ∈ a, x ∈ b) → tot sz a ≤ tot sz b
  | [], b, _, _ => by simp [tot]
  | x :: a, b, hn, hs => by
    have h1 := List.nodup_cons.1 hn
    have h2 := tot_sub (sz := sz) (a := a) (b := b.erase x) h1.2 (fun y hy => by
      have hne : y ≠ x := fun e => by subst e; exact h1.1 hy
      exact (List.mem_erase_of_ne hne).2 (hs y (by simp [hy])))
    rw [tot_cons, tot_erase (sz := sz) (hs x (by simp))]
    omega

/-! ### a heap of objects, one behind the other -/
def Tile (old : List Nat) : Nat → List Nat → Prop
  | at_, [] => at_ = old.length
  | at_, a :: r => a = at_ ∧ at_ + szAt old at_ ≤ old.length ∧ Tile old (at_ + szAt old at_) r
theorem Tile.tot {old : List Nat} : ∀ {st : List Nat} {at_ : Nat}, Tile old at_ st → at_ + tot (szAt old) st = old.length
  | [], at_, h => by simp only [Tile] at h; simp [Go.Proofs.YtdpnnclkkbfihaaDoor.tot, h]
  | a :: r, at_, h => by
    obtain ⟨rfl, h1, h2⟩ := h
    rw [tot_cons]
    have := Tile.tot h2
    omega
theorem Tile.mem {old : List Nat} : ∀ {st : List Nat} {at_ a : Nat}, Tile old at_ st → a ∈ st → at_ ≤ a ∧ a + szAt old a ≤ old.length
  | [], at_, a, _, h => by cases h
  | b :: r, at_, a, h, hm => by
    obtain ⟨rfl, h1, h2⟩ := h
    rcases List.mem_cons.1 hm with rfl | hm
    · exact ⟨Nat.le_refl _, h1⟩
    · have := Tile.mem h2 hm
      exact ⟨by omega, this.2⟩
theorem Tile.nodup {old : List Nat} : ∀ {st : List Nat} {at_ : Nat}, Tile old at_ st → st.Nodup
  | [], _, _ => List.nodup_nil
  | a :: r, at_, h => by
    obtain ⟨rfl, h1, h2⟩ := h
    refine List.nodup_cons.2 ⟨fun hm => ?_, Tile.nodup h2⟩
    have := (Tile.mem h2 hm).1
    have := szAt_pos old a
    omega
def parts (old : List Nat) (a : Nat) : List Nat := if old.getD a 0 % 256 = 3 then [] else (old.drop (a + 1)).take (old.getD a 0 / 256)
structure Vd (old st : List Nat) : Prop where
  tile : Tile old 0 st
  refs : ∀ a ∈ st, ∀ x ∈ parts old a, x % 2 = 1 ∨ x / 2 ∈ st
  w64 : ∀ y ∈ old, y < 18446744073709551616
theorem Vd.in {old st : List Nat} (h : Vd old st) {a : Nat} (ha : a ∈ st) : a < old.length ∧ a + szAt old a ≤ old.length := by
  have h1 := (h.tile.mem ha).2
  have := szAt_pos old a
  exact ⟨by omega, h1⟩
theorem getD_lt {l : List Nat} {i : Nat} (h : i < l.length) : l[i]? = some (l.getD i 0) := by
  rw [List.getD_eq_getElem?_getD, List.getElem?_eq_getElem h]; rfl

/-! ### what is come to, in which order -/
def come (ord : List Nat) (x : Nat) : List Nat := if x % 2 = 1 ∨ x / 2 ∈ ord then ord else ord ++ [x / 2]
def there (old ord : List Nat) (x : Nat) : Nat := if x % 2 = 0 ∧ x / 2 ∈ ord then 2 * plc (szAt old) ord (x / 2) else x
inductive Bfs (old : List Nat) : Nat → List Nat → List Nat → Prop
  | done {k : Nat} {ord : List Nat} (h : ord.length ≤ k) : Bfs old k ord ord
  | step {k a : Nat} {ord fin : List Nat} (h : ord[k]? = some a) (r : Bfs old (k + 1) ((parts old a).foldl come ord) fin) : Bfs old k ord fin
theorem Bfs.unique {old : List Nat} {k : Nat} {ord f1 : List Nat} (h : Bfs old k ord f1) : ∀ {f2 : List Nat}, Bfs old k ord f2 → f1 = f2 := by
  induction h with
  | done h =>
    intro f2 h2
    cases h2 with
    | done _ => rfl
    | step h3 _ => have := (List.getElem?_eq_some_iff.1 h3).1; omega
  | step h r ih =>
    intro f2 h2
    cases h2 with
    | done h3 => have := (List.getElem?_eq_some_iff.1 h).1; omega
    | step h3 r3 =>
      rw [h] at h3
      injection h3 with h3
      subst h3
      exact ih r3
theorem come_pre (ord : List Nat) (x : Nat) : ∃ r, come ord x = ord ++ r := by
  unfold come
  split
  · exact ⟨[], by simp⟩
  · exact ⟨_, rfl⟩
theorem come_fold_pre : ∀ (l : List Nat) (ord : List Nat), ∃ r, l.foldl come ord = ord ++ r
  | [], ord => ⟨[], by simp⟩
  | x :: l, ord => by
    obtain ⟨r1, h1⟩ := come_pre ord x
    obtain ⟨r2, h2⟩ := come_fold_pre l (come ord x)
    exact ⟨r1 ++ r2, by rw [List.foldl_cons, h2, h1, List.append_assoc]⟩
theorem come_in {ord : List Nat} {x : Nat} : x % 2 = 1 ∨ x / 2 ∈ come ord x := by
  unfold come
  split
  · assumption
  · exact .inr (by simp)

/-! ### the collector's state -/
def isPart (old : List Nat) (a d : Nat) : Prop := 1 ≤ d ∧ old.getD a 0 % 256 ≠ 3
structure PI (old st ord to mv : List Nat) (m : Nat) : Prop where
  nd : ord.Nodup
  sub : ∀ a ∈ ord, a ∈ st
  lmv : mv.length = old.length
  mvs : ∀ a, a < old.length → mv.getD a 0 = if a ∈ ord then 2 * plc (szAt old) ord a + 1 else 0
  ltot : to.length = tot (szAt old) ord
  lm : m ≤ to.length
  old_ : ∀ a ∈ ord, ∀ d, d < szAt old a → ¬ (plc (szAt old) ord a + d < m ∧ isPart old a d) → to.getD (plc (szAt old) ord a + d) 0 = old.getD (a + d) 0
  new_ : ∀ a ∈ ord, ∀ d, d < szAt old a → plc (szAt old) ord a + d < m → isPart old a d → to.getD (plc (szAt old) ord a + d) 0 = there old ord (old.getD (a + d) 0) ∧ (old.getD (a + d) 0 % 2 = 1 ∨ old.getD (a + d) 0 / 2 ∈ ord)

theorem there_app {old ord : List Nat} {x : Nat} (r : List Nat) (h : x % 2 = 1 ∨ x / 2 ∈ ord) : there old (ord ++ r) x = there old ord x := by
  unfold there
  rcases h with h | h
  · rw [if_neg (by omega), if_neg (by omega)]
  · by_cases h2 : x % 2 = 0
    · rw [if_pos ⟨h2, by simp [h]⟩, if_pos ⟨h2, h⟩, plc_app r h]
    · rw [if_neg (fun e => h2 e.1), if_neg (fun e => h2 e.1)]

theorem PI.le {old st ord to mv : List Nat} {m : Nat} (h : PI old st ord to mv m) (hv : Vd old st) : to.length ≤ old.length := by
  rw [h.ltot]
  have := hv.tile.tot
  have := tot_sub (sz := szAt old) h.nd h.sub
  omega
theorem PI.go {old st ord to mv : List Nat} {m x : Nat} (h : PI old st ord to mv m) (hv : Vd old st) (hx : x % 2 = 1 ∨ x / 2 ∈ st) (hl : old.length ≤ 1048576) :
    isR old x → x / 2 + szAt old (x / 2) ≤ old.length ∧ (mv.getD (x / 2) 0 = 0 ∧ to.length + szAt old (x / 2) ≤ old.length ∨ ∃ k, mv.getD (x / 2) 0 = 2 * k + 1 ∧ k < 1152921504606846976) := by
  intro hr
  have hs : x / 2 ∈ st := by rcases hx with h | h; exact absurd hr.1 (by omega); exact h
  refine ⟨(hv.in hs).2, ?_⟩
  rw [h.mvs _ hr.2]
  by_cases hm : x / 2 ∈ ord
  · rw [if_pos hm]
    right
    have h1 := plc_lt (sz := szAt old) hm
    have h2 := h.le hv
    rw [h.ltot] at h2
    exact ⟨_, rfl, by omega⟩
  · rw [if_neg hm]
    left
    refine ⟨rfl, ?_⟩
    have h1 := tot_sub (sz := szAt old) (a := ord ++ [x / 2]) (b := st) (by
      rw [List.nodup_append]
      exact ⟨h.nd, by simp, fun a ha b hb e => by simp at hb; subst hb; subst e; exact hm ha⟩) (fun y hy => by
      rcases List.mem_append.1 hy with hy | hy
      · exact h.sub y hy
      · simp at hy; subst hy; exact hs)
    rw [tot_app, tot_cons, tot_nil] at h1
    have h2 := hv.tile.tot
    rw [h.ltot]
    omega

theorem getD_app_l {l r : List Nat} {i : Nat} (h : i < l.length) : (l ++ r).getD i 0 = l.getD i 0 := by
  rw [List.getD_eq_getElem?_getD, List.getD_eq_getElem?_getD, List.getElem?_append_left h]
theorem getD_app_r {l r : List Nat} {i : Nat} : (l ++ r).getD (l.length + i) 0 = r.getD i 0 := by
  rw [List.getD_eq_getElem?_getD, List.getD_eq_getElem?_getD, List.getElem?_append_right (by omega)]
  congr 2
  omega
theorem objAt_get {old : List Nat} {a d : Nat} (hd : d < szAt old a) : (objAt old a).getD d 0 = old.getD (a + d) 0 := by
  unfold objAt
  rw [List.getD_eq_getElem?_getD, List.getD_eq_getElem?_getD, List.getElem?_take_of_lt hd, List.getElem?_drop]

/-- what a step of the collector does to its state -/
theorem PI.move {old st ord to mv : List Nat} {m x : Nat} (h : PI old st ord to mv m) (hv : Vd old st) (hx : x % 2 = 1 ∨ x / 2 ∈ st) :
    PI old st (come ord x) (mvTo old to mv x) (mvMv old to mv x) m ∧ mvY old to mv x = there old (come ord x) x := by
  by_cases hr : isR old x
  · have hs : x / 2 ∈ st := by rcases hx with h | h; exact absurd hr.1 (by omega); exact h
    have hmv := h.mvs _ hr.2
    by_cases hm : x / 2 ∈ ord
    · rw [if_pos hm] at hmv
      have e1 : come ord x = ord := by unfold come; rw [if_pos (.inr hm)]
      have e2 : mvTo old to mv x = to := if_neg (fun e => by have := e.2; omega)
      have e3 : mvMv old to mv x = mv := if_neg (fun e => by have := e.2; omega)
      have e4 : mvY old to mv x = 2 * plc (szAt old) ord (x / 2) := by
        unfold mvY
        rw [if_pos hr, if_neg (by omega), hmv]
        omega
      have e5 : there old ord x = 2 * plc (szAt old) ord (x / 2) := by unfold there; rw [if_pos ⟨hr.1, hm⟩]
      rw [e1, e2, e3, e4, e5]
      exact ⟨h, rfl⟩
    · rw [if_neg hm] at hmv
      have e1 : come ord x = ord ++ [x / 2] := by unfold come; rw [if_neg (by have := hr.1; intro e; rcases e with e | e; omega; exact hm e)]
      have e2 : mvTo old to mv x = to ++ objAt old (x / 2) := if_pos ⟨hr, hmv⟩
      have e3 : mvMv old to mv x = mv.set (x / 2) (2 * to.length + 1) := if_pos ⟨hr, hmv⟩
      have e4 : mvY old to mv x = 2 * to.length := by unfold mvY; rw [if_pos hr, if_pos hmv]
      have e5 : there old (ord ++ [x / 2]) x = 2 * to.length := by unfold there; rw [if_pos ⟨hr.1, by simp⟩, plc_new hm, h.ltot]
      rw [e1, e2, e3, e4, e5]
      refine ⟨⟨?_, ?_, ?_, ?_, ?_, ?_, ?_, ?_⟩, rfl⟩
      · rw [List.nodup_append]
        exact ⟨h.nd, by simp, fun a ha b hb e => by simp at hb; subst hb; subst e; exact hm ha⟩
      · intro y hy
        rcases List.mem_append.1 hy with hy | hy
        · exact h.sub y hy
        · simp at hy; subst hy; exact hs
      · rw [List.length_set]; exact h.lmv
      · intro a ha
        rw [List.getD_eq_getElem?_getD, List.getElem?_set]
        by_cases e : x / 2 = a
        · subst e
          rw [if_pos rfl, if_pos (by rw [h.lmv]; exact ha), if_pos (by simp), plc_new hm, h.ltot]
          rfl
        · rw [if_neg e, ← List.getD_eq_getElem?_getD, h.mvs a ha]
          by_cases e2 : a ∈ ord
          · rw [if_pos e2, if_pos (by simp [e2]), plc_app _ e2]
          · rw [if_neg e2, if_neg (by simp [e2]; exact fun h => e h.symm)]
      · rw [List.length_append, objAt_len (hv.in hs).2, tot_app, tot_cons, tot_nil, h.ltot]
        omega
      · rw [List.length_append]; have := h.lm; omega
      · intro a ha d hd hn
        rcases List.mem_append.1 ha with ha | ha
        · have h1 := plc_lt (sz := szAt old) ha
          have h2 := h.ltot
          rw [plc_app _ ha] at hn ⊢
          rw [getD_app_l (by omega)]
          exact h.old_ a ha d hd hn
        · simp at ha
          subst ha
          rw [plc_new hm, ← h.ltot, getD_app_r, objAt_get hd]
      · intro a ha d hd hn hp
        rcases List.mem_append.1 ha with ha | ha
        · have h1 := plc_lt (sz := szAt old) ha
          have h2 := h.ltot
          rw [plc_app _ ha] at hn ⊢
          rw [getD_app_l (by omega)]
          obtain ⟨h3, h4⟩ := h.new_ a ha d hd hn hp
          refine ⟨by rw [h3, there_app _ h4], ?_⟩
          rcases h4 with h4 | h4
          · exact .inl h4
          · exact .inr (List.mem_append_left _ h4)
        · simp at ha
          subst ha
          rw [plc_new hm, ← h.ltot] at hn
          have := h.lm
          omega
  · have ho : x % 2 = 1 := by
      rcases hx with h | h
      · exact h
      · have h1 := (hv.in h).1
        rcases Nat.mod_two_eq_zero_or_one x with e | e
        · exact absurd ⟨e, h1⟩ hr
        · exact e
    have e1 : come ord x = ord := by unfold come; rw [if_pos (.inl ho)]
    have e2 : mvTo old to mv x = to := if_neg (fun e => hr e.1)
    have e3 : mvMv old to mv x = mv := if_neg (fun e => hr e.1)
    have e4 : mvY old to mv x = x := by unfold mvY; rw [if_neg hr]
    have e5 : there old ord x = x := by unfold there; rw [if_neg (by omega)]
    rw [e1, e2, e3, e4, e5]
    exact ⟨h, rfl⟩
/-- a word that is scanned -/
theorem PI.scan {old st ord to mv : List Nat} {m a d : Nat} (h : PI old st ord to mv m) (hv : Vd old st) (ha : a ∈ ord) (hd : d < szAt old a) (hp : isPart old a d) (hm : plc (szAt old) ord a + d = m)
    (hx : old.getD (a + d) 0 % 2 = 1 ∨ old.getD (a + d) 0 / 2 ∈ st) :
    to.getD m 0 = old.getD (a + d) 0 ∧ PI old st (come ord (old.getD (a + d) 0)) ((mvTo old to mv (old.getD (a + d) 0)).set m (mvY old to mv (old.getD (a + d) 0))) (mvMv old to mv (old.getD (a + d) 0)) (m + 1) := by
  have h0 : to.getD m 0 = old.getD (a + d) 0 := by rw [← hm]; exact h.old_ a ha d hd (fun e => by omega)
  refine ⟨h0, ?_⟩
  obtain ⟨h1, h2⟩ := h.move hv hx
  generalize hxx : old.getD (a + d) 0 = x at *
  obtain ⟨r, hr⟩ := come_pre ord x
  have hpl : plc (szAt old) (come ord x) a + d = m := by rw [hr, plc_app _ ha]; exact hm
  have ha2 : a ∈ come ord x := by rw [hr]; simp [ha]
  have hlt := plc_lt (sz := szAt old) ha2
  have hlen := h1.ltot
  refine ⟨h1.nd, h1.sub, h1.lmv, h1.mvs, by rw [List.length_set]; exact hlen, by rw [List.length_set]; omega, ?_, ?_⟩
  · intro b hb e he hn
    have hne : plc (szAt old) (come ord x) b + e ≠ m := fun h5 => by
      obtain ⟨rfl, rfl⟩ := plc_inj hb ha2 he hd (h5.trans hpl.symm)
      exact hn ⟨by omega, hp⟩
    rw [List.getD_eq_getElem?_getD, List.getElem?_set, if_neg (fun h5 => hne h5.symm), ← List.getD_eq_getElem?_getD]
    exact h1.old_ b hb e he (fun h5 => hn ⟨by omega, h5.2⟩)
  · intro b hb e he hl hpb
    by_cases hne : plc (szAt old) (come ord x) b + e = m
    · obtain ⟨rfl, rfl⟩ := plc_inj hb ha2 he hd (hne.trans hpl.symm)
      rw [hne, List.getD_eq_getElem?_getD, List.getElem?_set, if_pos rfl, if_pos (by omega), hxx]
      exact ⟨h2, come_in⟩
    · rw [List.getD_eq_getElem?_getD, List.getElem?_set, if_neg (fun h5 => hne h5.symm), ← List.getD_eq_getElem?_getD]
      exact h1.new_ b hb e he (by omega) hpb
/-- words that are none of an object's parts are passed over -/
theorem PI.skip {old st ord to mv : List Nat} {m m' : Nat} (h : PI old st ord to mv m) (hm : m ≤ m') (hl : m' ≤ to.length)
    (hn : ∀ a ∈ ord, ∀ d, d < szAt old a → m ≤ plc (szAt old) ord a + d → plc (szAt old) ord a + d < m' → ¬ isPart old a d) : PI old st ord to mv m' := by
  refine ⟨h.nd, h.sub, h.lmv, h.mvs, h.ltot, hl, ?_, ?_⟩
  · intro a ha d hd hne
    exact h.old_ a ha d hd (fun e => hne ⟨by omega, e.2⟩)
  · intro a ha d hd hlt hp
    rcases Nat.lt_or_ge (plc (szAt old) ord a + d) m with h1 | h1
    · exact h.new_ a ha d hd h1 hp
    · exact absurd hp (hn a ha d hd h1 hlt)
theorem PI.start {old st : List Nat} : PI old st [] [] (List.replicate old.length 0) 0 :=
  ⟨List.nodup_nil, fun _ h => (by cases h), (by simp), fun a ha => (by simp [List.getD_eq_getElem?_getD, List.getElem?_replicate, ha]), (by simp [tot]), Nat.le_refl _, fun _ h => (by cases h), fun _ h => (by cases h)⟩
end Go.Proofs.YtdpnnclkkbfihaaDoor

/-
  heap: size; the collector's move.
-/
namespace Go.Proofs.YtdpnnclkkbfihaaDoor
open Go
set_option linter.unusedSimpArgs false
set_option linter.unusedVariables false

theorem needK_ok {w : World} {k n : Nat} (hk : k < 256) (hn : n ≤ 1000000000000000000) : Ret Tryd.prog 10 #[.int .u8 (k : Int), .int .i64 (n : Int)] w fun v w' => v = .int .i64 ((szO (n * 256 + k) : Nat) : Int) ∧ w = w' := by
  refine enterRet (vs := [_, _]) (N := 13) Tryd.func10 rfl rfl rfl ?_
  refine WC.keep [(0, _), (1, _)] ⟨rfl, rfl, trivial⟩ ?_
  refine WC.seq ?_
  refine WC.region ?_
  refine WL.val rfl rfl rfl rfl (r_assign rfl ev_c) ?_
  refine WL.nil ?_
  refine WX.keep [(0, _), (1, _)] ⟨rfl, rfl, trivial⟩ ?_
  refine WX.next ?_
  refine WC.seq ?_
  refine WC.seq ?_
  refine WC.region ?_
  refine WL.val rfl rfl rfl rfl (r_move rfl (ev_t rfl)) ?_
  refine WL.val rfl rfl rfl rfl (r_eql rfl (ev_t rfl) ev_c) ?_
  refine WL.nil ?_
  refine WX.keep [(1, _), (6, _)] ⟨rfl, rfl, trivial⟩ ?_
  refine WX.next ?_
  refine WC.cond rfl (ev_t rfl) (fun hc1 => ?_) (fun hc1 => ?_)
  · try (exfalso; first | (simp at hc1; done) | (simp only [decide_eq_true_eq, decide_eq_false_iff_not, Bool.not_eq_true', Bool.not_eq_false', Bool.not_eq_true, Bool.not_eq_false] at hc1; omega) | omega)
    all_goals
     try simp only [decide_eq_true_eq, decide_eq_false_iff_not, Bool.not_eq_true', Bool.not_eq_false', Bool.not_eq_true, Bool.not_eq_false, Option.isNone_none, Option.isNone_some, Option.isSome_none, Option.isSome_some, ne_eq, Decidable.not_not] at hc1
     refine WC.seq ?_
     refine WC.region ?_
     refine WL.val rfl rfl rfl rfl (r_move rfl (ev_t rfl)) ?_
     first | refine WL.val rfl rfl rfl rfl (r_addN rfl (ev_t rfl) ev_c (by simp only [inK]; omega)) ?_ | refine WL.val rfl rfl rfl rfl (r_add rfl (ev_t rfl) ev_c) ?_
     first | refine WL.val rfl rfl rfl rfl (r_quoN rfl (ev_t rfl) ev_c (by omega) (by omega) (by simp only [inK]; omega)) ?_ | refine WL.val rfl rfl rfl rfl (r_quo rfl (ev_t rfl) ev_c (by omega)) ?_
     first | refine WL.val rfl rfl rfl rfl (r_addN rfl ev_c (ev_t rfl) (by simp only [inK]; omega)) ?_ | refine WL.val rfl rfl rfl rfl (r_add rfl ev_c (ev_t rfl)) ?_
     refine WL.val rfl rfl rfl rfl (r_assign rfl (ev_t rfl)) ?_
     refine WL.nil ?_
     refine WX.keep [(4, _)] ⟨rfl, trivial⟩ ?_
     refine WX.next ?_
     refine WC.ret ?_
     refine WX.thenRet ?_
     refine WX.retE1 rfl rfl ?_
     refine ⟨?_, rfl⟩
     have hk3 : k = 3 := by omega
     subst hk3
     have e : szO (n * 256 + 3) = 1 + (n + 7) / 8 := by unfold szO; rw [if_pos (by omega)]; omega
     rw [e]
     congr 1
  · try (exfalso; first | (simp at hc1; done) | (simp only [decide_eq_true_eq, decide_eq_false_iff_not, Bool.not_eq_true', Bool.not_eq_false', Bool.not_eq_true, Bool.not_eq_false] at hc1; omega) | omega)
    all_goals
     try simp only [decide_eq_true_eq, decide_eq_false_iff_not, Bool.not_eq_true', Bool.not_eq_false', Bool.not_eq_true, Bool.not_eq_false, Option.isNone_none, Option.isNone_some, Option.isSome_none, Option.isSome_some, ne_eq, Decidable.not_not] at hc1
     refine WC.skip ?_
     refine WX.next ?_
     refine WC.seq ?_
     refine WC.region ?_
     refine WL.val rfl rfl rfl rfl (r_move rfl (ev_t rfl)) ?_
     first | refine WL.val rfl rfl rfl rfl (r_addN rfl ev_c (ev_t rfl) (by simp only [inK]; omega)) ?_ | refine WL.val rfl rfl rfl rfl (r_add rfl ev_c (ev_t rfl)) ?_
     refine WL.val rfl rfl rfl rfl (r_assign rfl (ev_t rfl)) ?_
     refine WL.nil ?_
     refine WX.keep [(4, _)] ⟨rfl, trivial⟩ ?_
     refine WX.next ?_
     refine WC.ret ?_
     refine WX.retE1 rfl rfl ?_
     refine ⟨?_, rfl⟩
     have hk3 : k ≠ 3 := by omega
     have e : szO (n * 256 + k) = 1 + n := by unfold szO; rw [if_neg (by omega)]; omega
     rw [e]
     congr 1
theorem hd_n {x : Nat} (hx : x < 18446744073709551616) : IntKind.i64.wrap ((x : Int) / 2 ^ Int.toNat 8) = ((x / 256 : Nat) : Int) := by
  rw [wrap_i64, show (2 : Int) ^ Int.toNat 8 = 256 by decide]
  split <;> omega
theorem hd_k (x : Nat) : IntKind.u8.wrap (x : Int) = ((x % 256 : Nat) : Int) := by rw [wrap_u8]; omega
theorem size_ok {w : World} {D : Nat → Prop} {v : Value} {l : List Nat} {a x : Nat} (hr : Rd w D v l.length 1 (l.map Wd)) (ha : l[a]? = some x) (hx : x < 18446744073709551616) : Ret Tryd.prog 44 #[v, .int .i64 (a : Int)] w fun v' w' => v' = .int .i64 ((szO x : Nat) : Int) ∧ Upd No w w' := by
  have hal := (List.getElem?_eq_some_iff.1 ha).1
  obtain ⟨A, c, rfl, hc⟩ := hr.slice_form
  obtain ⟨b0, off, rfl, _⟩ := hr.open (by omega)
  have hle := hr.le
  refine enterRet (vs := [_, _]) (N := 17) Tryd.func44 rfl rfl rfl ?_
  have hU := Upd.refl No w
  refine WC.keep [(0, _), (1, _)] ⟨rfl, rfl, trivial⟩ ?_
  refine WC.seq ?_
  refine WC.region ?_
  refine WL.val rfl rfl rfl rfl (r_assign rfl ev_c) ?_
  refine WL.nil ?_
  refine WX.keep [(0, _), (1, _)] ⟨rfl, rfl, trivial⟩ ?_
  refine WX.next ?_
  refine WC.seq ?_
  refine WC.draws' (fun u0_ u1_ => Upd No u0_ u1_) (fun j => [0, 0, 0, 0, 0, 0, 0, 0, 1, 0, 0, 2, 0].getD j 0) (.calm 0 (.calm 1 (.calm 2 (.calm 5 (.calm 6 (.calm 7 (.held 3 (.calm 4 (.one 8 (.calm 9 (.calm 10 (.one 11 (.calm 12 (.done)))))))))))))) mixed (by kernel_rfl) (by repeat (first | with_reducible exact Deaf.body | with_reducible apply Deaf.then | with_reducible apply Deaf.block)) ?_
  intro w1 hu1
  have hz1 := congrArg Array.size hu1.2.2.2
  replace hu1 := Upd.of_draw hu1
  have hs1 := hu1.size
  replace hU := hU.transA hu1
  replace hr := hr.upd hu1 (fun k hk hl hS => (show False from hS).elim)
  have hS1 := Upd.refl No w1
  refine WN.calm _ rfl rfl rfl rfl rfl (fun _ => r_move rfl (ev_t rfl)) ?_
  refine WN.calm _ rfl rfl rfl rfl rfl (fun _ => r_move rfl (ev_t rfl)) ?_
  refine WN.calm _ rfl rfl rfl rfl rfl (fun _ => r_indexAddr rfl (ev_t rfl) (ev_t rfl) elem_30 size_32 (by omega) (by omega)) ?_
  refine WN.calm _ rfl rfl rfl rfl rfl (fun _ => r_move rfl (ev_t rfl)) ?_
  refine WN.calm _ rfl rfl rfl rfl rfl (fun _ => r_move rfl (ev_t rfl)) ?_
  refine WN.calm _ rfl rfl rfl rfl rfl (fun _ => r_indexAddr rfl (ev_t rfl) (ev_t rfl) elem_30 size_32 (by omega) (by omega)) ?_
  refine WN.held _ rfl rfl rfl rfl rfl hS1 (fun w' hS => r_load rfl (ev_t rfl) flat_32 ((hr.upd hS (fun _ _ _ h => h)).cell (j := a) (u := Wd x) (show off + (a : Int).toNat * 1 = off + a by omega) (by rw [List.getElem?_map, ha]; rfl))) ?_
  first | refine WN.calm _ rfl rfl rfl rfl rfl (fun _ => r_convN rfl (ev_t rfl) some_32 int_5 (by simp only [inK]; omega)) ?_ | refine WN.calm _ rfl rfl rfl rfl rfl (fun _ => r_conv rfl (ev_t rfl) some_32 int_5) ?_
  refine WN.step _ rfl (SO.val rfl rfl rfl rfl (r_load rfl (ev_t rfl) flat_32 (hr.cell (j := a) (u := Wd x) (show off + (a : Int).toNat * 1 = off + a by omega) (by rw [List.getElem?_map, ha]; rfl))) ?_)
  refine ⟨hS1, ?_⟩
  refine WN.calm _ rfl rfl rfl rfl rfl (fun _ => r_shr rfl (ev_t rfl) ev_c (by omega) (by simp only [IntKind.bits]; omega)) ?_
  first | refine WN.calm _ rfl rfl rfl rfl rfl (fun _ => r_convN rfl (ev_t rfl) some_32 int_3 (by simp only [inK]; omega)) ?_ | refine WN.calm _ rfl rfl rfl rfl rfl (fun _ => r_conv rfl (ev_t rfl) some_32 int_3) ?_
  rw [hd_n hx, hd_k]
  refine WN.step _ rfl (SO.call (needK_ok (k := x % 256) (n := x / 256) (by omega) (by omega)) rfl body_10 ⟨(ev_t rfl), (ev_t rfl), trivial⟩ rfl rfl rfl rfl ?_)
  rintro v w2 ⟨rfl, rfl⟩
  refine ⟨trivial, ?_⟩
  refine WN.calm _ rfl rfl rfl rfl rfl (fun _ => r_assign rfl (ev_t rfl)) ?_
  refine WN.done ?_
  refine WX.keep [(4, _)] ⟨rfl, trivial⟩ ?_
  refine WX.next ?_
  refine WC.ret ?_
  refine WX.retE1 rfl rfl ?_
  exact ⟨by rw [show x / 256 * 256 + x % 256 = x by omega], hU⟩
end Go.Proofs.YtdpnnclkkbfihaaDoor

/-
  heap: the collector's move.
-/
namespace Go.Proofs.YtdpnnclkkbfihaaDoor
open Go
set_option linter.unusedSimpArgs false
set_option linter.unusedVariables false

theorem mvRow_set {mv : List Nat} {a y : Nat} : ((mv.map Wd).toArray.setIfInBounds a (Wd y)) = ((mv.set a y).map Wd).toArray := by
  rw [List.map_set]; simp
theorem half_u64 {x : Nat} : (x : Int) / 2 ^ Int.toNat 1 = ((x / 2 : Nat) : Int) := by
  rw [show (2 : Int) ^ Int.toNat 1 = 2 by decide]; omega
theorem dbl_or {n : Nat} (h : n ≤ 1048576) : bits .or .u64 (IntKind.u64.wrap ((n : Int) * 2 ^ Int.toNat 1)) 1 = ((2 * n + 1 : Nat) : Int) := by
  have e : IntKind.u64.wrap ((n : Int) * 2 ^ Int.toNat 1) = ((2 * n : Nat) : Int) := by
    rw [wrap_u64, show (2 : Int) ^ Int.toNat 1 = 2 by decide]; omega
  rw [e]
  have h2 := bits_or_u64 (2 * n) 1 (by omega) (by decide)
  rw [or_one] at h2
  exact h2
theorem half_i64 {x : Nat} (h : x < 18446744073709551616) : IntKind.i64.wrap ((x : Int) / 2 ^ Int.toNat 1) = ((x / 2 : Nat) : Int) := by
  rw [half_u64, wrap_i64]; split <;> omega
def BI (p : Prop) (w : World) (b : Nat) (cs : Array Value) (T : TypeId) : Prop := p → Blk w b cs T
theorem BI.upd {p : Prop} {w w' : World} {S : Nat → Prop} {b : Nat} {cs : Array Value} {T : TypeId} (h : BI p w b cs T) (hu : Upd S w w') (hn : p → ¬ S b) : BI p w' b cs T := fun hp => (h hp).upd hu (hn hp)
theorem row_app {cur : Array Value} {to news : List Nat} {n m : Nat} (hcs : cur.size = n) (hct : cur.toList.take to.length = to.map Wd) (hm : news.length = m) (hroom : to.length + m ≤ n) :
    (cur.toList.take to.length ++ news.map Wd ++ cur.toList.drop (to.length + m)).toArray.size = n ∧ (cur.toList.take to.length ++ news.map Wd ++ cur.toList.drop (to.length + m)).toArray.toList.take (to.length + m) = (to ++ news).map Wd := by
  have hl : cur.toList.length = n := by rw [Array.length_toList]; exact hcs
  refine ⟨?_, ?_⟩
  · simp only [List.size_toArray, List.length_append, List.length_take, List.length_map, List.length_drop, hl]; omega
  · rw [hct, ← List.map_append]
    exact List.take_left' (by simp; omega)
theorem Blk.inj {w : World} {b : Nat} {cs cs' : Array Value} {T T' : TypeId} (h : Blk w b cs T) (h' : Blk w b cs' T') : cs = cs' := by
  unfold Blk at h h'
  rw [h] at h'
  injection h' with h'
  injection h'
theorem BI.pick {w : World} {b bt : Nat} {cs cur : Array Value} (h : BI (b ≠ bt) w b cs tWord) (h2 : Blk w bt cur tWord) : Blk w b (if b = bt then cur else cs) tWord := by
  by_cases hb : b = bt
  · rw [if_pos hb, hb]; exact h2
  · rw [if_neg hb]; exact h hb
theorem mvTo_get {old to mv : List Nat} {x o y : Nat} (h : to[o]? = some y) : (mvTo old to mv x)[o]? = some y := by
  unfold mvTo
  split
  · rw [List.getElem?_append_left (List.getElem?_eq_some_iff.1 h).1]; exact h
  · exact h
theorem mvY_spec {old to mv : List Nat} {x : Nat} (hlm : mv.length = old.length) (hto : to.length ≤ old.length ∧ old.length ≤ 1048576) (hir : isR old x)
    (hgo : isR old x → x / 2 + szAt old (x / 2) ≤ old.length ∧ (mv.getD (x / 2) 0 = 0 ∧ to.length + szAt old (x / 2) ≤ old.length ∨ ∃ k, mv.getD (x / 2) 0 = 2 * k + 1 ∧ k < 1152921504606846976)) :
    (∃ k, (mvMv old to mv x)[x / 2]? = some (2 * k + 1) ∧ mvY old to mv x = 2 * k ∧ 2 * k + 1 < 18446744073709551616) ∧ (mvMv old to mv x).length = old.length ∧ (mvTo old to mv x).length ≤ old.length := by
  obtain ⟨hg1, hg2⟩ := hgo hir
  have hal := hir.2
  by_cases hz : mv.getD (x / 2) 0 = 0
  · have hroom : to.length + szAt old (x / 2) ≤ old.length := by
      rcases hg2 with h | ⟨k, h, _⟩
      · exact h.2
      · rw [hz] at h; omega
    have f1 : mvTo old to mv x = to ++ objAt old (x / 2) := if_pos ⟨hir, hz⟩
    have f2 : mvMv old to mv x = mv.set (x / 2) (2 * to.length + 1) := if_pos ⟨hir, hz⟩
    have f3 : mvY old to mv x = 2 * to.length := by unfold mvY; rw [if_pos hir, if_pos hz]
    rw [f1, f2, f3]
    refine ⟨⟨to.length, ?_, rfl, by omega⟩, by rw [List.length_set]; exact hlm, by rw [List.length_append, objAt_len hg1]; exact hroom⟩
    rw [List.getElem?_set]
    simp [hlm, hal]
  · have f1 : mvTo old to mv x = to := if_neg (fun h => hz h.2)
    have f2 : mvMv old to mv x = mv := if_neg (fun h => hz h.2)
    have f3 : mvY old to mv x = mv.getD (x / 2) 0 - 1 := by unfold mvY; rw [if_pos hir, if_neg hz]
    rw [f1, f2, f3]
    rcases hg2 with h | ⟨k, h, hk⟩
    · exact absurd h.1 hz
    · refine ⟨⟨k, ?_, by omega, by omega⟩, hlm, hto.1⟩
      rw [List.getD_eq_getElem?_getD] at h
      rw [List.getElem?_eq_getElem (by omega)] at h ⊢
      exact congrArg some h
set_option maxHeartbeats 2000000 in
theorem move_ok {w : World} {D : Nat → Prop} {co cm ct bm bt b o x : Nat} {vo : Value} {old to mv : List Nat} {cs : Array Value} (hC : CS w D co cm ct bm bt vo old to mv)
    (hb : Blk w b cs tWord) (hx : cs[o]? = some (Wd x)) (hx64 : x < 18446744073709551616) (hbm : b ≠ bm) (hbD : ¬ D b) (hcase : b = bt → o < to.length)
    (hgo : isR old x → x / 2 + szAt old (x / 2) ≤ old.length ∧ (mv.getD (x / 2) 0 = 0 ∧ to.length + szAt old (x / 2) ≤ old.length ∨ ∃ k, mv.getD (x / 2) 0 = 2 * k + 1 ∧ k < 1152921504606846976))
    (hold : ∀ y ∈ old, y < 18446744073709551616) :
    Ret Tryd.prog 43 #[.pointer (some ⟨b, o, none⟩), .pointer (some ⟨co, 0, none⟩), .pointer (some ⟨cm, 0, none⟩), .pointer (some ⟨ct, 0, none⟩)] w fun _ w' => ∃ to2, CS w' D co cm ct bm bt vo old to2 (mvMv old to mv x) ∧
      (b ≠ bt → to2 = mvTo old to mv x ∧ Blk w' b (cs.setIfInBounds o (Wd (mvY old to mv x))) tWord) ∧ (b = bt → to2 = (mvTo old to mv x).set o (mvY old to mv x)) ∧ Upd (fun k => k = ct ∨ k = bm ∨ k = bt ∨ k = b) w w' := by
  obtain ⟨ho, hm, ht, ro, rm, ⟨cur, rt, hcs, hct⟩, hne, hnD, hlm, hle⟩ := hC
  obtain ⟨Ao, ko, rfl, hko⟩ := ro.slice_form
  have q1 := Blk.ne ho rm (by decide)
  have q2 := Blk.ne ho rt (by decide)
  have q3 := Blk.ne hm rm (by decide)
  have q4 := Blk.ne hm rt (by decide)
  have q5 := Blk.ne ht rm (by decide)
  have q6 := Blk.ne ht rt (by decide)
  have q7 := Blk.ne ho hb (by decide)
  have q8 := Blk.ne hm hb (by decide)
  have q9 := Blk.ne ht hb (by decide)
  obtain ⟨n1, n2, n3⟩ := hne
  have hxt : b = bt → to[o]? = some x := fun h => by
    have ecs : cs = cur := by rw [h] at hb; exact hb.inj rt
    have h1 : (to.map Wd)[o]? = some (Wd x) := by
      rw [← hct, List.getElem?_take_of_lt (hcase h), Array.getElem?_toList, ← ecs, hx]
    rw [List.getElem?_map] at h1
    cases h2 : to[o]? with
    | none => rw [h2] at h1; cases h1
    | some y =>
      rw [h2] at h1
      simp [Wd] at h1
      have h3 : y = x := by omega
      rw [h3]
  refine enterRet (vs := [_, _, _, _]) (N := 55) Tryd.func43 rfl rfl rfl ?_
  have hU := Upd.refl (fun k => k = ct ∨ k = bm ∨ k = bt ∨ k = b) w
  refine WC.keep [(0, _), (1, _), (2, _), (3, _)] ⟨rfl, rfl, rfl, rfl, trivial⟩ ?_
  refine WC.seq ?_
  refine WC.seq ?_
  refine WC.draws' (fun u0_ u1_ => Upd No u0_ u1_) (fun j => [0, 0, 1, 1, 0, 0, 0, 0, 0, 1, 0, 0, 0, 0].getD j 0) (.calm 0 (.calm 1 (.one 2 (.one 3 (.calm 4 (.calm 5 (.calm 6 (.held 7 (.calm 8 (.one 9 (.calm 10 (.calm 11 (.calm 12 (.calm 13 (.done))))))))))))))) mixed (by kernel_rfl) (by repeat (first | with_reducible exact Deaf.body | with_reducible apply Deaf.then)) ?_
  intro w1 hu1
  have hz1 := congrArg Array.size hu1.2.2.2
  replace hu1 := Upd.of_draw hu1
  have hs1 := hu1.size
  replace hU := hU.trans hu1 (by exact (fun _ _ h => h.elim))
  replace ho := ho.upd hu1 (fun hS => by exact (show False from hS))
  replace hm := hm.upd hu1 (fun hS => by exact (show False from hS))
  replace ht := ht.upd hu1 (fun hS => by exact (show False from hS))
  replace ro := ro.upd hu1 (fun k hk hl hS => by exact (show False from hS).elim)
  replace rm := rm.upd hu1 (fun hS => by exact (show False from hS))
  replace rt := rt.upd hu1 (fun hS => by exact (show False from hS))
  replace hb := hb.upd hu1 (fun hS => by exact (show False from hS))
  have hS0 := Upd.refl No w1
  refine WN.calm _ rfl rfl rfl rfl rfl (fun _ => r_move rfl (ev_t rfl)) ?_
  refine WN.calm _ rfl rfl rfl rfl rfl (fun _ => r_nilCheck rfl (ev_t rfl)) ?_
  refine WN.step _ rfl (SO.val rfl rfl rfl rfl (r_load rfl (ev_t rfl) flat_32 (Blk.cell hb hx)) ?_)
  refine ⟨hS0, ?_⟩
  refine WN.step _ rfl (SO.call (isNum_ok hx64) rfl body_19 ⟨(ev_t rfl), trivial⟩ rfl rfl rfl rfl ?_)
  rintro v w2 ⟨rfl, rfl⟩
  refine ⟨hS0, ?_⟩
  refine WN.calm _ rfl rfl rfl rfl rfl (fun _ => r_move rfl (ev_t rfl)) ?_
  refine WN.cases 10 rfl (fun hb0_4 => ?_) (fun hb0_4 => ?_)
  · try (exfalso; first | (simp at hb0_4; done) | (simp only [decide_eq_true_eq, decide_eq_false_iff_not, Bool.not_eq_true', Bool.not_eq_false', Bool.not_eq_true, Bool.not_eq_false] at hb0_4; omega) | omega)
    all_goals
     try simp only [decide_eq_true_eq, decide_eq_false_iff_not, Bool.not_eq_true', Bool.not_eq_false', Bool.not_eq_true, Bool.not_eq_false, Option.isNone_none, Option.isNone_some, Option.isSome_none, Option.isSome_some, ne_eq, Decidable.not_not] at hb0_4
     refine WN.skip _ rfl rfl rfl rfl ?_
     refine WN.skip _ rfl rfl rfl rfl ?_
     refine WN.heldSkip _ rfl rfl rfl rfl hS0 ?_
     refine WN.skip _ rfl rfl rfl rfl ?_
     refine WN.step _ rfl (SO.skip rfl rfl rfl ?_)
     refine ⟨hS0, ?_⟩
     refine WN.skip _ rfl rfl rfl rfl ?_
     refine WN.skip _ rfl rfl rfl rfl ?_
     refine WN.skip _ rfl rfl rfl rfl ?_
     refine WN.calm _ rfl rfl rfl rfl rfl (fun _ => r_pickT rfl (ev_t rfl) ev_c) ?_
     refine WN.done ?_
     refine WX.keep [(0, _), (1, _), (2, _), (3, _), (19, _)] ⟨rfl, rfl, rfl, rfl, rfl, trivial⟩ ?_
     refine WX.next ?_
     refine WC.cond_true rfl (ev_t rfl) ?_
     refine WC.ret ?_
     refine WX.thenRet ?_
     refine WX.retE (l := []) (vs := []) rfl trivial ?_
     try rw [half_u64] at hc0
     have hnr : ¬ isR old x := by
       unfold isR
       omega
     have e1 : mvTo old to mv x = to := if_neg (fun h => hnr h.1)
     have e2 : mvMv old to mv x = mv := if_neg (fun h => hnr h.1)
     have e3 : mvY old to mv x = x := if_neg hnr
     rw [e1, e2, e3]
     have ho1 : o < cs.size := (Array.getElem?_eq_some_iff.1 hx).1
     have e4 : cs.setIfInBounds o (Wd x) = cs := by
       apply Array.ext_getElem?
       intro i
       rw [Array.getElem?_setIfInBounds]
       split
       · rename_i h; subst h; first | rw [hx] | rw [if_pos ho1, hx]
       · rfl
     refine ⟨to, ⟨ho, hm, ht, ro, rm, ⟨cur, rt, hcs, hct⟩, ⟨n1, n2, n3⟩, hnD, hlm, hle⟩, fun _ => ⟨rfl, by rw [e4]; exact hb⟩, fun h => ?_, hU⟩
     have ho2 := hcase h
     have e5 := hxt h
     apply List.ext_getElem?
     intro i
     rw [List.getElem?_set]
     split
     · rename_i h; subst h; first | rw [e5] | rw [if_pos ho2, e5]
     · rfl
  · try (exfalso; first | (simp at hb0_4; done) | (simp only [decide_eq_true_eq, decide_eq_false_iff_not, Bool.not_eq_true', Bool.not_eq_false', Bool.not_eq_true, Bool.not_eq_false] at hb0_4; omega) | omega)
    all_goals
     try simp only [decide_eq_true_eq, decide_eq_false_iff_not, Bool.not_eq_true', Bool.not_eq_false', Bool.not_eq_true, Bool.not_eq_false, Option.isNone_none, Option.isNone_some, Option.isSome_none, Option.isSome_some, ne_eq, Decidable.not_not] at hb0_4
     refine WN.calm _ rfl rfl rfl rfl rfl (fun _ => r_move rfl (ev_t rfl)) ?_
     refine WN.calm _ rfl rfl rfl rfl rfl (fun _ => r_nilCheck rfl (ev_t rfl)) ?_
     refine WN.held _ rfl rfl rfl rfl rfl hS0 (fun w' hS => r_load rfl (ev_t rfl) flat_32 (Blk.cell (hb.upd hS (fun h => h)) hx)) ?_
     refine WN.calm _ rfl rfl rfl rfl rfl (fun _ => r_shr rfl (ev_t rfl) ev_c (by omega) (by simp only [IntKind.bits]; omega)) ?_
     refine WN.step _ rfl (SO.val rfl rfl rfl rfl (r_load rfl (ev_t rfl) flat_30 (Blk.cell ho rfl)) ?_)
     refine ⟨hS0, ?_⟩
     refine WN.calm _ rfl rfl rfl rfl rfl (fun _ => r_lenSlice (ts := #[]) rfl (ev_t rfl) elem_30) ?_
     refine WN.calm _ rfl rfl rfl rfl rfl (fun _ => r_convN rfl (ev_t rfl) some_3 int_32 (by simp only [inK]; omega)) ?_
     refine WN.calm _ rfl rfl rfl rfl rfl (fun _ => r_geq rfl (ev_t rfl) (ev_t rfl)) ?_
     refine WN.calm _ rfl rfl rfl rfl rfl (fun _ => r_pickF rfl (ev_t rfl) (ev_t rfl)) ?_
     refine WN.done ?_
     refine WX.keep [(0, _), (1, _), (2, _), (3, _), (19, _)] ⟨rfl, rfl, rfl, rfl, rfl, trivial⟩ ?_
     refine WX.next ?_
     refine WC.cond rfl (ev_t rfl) (fun hc0 => ?_) (fun hc0 => ?_)
     · try (exfalso; first | (simp at hc0; done) | (simp only [decide_eq_true_eq, decide_eq_false_iff_not, Bool.not_eq_true', Bool.not_eq_false', Bool.not_eq_true, Bool.not_eq_false] at hc0; omega) | omega)
       all_goals
        try simp only [decide_eq_true_eq, decide_eq_false_iff_not, Bool.not_eq_true', Bool.not_eq_false', Bool.not_eq_true, Bool.not_eq_false, Option.isNone_none, Option.isNone_some, Option.isSome_none, Option.isSome_some, ne_eq, Decidable.not_not] at hc0
        refine WC.ret ?_
        refine WX.thenRet ?_
        refine WX.retE (l := []) (vs := []) rfl trivial ?_
        try rw [half_u64] at hc0
        have hnr : ¬ isR old x := by
          unfold isR
          omega
        have e1 : mvTo old to mv x = to := if_neg (fun h => hnr h.1)
        have e2 : mvMv old to mv x = mv := if_neg (fun h => hnr h.1)
        have e3 : mvY old to mv x = x := if_neg hnr
        rw [e1, e2, e3]
        have ho1 : o < cs.size := (Array.getElem?_eq_some_iff.1 hx).1
        have e4 : cs.setIfInBounds o (Wd x) = cs := by
          apply Array.ext_getElem?
          intro i
          rw [Array.getElem?_setIfInBounds]
          split
          · rename_i h; subst h; first | rw [hx] | rw [if_pos ho1, hx]
          · rfl
        refine ⟨to, ⟨ho, hm, ht, ro, rm, ⟨cur, rt, hcs, hct⟩, ⟨n1, n2, n3⟩, hnD, hlm, hle⟩, fun _ => ⟨rfl, by rw [e4]; exact hb⟩, fun h => ?_, hU⟩
        have ho2 := hcase h
        have e5 := hxt h
        apply List.ext_getElem?
        intro i
        rw [List.getElem?_set]
        split
        · rename_i h; subst h; first | rw [e5] | rw [if_pos ho2, e5]
        · rfl
     · try (exfalso; first | (simp at hc0; done) | (simp only [decide_eq_true_eq, decide_eq_false_iff_not, Bool.not_eq_true', Bool.not_eq_false', Bool.not_eq_true, Bool.not_eq_false] at hc0; omega) | omega)
       all_goals
        try simp only [decide_eq_true_eq, decide_eq_false_iff_not, Bool.not_eq_true', Bool.not_eq_false', Bool.not_eq_true, Bool.not_eq_false, Option.isNone_none, Option.isNone_some, Option.isSome_none, Option.isSome_some, ne_eq, Decidable.not_not] at hc0
        rw [half_u64] at hc0
        have hir : isR old x := by
          unfold isR
          omega
        obtain ⟨hg1, hg2⟩ := hgo hir
        have hal : x / 2 < old.length := hir.2
        obtain ⟨boo, oo, rfl, _⟩ := ro.open (by omega)
        have hmv : mv[x / 2]? = some (mv.getD (x / 2) 0) := by rw [List.getD_eq_getElem?_getD, List.getElem?_eq_getElem (by omega)]; rfl
        refine WC.skip ?_
        refine WX.next ?_
        refine WC.seq ?_
        refine WC.region ?_
        refine WL.val rfl rfl rfl rfl (r_move rfl (ev_t rfl)) ?_
        refine WL.val rfl rfl rfl rfl (r_nilCheck rfl (ev_t rfl)) ?_
        refine WL.val rfl rfl rfl rfl (r_load rfl (ev_t rfl) flat_32 (Blk.cell hb hx)) ?_
        refine WL.val rfl rfl rfl rfl (r_shr rfl (ev_t rfl) ev_c (by omega) (by simp only [IntKind.bits]; omega)) ?_
        refine WL.val rfl rfl rfl rfl (r_conv rfl (ev_t rfl) some_32 int_3) ?_
        rw [half_i64 hx64]
        refine WL.val rfl rfl rfl rfl (r_assign rfl (ev_t rfl)) ?_
        refine WL.nil ?_
        refine WX.keep [(0, _), (1, _), (2, _), (3, _), (5, _)] ⟨rfl, rfl, rfl, rfl, rfl, trivial⟩ ?_
        refine WX.next ?_
        -- cut 2: live [0, 2, 5]
        refine WC.cut (fun E wB => ∃ (cur2 cs2 : Array Value), Upd (fun k => k = ct ∨ k = bm ∨ k = bt ∨ k = b) w wB ∧ Blk wB co #[.slice (some ⟨boo, oo, none⟩) old.length ko] 30 ∧ Blk wB cm #[.slice (some ⟨bm, 0, none⟩) old.length old.length] 30 ∧ Blk wB ct #[.slice (some ⟨bt, 0, none⟩) (mvTo old to mv x).length old.length] 30 ∧ Rd wB D (.slice (some ⟨boo, oo, none⟩) old.length ko) old.length 1 (old.map Wd) ∧ Blk wB bm ((mvMv old to mv x).map Wd).toArray tWord ∧ Blk wB bt cur2 tWord ∧ cur2.size = old.length ∧ cur2.toList.take (mvTo old to mv x).length = (mvTo old to mv x).map Wd ∧ Blk wB b cs2 tWord ∧ (b ≠ bt → cs2 = cs) ∧ (b = bt → cs2 = cur2) ∧ E = [(0, .pointer (some ⟨b, o, none⟩)), (2, .pointer (some ⟨cm, 0, none⟩)), (5, .int .i64 ((x / 2 : Nat) : Int))]) ?_ ?_
        · refine WC.seq ?_
          refine WC.region ?_
          refine WL.val rfl rfl rfl rfl (r_load rfl (ev_t rfl) flat_30 (Blk.cell hm rfl)) ?_
          refine WL.val rfl rfl rfl rfl (r_move rfl (ev_t rfl)) ?_
          refine WL.val rfl rfl rfl rfl (r_indexAddr rfl (ev_t rfl) (ev_t rfl) elem_30 size_32 (by omega) (by omega)) ?_
          refine WL.val rfl rfl rfl rfl (r_load rfl (ev_t rfl) flat_32 (Blk.cell rm (by rw [show 0 + ((x / 2 : Nat) : Int).toNat * 1 = x / 2 by omega, List.getElem?_toArray, List.getElem?_map, hmv]; rfl))) ?_
          refine WL.val rfl rfl rfl rfl (r_eql rfl (ev_t rfl) ev_c) ?_
          refine WL.nil ?_
          refine WX.keep [(0, _), (1, _), (2, _), (3, _), (5, _), (29, _)] ⟨rfl, rfl, rfl, rfl, rfl, rfl, trivial⟩ ?_
          refine WX.next ?_
          refine WC.cond rfl (ev_t rfl) (fun hc2 => ?_) (fun hc2 => ?_)
          · try (exfalso; first | (simp at hc2; done) | (simp only [decide_eq_true_eq, decide_eq_false_iff_not, Bool.not_eq_true', Bool.not_eq_false', Bool.not_eq_true, Bool.not_eq_false] at hc2; omega) | omega)
            all_goals
             try simp only [decide_eq_true_eq, decide_eq_false_iff_not, Bool.not_eq_true', Bool.not_eq_false', Bool.not_eq_true, Bool.not_eq_false, Option.isNone_none, Option.isNone_some, Option.isSome_none, Option.isSome_some, ne_eq, Decidable.not_not] at hc2
             have hmz : mv.getD (x / 2) 0 = 0 := by omega
             have hroom : to.length + szAt old (x / 2) ≤ old.length := by
               rcases hg2 with h | ⟨k, h, _⟩
               · exact h.2
               · rw [hmz] at h; omega
             clear hg2 hgo
             have hhd : old[x / 2]? = some (old.getD (x / 2) 0) := by rw [List.getD_eq_getElem?_getD, List.getElem?_eq_getElem hal]; rfl
             have hh64 := hold _ (List.mem_of_getElem? hhd)
             have hszp := szAt_pos old (x / 2)
             have hsz : szAt old (x / 2) = szO (old.getD (x / 2) 0) := rfl
             have hbi : BI (b ≠ bt) _ b cs tWord := fun _ => hb
             refine WC.seq ?_
             refine WC.region ?_
             refine WL.val rfl rfl rfl rfl (r_load rfl (ev_t rfl) flat_30 (Blk.cell hm rfl)) ?_
             refine WL.val rfl rfl rfl rfl (r_move rfl (ev_t rfl)) ?_
             refine WL.val rfl rfl rfl rfl (r_load rfl (ev_t rfl) flat_30 (Blk.cell ht rfl)) ?_
             refine WL.val rfl rfl rfl rfl (r_lenSlice (ts := #[]) rfl (ev_t rfl) elem_30) ?_
             refine WL.val rfl rfl rfl rfl (r_convN rfl (ev_t rfl) some_3 int_32 (by simp only [inK]; omega)) ?_
             refine WL.val rfl rfl rfl rfl (r_shl rfl (ev_t rfl) ev_c (by omega) (by simp only [IntKind.bits]; omega)) ?_
             refine WL.val rfl rfl rfl rfl (r_or rfl (ev_t rfl) ev_c) ?_
             rw [dbl_or (n := to.length) (by omega)]
             refine WL.val rfl rfl rfl rfl (r_indexAddr rfl (ev_t rfl) (ev_t rfl) elem_30 size_32 (by omega) (by omega)) ?_
             refine WL.cons (SO.store rfl (ev_t rfl) (ev_t rfl) size_32 rm (by rw [Nat.blt_eq]; simp; omega) rfl rfl rfl rfl ?_)
             intro w3 hu3 rm2 hz3
             rw [show 0 + ((x / 2 : Nat) : Int).toNat * 1 = x / 2 by omega, show Value.int IntKind.u64 ((2 * to.length + 1 : Nat) : Int) = Wd (2 * to.length + 1) from rfl, mvRow_set] at rm2
             have hs3 := hu3.size
             replace hU := hU.trans hu3 (by (intro k hl hk; (try simp only [At, New, Grow, From, No] at hk ⊢); omega))
             replace ho := ho.upd hu3 (fun hS => by (simp only [At] at hS; omega))
             replace hm := hm.upd hu3 (fun hS => by (simp only [At] at hS; omega))
             replace ht := ht.upd hu3 (fun hS => by (simp only [At] at hS; omega))
             replace ro := ro.upd hu3 (fun k hk hl hS => by (simp only [At] at hS; subst hS; first | exact hnD.1 hk | exact hnD.2.1 hk | exact hnD.2.2 hk | exact hbD hk))
             replace rt := rt.upd hu3 (fun hS => by (simp only [At] at hS; omega))
             replace hbi := hbi.upd hu3 (fun hp hS => by (simp only [At] at hS; omega))
             have rm := rm2
             refine WL.nil ?_
             refine WX.keep [(0, _), (1, _), (2, _), (3, _), (5, _)] ⟨rfl, rfl, rfl, rfl, rfl, trivial⟩ ?_
             refine WX.next ?_
             refine WC.draws' (fun u0_ u1_ => Upd (fun k => k = bt) u0_ u1_) (fun j => [0, 0, 0, 0, 1, 0, 1, 0, 0, 2, 2].getD j 0) (.calm 2 (.calm 3 (.calm 5 (.held 0 (.held 1 (.one 4 (.one 6 (.calm 7 (.calm 8 (.one 9 (.one 10 (.done)))))))))))) mixed (by kernel_rfl) (by repeat (first | with_reducible exact Deaf.body | with_reducible apply Deaf.then)) ?_
             intro w4 hu4
             have hz4 := congrArg Array.size hu4.2.2.2
             replace hu4 := Upd.of_draw hu4
             have hs4 := hu4.size
             replace hU := hU.trans hu4 (by exact (fun _ _ h => h.elim))
             replace ho := ho.upd hu4 (fun hS => by exact (show False from hS))
             replace hm := hm.upd hu4 (fun hS => by exact (show False from hS))
             replace ht := ht.upd hu4 (fun hS => by exact (show False from hS))
             replace ro := ro.upd hu4 (fun k hk hl hS => by exact (show False from hS).elim)
             replace rt := rt.upd hu4 (fun hS => by exact (show False from hS))
             replace hbi := hbi.upd hu4 (fun hp hS => by exact (show False from hS))
             replace rm := rm.upd hu4 (fun hS => by exact (show False from hS))
             have hS4 := Upd.refl (fun k => k = bt) w4
             refine WN.calm _ rfl rfl rfl rfl rfl (fun _ => r_move rfl (ev_t rfl)) ?_
             refine WN.calm _ rfl rfl rfl rfl rfl (fun _ => r_move rfl (ev_t rfl)) ?_
             refine WN.calm _ rfl rfl rfl rfl rfl (fun _ => r_move rfl (ev_t rfl)) ?_
             refine WN.held _ rfl rfl rfl rfl rfl hS4 (fun w' hS => r_load rfl (ev_t rfl) flat_30 (Blk.cell (ht.upd hS (by (try simp only [At, From, No, Grow, New]); omega)) rfl)) ?_
             refine WN.held _ rfl rfl rfl rfl rfl hS4 (fun w' hS => r_load rfl (ev_t rfl) flat_30 (Blk.cell (ho.upd hS (by (try simp only [At, From, No, Grow, New]); omega)) rfl)) ?_
             refine WN.step _ rfl (SO.val rfl rfl rfl rfl (r_load rfl (ev_t rfl) flat_30 (Blk.cell ho rfl)) ?_)
             refine ⟨hS4, ?_⟩
             refine WN.step _ rfl (SO.call (size_ok ro hhd hh64) rfl body_44 ⟨(ev_t rfl), (ev_t rfl), trivial⟩ rfl rfl rfl rfl ?_)
             rintro v w5 ⟨rfl, hu5⟩
             have hs5 := hu5.size
             replace hS4 := Upd.trans hS4 hu5 (by intro k hl hk; exact (show False from hk).elim)
             replace hU := hU.trans hu5 (by exact (fun _ _ h => h.elim))
             replace ho := ho.upd hu5 (fun hS => by exact (show False from hS))
             replace hm := hm.upd hu5 (fun hS => by exact (show False from hS))
             replace ht := ht.upd hu5 (fun hS => by exact (show False from hS))
             replace ro := ro.upd hu5 (fun k hk hl hS => by exact (show False from hS).elim)
             replace rt := rt.upd hu5 (fun hS => by exact (show False from hS))
             replace hbi := hbi.upd hu5 (fun hp hS => by exact (show False from hS))
             replace rm := rm.upd hu5 (fun hS => by exact (show False from hS))
             refine ⟨hS4, ?_⟩
             refine WN.calm _ rfl rfl rfl rfl rfl (fun _ => r_addN rfl (ev_t rfl) (ev_t rfl) (by simp only [inK]; omega)) ?_
             refine WN.calm _ rfl rfl rfl rfl rfl (fun _ => r_slice (l := x / 2) (h := x / 2 + szAt old (x / 2)) rfl (ev_t rfl) elem_30 size_32 (bnd_some (ev_t rfl) (by omega)) (bnd_some (ev_t rfl) (by omega)) (by omega) (by omega) (by omega)) ?_
             have hsl := ro.slice (l := x / 2) (h := x / 2 + szAt old (x / 2)) (by omega) hg1
             rw [Nat.add_sub_cancel_left, Nat.mul_one, Nat.mul_one, ← List.map_drop, ← List.map_take] at hsl
             rw [Nat.add_sub_cancel_left]
             refine WN.step _ rfl (SO.appendRoom (by_ := 8) (z := .int .u64 0) rt hsl row_30 (fun u hu => by obtain ⟨y, _, rfl⟩ := List.mem_map.1 hu; rfl) hroom hcs (by omega) rfl (ev_t rfl) (ev_t rfl) rfl rfl rfl rfl ?_)
             intro w6 hu6 rt2 hz4
             have hs6 := hu6.size
             try replace hS4 := Upd.trans hS4 hu6 (by intro k hl hk; (simp only [At] at hk; omega))
             replace hU := hU.trans hu6 (by (intro k hl hk; (try simp only [At, New, Grow, From, No] at hk ⊢); omega))
             replace ho := ho.upd hu6 (fun hS => by (simp only [At] at hS; omega))
             replace hm := hm.upd hu6 (fun hS => by (simp only [At] at hS; omega))
             replace ht := ht.upd hu6 (fun hS => by (simp only [At] at hS; omega))
             replace ro := ro.upd hu6 (fun k hk hl hS => by (simp only [At] at hS; subst hS; first | exact hnD.1 hk | exact hnD.2.1 hk | exact hnD.2.2 hk | exact hbD hk))
             replace hbi := hbi.upd hu6 (fun hp hS => by (simp only [At] at hS; omega))
             replace rm := rm.upd hu6 (fun hS => by (simp only [At] at hS; omega))
             clear rt
             refine ⟨trivial, ?_⟩
             refine WN.step _ rfl (SO.store rfl (ev_t rfl) (ev_t rfl) size_30 ht rfl rfl rfl rfl rfl ?_)
             intro w7 hu7 ht hz7
             have hs7 := hu7.size
             try replace hS4 := Upd.trans hS4 hu7 (by intro k hl hk; first | exact (show False from hk).elim | (simp only [At] at hk; omega))
             replace hU := hU.trans hu7 (by (intro k hl hk; (try simp only [At, New, Grow, From, No] at hk ⊢); omega))
             replace ho := ho.upd hu7 (fun hS => by (simp only [At] at hS; omega))
             replace hm := hm.upd hu7 (fun hS => by (simp only [At] at hS; omega))
             replace ro := ro.upd hu7 (fun k hk hl hS => by (simp only [At] at hS; subst hS; first | exact hnD.1 hk | exact hnD.2.1 hk | exact hnD.2.2 hk | exact hbD hk))
             replace hbi := hbi.upd hu7 (fun hp hS => by (simp only [At] at hS; omega))
             replace rm := rm.upd hu7 (fun hS => by (simp only [At] at hS; omega))
             replace rt2 := rt2.upd hu7 (fun hS => by (simp only [At] at hS; omega))
             refine ⟨trivial, ?_⟩
             refine WN.done ?_
             refine WX.keep [(0, _), (2, _), (5, _)] ⟨rfl, rfl, rfl, trivial⟩ ?_
             refine WX.meet [(0, _), (2, _), (5, _)] ⟨rfl, rfl, rfl, trivial⟩ ?_
             first
               | (have f1 : mvTo old to mv x = to ++ objAt old (x / 2) := if_pos ⟨hir, hmz⟩
                  have f2 : mvMv old to mv x = mv.set (x / 2) (2 * to.length + 1) := if_pos ⟨hir, hmz⟩
                  obtain ⟨r1, r2⟩ := row_app hcs hct (objAt_len hg1) hroom
                  have eL : (to ++ objAt old (x / 2)).length = to.length + szAt old (x / 2) := by rw [List.length_append, objAt_len hg1]
                  rw [f1, f2, eL]
                  exact ⟨_, _, hU, ho, hm, ht, ro, rm, rt2, r1, r2, hbi.pick rt2, fun h => if_neg h, fun h => if_pos h, rfl⟩)
          · try (exfalso; first | (simp at hc2; done) | (simp only [decide_eq_true_eq, decide_eq_false_iff_not, Bool.not_eq_true', Bool.not_eq_false', Bool.not_eq_true, Bool.not_eq_false] at hc2; omega) | omega)
            all_goals
             try simp only [decide_eq_true_eq, decide_eq_false_iff_not, Bool.not_eq_true', Bool.not_eq_false', Bool.not_eq_true, Bool.not_eq_false, Option.isNone_none, Option.isNone_some, Option.isSome_none, Option.isSome_some, ne_eq, Decidable.not_not] at hc2
             refine WC.skip ?_
             refine WX.meet [(0, _), (2, _), (5, _)] ⟨rfl, rfl, rfl, trivial⟩ ?_
             first
               | (have hmn : ¬ mv.getD (x / 2) 0 = 0 := by omega
                  have f1 : mvTo old to mv x = to := if_neg (fun h => hmn h.2)
                  have f2 : mvMv old to mv x = mv := if_neg (fun h => hmn h.2)
                  rw [f1, f2]
                  exact ⟨_, _, hU, ho, hm, ht, ro, rm, rt, hcs, hct, hb, fun _ => rfl, fun h => by subst h; exact hb.inj rt, rfl⟩)
        · clear hU ho hm ht ro rm rt hb hcs hct
          rintro E wB ⟨cur2, cs2, hU, ho, hm, ht, ro, rm, rt, hcs, hct, hb, hb1, hb2, rfl⟩
          obtain ⟨⟨k, hk1, hk2, hk3⟩, hlm2, hlt2⟩ := mvY_spec hlm hle hir hgo
          clear hgo hg2
          have hx2 : cs2[o]? = some (Wd x) := by
            by_cases hbb : b = bt
            · rw [hb2 hbb, ← Array.getElem?_toList]
              have h1 := mvTo_get (old := old) (mv := mv) (x := x) (hxt hbb)
              have h2 : ((mvTo old to mv x).map Wd)[o]? = some (Wd x) := by rw [List.getElem?_map, h1]; rfl
              rw [← hct] at h2
              rw [← h2, List.getElem?_take_of_lt]
              exact (List.getElem?_eq_some_iff.1 h1).1
            · rw [hb1 hbb]; exact hx
          have ho2 : o < cs2.size := (Array.getElem?_eq_some_iff.1 hx2).1
          refine WC.region ?_
          refine WL.val rfl rfl rfl rfl (r_move rfl (ev_t rfl)) ?_
          refine WL.val rfl rfl rfl rfl (r_load rfl (ev_t rfl) flat_30 (Blk.cell hm rfl)) ?_
          refine WL.val rfl rfl rfl rfl (r_move rfl (ev_t rfl)) ?_
          refine WL.val rfl rfl rfl rfl (r_indexAddr rfl (ev_t rfl) (ev_t rfl) elem_30 size_32 (by omega) (by omega)) ?_
          refine WL.val rfl rfl rfl rfl (r_load rfl (ev_t rfl) flat_32 (Blk.cell rm (by rw [show 0 + ((x / 2 : Nat) : Int).toNat * 1 = x / 2 by omega, List.getElem?_toArray, List.getElem?_map, hk1]; rfl))) ?_
          refine WL.val rfl rfl rfl rfl (r_andNot rfl (ev_t rfl) ev_c) ?_
          refine WL.val rfl rfl rfl rfl (r_nilCheck rfl (ev_t rfl)) ?_
          rw [andNot_odd k hk3]
          have hrti : BI (b ≠ bt) _ bt cur2 tWord := fun _ => rt
          refine WL.cons (SO.store rfl (ev_t rfl) (ev_t rfl) size_32 hb (by rw [Nat.blt_eq]; exact ho2) rfl rfl rfl rfl ?_)
          intro w8 hu8 hb3 hz5
          rw [show Value.int IntKind.u64 ((2 * k : Nat) : Int) = Wd (2 * k) from rfl] at hb3
          have hs8 := hu8.size
          replace hU := hU.trans hu8 (by (intro k hl hk; (try simp only [At, New, Grow, From, No] at hk ⊢); omega))
          replace ho := ho.upd hu8 (fun hS => by (simp only [At] at hS; omega))
          replace hm := hm.upd hu8 (fun hS => by (simp only [At] at hS; omega))
          replace ht := ht.upd hu8 (fun hS => by (simp only [At] at hS; omega))
          replace ro := ro.upd hu8 (fun k hk hl hS => by (simp only [At] at hS; subst hS; first | exact hnD.1 hk | exact hnD.2.1 hk | exact hnD.2.2 hk | exact hbD hk))
          replace rm := rm.upd hu8 (fun hS => by (simp only [At] at hS; omega))
          replace hrti := hrti.upd hu8 (fun hp hS => by (simp only [At] at hS; omega))
          refine WL.nil ?_
          refine WX.keep [] trivial ?_
          refine WX.endE (l := []) (vs := []) rfl trivial ?_
          by_cases hbb : b = bt
          · refine ⟨(mvTo old to mv x).set o (mvY old to mv x), ⟨ho, hm, by rw [List.length_set]; exact ht, ro, rm, ⟨cs2.setIfInBounds o (Wd (2 * k)), hbb ▸ hb3, ?_, ?_⟩, ⟨n1, n2, n3⟩, hnD, hlm2, by rw [List.length_set]; exact hlt2, hle.2⟩, fun h => absurd hbb h, fun _ => rfl, hU⟩
            · rw [Array.size_setIfInBounds, hb2 hbb]; exact hcs
            · rw [List.length_set, Array.toList_setIfInBounds, List.take_set, hb2 hbb, hct, List.map_set, hk2]
          · refine ⟨_, ⟨ho, hm, ht, ro, rm, ⟨cur2, hrti hbb, hcs, hct⟩, ⟨n1, n2, n3⟩, hnD, hlm2, hlt2, hle.2⟩, fun _ => ⟨rfl, ?_⟩, fun h => absurd h hbb, hU⟩
            rw [hk2, ← hb1 hbb]
            exact hb3
end Go.Proofs.YtdpnnclkkbfihaaDoor

/-
  heap: where roots stand, in memory; the collector's rows.
-/
namespace Go.Proofs.YtdpnnclkkbfihaaDoor
open Go
set_option linter.unusedSimpArgs false
set_option linter.unusedVariables false

def ptrV (e : Nat × Nat) : Value := .pointer (some ⟨e.1, e.2, none⟩)
/-- words at places; what stood in these blocks besides stays -/
structure Roots (w0 w : World) (rl : List (Nat × Nat)) (ys : List Nat) : Prop where
  len : rl.length = ys.length
  blk : ∀ (b : Nat) (cs : Array Value), (∃ o : Nat, (b, o) ∈ rl) → Blk w0 b cs tWord → ∃ cs', Blk w b cs' tWord ∧ cs'.size = cs.size ∧ (∀ o : Nat, (b, o) ∉ rl → cs'[o]? = cs[o]?) ∧ ∀ (i o : Nat), rl[i]? = some (b, o) → ∃ y : Nat, ys[i]? = some y ∧ cs'[o]? = some (Wd y)
theorem Roots.upd {w0 w w' : World} {S : Nat → Prop} {rl : List (Nat × Nat)} {ys : List Nat} (h : Roots w0 w rl ys) (hu : Upd S w w') (hn : ∀ k, (∃ o, (k, o) ∈ rl) → k < w.heap.size → ¬ S k) : Roots w0 w' rl ys := by
  refine ⟨h.len, fun b cs hb hk => ?_⟩
  obtain ⟨cs', h1, h2⟩ := h.blk b cs hb hk
  exact ⟨cs', h1.upd hu (hn b hb h1.lt), h2⟩
theorem Roots.set {w0 w w' : World} {S : Nat → Prop} {rl : List (Nat × Nat)} {ys : List Nat} {i b o y : Nat} {cs0 cs : Array Value} (h : Roots w0 w rl ys) (hnd : rl.Nodup) (hi : rl[i]? = some (b, o)) (hu : Upd S w w') (hn : ∀ k, (∃ o, (k, o) ∈ rl) → k < w.heap.size → k ≠ b → ¬ S k)
    (hb0 : Blk w0 b cs0 tWord) (hb : Blk w b cs tWord) (hb' : Blk w' b (cs.setIfInBounds o (Wd y)) tWord) : Roots w0 w' rl (ys.set i y) := by
  have hmem : ∃ o, (b, o) ∈ rl := ⟨o, List.mem_of_getElem? hi⟩
  have hil : i < rl.length := (List.getElem?_eq_some_iff.1 hi).1
  refine ⟨by rw [List.length_set]; exact h.len, fun b2 cs2 hb2 hk2 => ?_⟩
  obtain ⟨cs', h1, h2, h3, h4⟩ := h.blk b2 cs2 hb2 hk2
  by_cases e : b2 = b
  · subst e
    obtain rfl := h1.inj hb
    refine ⟨_, hb', by rw [Array.size_setIfInBounds]; exact h2, fun o2 ho2 => ?_, fun i2 o2 h5 => ?_⟩
    · have hne : o ≠ o2 := fun e => by subst e; exact ho2 (List.mem_of_getElem? hi)
      rw [Array.getElem?_setIfInBounds_ne hne]
      exact h3 o2 ho2
    · by_cases e : i2 = i
      · subst e
        rw [hi] at h5
        injection h5 with h5
        injection h5 with _ h5
        subst h5
        obtain ⟨y2, h6, h7⟩ := h4 i2 o hi
        refine ⟨y, by rw [List.getElem?_set_self (by rw [← h.len]; exact hil)], ?_⟩
        rw [Array.getElem?_setIfInBounds_self_of_lt (Array.getElem?_eq_some_iff.1 h7).1]
      · have hne : o ≠ o2 := fun e2 => by
          subst e2
          have h8 := (List.getElem?_inj (j := i) (List.getElem?_eq_some_iff.1 h5).1 hnd).1 (h5.trans hi.symm)
          exact e h8
        obtain ⟨y2, h6, h7⟩ := h4 i2 o2 h5
        refine ⟨y2, by rw [List.getElem?_set_ne (fun h => e h.symm)]; exact h6, by rw [Array.getElem?_setIfInBounds_ne hne]; exact h7⟩
  · refine ⟨cs', h1.upd hu (hn b2 hb2 h1.lt e), h2, h3, fun i2 o2 h5 => ?_⟩
    obtain ⟨y2, h6, h7⟩ := h4 i2 o2 h5
    have hne : i ≠ i2 := fun e2 => by
      subst e2
      rw [hi] at h5
      injection h5 with h5
      injection h5 with h5 _
      exact e h5.symm
    exact ⟨y2, by rw [List.getElem?_set_ne hne]; exact h6, h7⟩
theorem CS.cell {w : World} {D : Nat → Prop} {co cm ct bm bt : Nat} {vo : Value} {old to mv : List Nat} (h : CS w D co cm ct bm bt vo old to mv) {i x j : Nat} (hj : j = i) (hx : to[i]? = some x) : w.cell? ⟨bt, j, none⟩ = some (Wd x) := by
  rw [hj]
  obtain ⟨cur, h1, h2, h3⟩ := h.rt
  refine h1.cell ?_
  have h4 : (to.map Wd)[i]? = some (Wd x) := by rw [List.getElem?_map, hx]; rfl
  rw [← h3, List.getElem?_take_of_lt (List.getElem?_eq_some_iff.1 hx).1, Array.getElem?_toList] at h4
  exact h4
theorem CS.own {w : World} {D : Nat → Prop} {co cm ct bm bt : Nat} {vo : Value} {old to mv : List Nat} (h : CS w D co cm ct bm bt vo old to mv) : Own w (At bt) tWord 1 (.slice (some ⟨bt, 0, none⟩) to.length old.length) to.length (to.map Wd) := by
  obtain ⟨cur, h1, h2, h3⟩ := h.rt
  have h4 := h.le
  have := Own.shut (F := At bt) (sz := 1) h1 rfl h4.1 (le_maxLen (by omega)) (by omega)
  rw [Nat.mul_one, h3] at this
  exact this

theorem PI.skipText {old st ord to mv : List Nat} {M a : Nat} (h : PI old st ord to mv M) (ha : a ∈ ord) (hM : plc (szAt old) ord a = M) (hk : old.getD a 0 % 256 = 3) : PI old st ord to mv (M + szAt old a) := by
  have h1 := plc_lt (sz := szAt old) ha
  have h2 := h.ltot
  refine h.skip (by omega) (by omega) fun b hb d hd h3 h4 hp => ?_
  obtain ⟨rfl, _⟩ := plc_inj (sz := szAt old) hb ha (d := d) (d' := plc (szAt old) ord b + d - M) hd (by omega) (by omega)
  exact hp.2 hk
theorem PI.skipHead {old st ord to mv : List Nat} {M a : Nat} (h : PI old st ord to mv M) (ha : a ∈ ord) (hM : plc (szAt old) ord a = M) : PI old st ord to mv (M + 1) := by
  have h1 := plc_lt (sz := szAt old) ha
  have h2 := h.ltot
  have h0 := szAt_pos old a
  refine h.skip (by omega) (by omega) fun b hb d hd h3 h4 hp => ?_
  obtain ⟨_, rfl⟩ := plc_inj (sz := szAt old) hb ha (d := d) (d' := 0) hd (by omega) (by omega)
  have := hp.1
  omega
theorem parts_get {old : List Nat} {a i : Nat} (hk : old.getD a 0 % 256 ≠ 3) (hi : i < old.getD a 0 / 256) (hl : a + szAt old a ≤ old.length) : (parts old a)[i]? = some (old.getD (a + 1 + i) 0) ∧ 1 + i < szAt old a := by
  have e : szAt old a = 1 + old.getD a 0 / 256 := by unfold szAt szO; rw [if_neg hk]
  unfold parts
  rw [if_neg hk, List.getElem?_take_of_lt hi, List.getElem?_drop]
  exact ⟨getD_lt (by omega), by omega⟩
theorem parts_len {old : List Nat} {a : Nat} (hk : old.getD a 0 % 256 ≠ 3) (hl : a + szAt old a ≤ old.length) : (parts old a).length = old.getD a 0 / 256 := by
  have e : szAt old a = 1 + old.getD a 0 / 256 := by unfold szAt szO; rw [if_neg hk]
  unfold parts
  rw [if_neg hk, List.length_take, List.length_drop]
  omega

/-! ### roots that are come to -/
theorem come_fold_mem {ys : List Nat} : ∀ {l ord : List Nat} {x : Nat}, x ∈ l → x % 2 = 1 ∨ x / 2 ∈ l.foldl come ord
  | [], ord, x, h => by cases h
  | y :: l, ord, x, h => by
    rw [List.foldl_cons]
    rcases List.mem_cons.1 h with rfl | h
    · obtain ⟨r, hr⟩ := come_fold_pre l (come ord x)
      rcases come_in (ord := ord) (x := x) with h | h
      · exact .inl h
      · rw [hr]; exact .inr (List.mem_append_left _ h)
    · exact come_fold_mem (ys := ys) h
def mixR (old : List Nat) (xs : List Nat) (j : Nat) : List Nat := (xs.take j).map (there old ((xs.take j).foldl come [])) ++ xs.drop j
theorem mixR_zero (old xs : List Nat) : mixR old xs 0 = xs := by simp [mixR]
theorem mixR_len (old xs : List Nat) (j : Nat) (h : j ≤ xs.length) : (mixR old xs j).length = xs.length := by simp [mixR]; omega
theorem mixR_get {old xs : List Nat} {j x : Nat} (h : xs[j]? = some x) : (mixR old xs j)[j]? = some x := by
  have hj := (List.getElem?_eq_some_iff.1 h).1
  unfold mixR
  rw [List.getElem?_append_right (by simp; omega), List.getElem?_drop]
  simp only [List.length_map, List.length_take]
  rw [show j + (j - min j xs.length) = j by omega]
  exact h
theorem mixR_step {old xs : List Nat} {j x : Nat} (h : xs[j]? = some x) : (mixR old xs j).set j (there old (come ((xs.take j).foldl come []) x) x) = mixR old xs (j + 1) := by
  have hj := (List.getElem?_eq_some_iff.1 h).1
  have e1 : xs.take (j + 1) = xs.take j ++ [x] := take_get h
  have e2 : xs.drop j = x :: xs.drop (j + 1) := by
    rw [List.drop_eq_getElem_cons hj]
    rw [List.getElem?_eq_getElem hj] at h
    injection h with h
    rw [h]
  unfold mixR
  rw [e1, List.foldl_append, List.foldl_cons, List.foldl_nil, List.map_append, e2]
  have hl : ((xs.take j).map (there old ((xs.take j).foldl come []))).length = j := by simp; omega
  rw [List.set_append_right _ _ (by omega), hl, Nat.sub_self, List.set_cons_zero]
  obtain ⟨r, hr⟩ := come_pre ((xs.take j).foldl come []) x
  have e3 : (xs.take j).map (there old (come ((xs.take j).foldl come []) x)) = (xs.take j).map (there old ((xs.take j).foldl come [])) := by
    apply List.map_congr_left
    intro y hy
    rw [hr]
    exact there_app r (come_fold_mem (ys := []) hy)
  rw [e3]
  simp
theorem mixR_all (old xs : List Nat) : mixR old xs xs.length = xs.map (there old (xs.foldl come [])) := by simp [mixR]
theorem there_fin {old ord0 fin xs : List Nat} (h : ∃ r, fin = ord0 ++ r) (h0 : ord0 = xs.foldl come []) : xs.map (there old ord0) = xs.map (there old fin) := by
  obtain ⟨r, rfl⟩ := h
  subst h0
  apply List.map_congr_left
  intro y hy
  exact (there_app r (come_fold_mem (ys := []) hy)).symm
end Go.Proofs.YtdpnnclkkbfihaaDoor

/-
  heap: Collect.
-/
namespace Go.Proofs.YtdpnnclkkbfihaaDoor
open Go
set_option linter.unusedSimpArgs false
set_option linter.unusedVariables false

set_option maxHeartbeats 4000000 in
theorem collect_ok {w : World} {G R : Nat → Prop} {p : Nat} {A : Option Addr} {c : Nat} {mem st xs : List Nat} {q n : Nat} {vR : Value} {rl : List (Nat × Nat)} (hH : HS w G p A c mem q n) (hn : n + 1 ≤ 1000000000) (hv : Vd mem st)
    (hR : Rd w R vR rl.length 1 (rl.map ptrV)) (hnd : rl.Nodup) (h0 : Roots w w rl xs) (hb0 : ∀ e ∈ rl, ∃ cs, Blk w e.1 cs tWord) (hpG : ∀ e ∈ rl, ¬ G e.1) (hRa : ∀ k, R k → ∀ o, (k, o) ∉ rl) (hRl : ∀ k, R k → k < w.heap.size) (hRp : ¬ R p)
    (hx : ∀ x ∈ xs, x < 18446744073709551616 ∧ (x % 2 = 1 ∨ x / 2 ∈ st)) (hrl : rl.length ≤ 1000000) :
    Ret Tryd.prog 14 #[.pointer (some ⟨p, 0, none⟩), vR] w fun _ w' => ∃ (fin to mv : List Nat) (bt : Nat), Bfs mem 0 (xs.foldl come []) fin ∧ (∃ r, fin = xs.foldl come [] ++ r) ∧ PI mem st fin to mv to.length ∧ HS w' (At bt) p (some ⟨bt, 0, none⟩) mem.length to q (n + 1) ∧ w.heap.size ≤ bt ∧ Roots w w' rl (xs.map (there mem fin)) ∧ Upd (fun k => k = p ∨ ∃ o, (k, o) ∈ rl) w w' := by
  have hlp := hH.hd.lt
  have hle := hH.le
  have hhd := hH.hd
  have hlG := hH.lt
  have hnG := hH.ne
  have hro := hH.ow.rd (by omega)
  have hxl := h0.len
  obtain ⟨AR, cR, rfl, hcR⟩ := hR.slice_form
  have hrb : ∀ k, (∃ o, (k, o) ∈ rl) → k < w.heap.size ∧ k ≠ p ∧ ¬ G k := fun k ⟨o, ho⟩ => by
    obtain ⟨cs, h1⟩ := hb0 _ ho
    exact ⟨h1.lt, fun e => (h1.ne hhd (by decide)) e, hpG _ ho⟩
  generalize hB : w.heap.size = B at *
  refine enterRet (vs := [_, _]) (N := 79) Tryd.func14 rfl rfl rfl ?_
  have hU := Upd.refl (fun k => k = p ∨ ∃ o, (k, o) ∈ rl) w
  refine WC.keep [(0, _), (1, _)] ⟨rfl, rfl, trivial⟩ ?_
  refine WC.seq ?_
  refine WC.seq ?_
  refine WC.region ?_
  refine WL.val rfl rfl rfl rfl (r_move rfl (ev_t rfl)) ?_
  refine WL.val rfl rfl rfl rfl (r_eqlPtrNil rfl (ev_t rfl) ev_c ptr_26) ?_
  refine WL.nil ?_
  refine WX.keep [(0, _), (1, _), (13, _)] ⟨rfl, rfl, rfl, trivial⟩ ?_
  refine WX.next ?_
  refine WC.cond rfl (ev_t rfl) (fun hc0 => ?_) (fun hc0 => ?_)
  · try (exfalso; first | (simp at hc0; done) | (simp only [decide_eq_true_eq, decide_eq_false_iff_not, Bool.not_eq_true', Bool.not_eq_false', Bool.not_eq_true, Bool.not_eq_false] at hc0; omega) | omega)
  · try (exfalso; first | (simp at hc0; done) | (simp only [decide_eq_true_eq, decide_eq_false_iff_not, Bool.not_eq_true', Bool.not_eq_false', Bool.not_eq_true, Bool.not_eq_false] at hc0; omega) | omega)
    all_goals
     try simp only [decide_eq_true_eq, decide_eq_false_iff_not, Bool.not_eq_true', Bool.not_eq_false', Bool.not_eq_true, Bool.not_eq_false, Option.isNone_none, Option.isNone_some, Option.isSome_none, Option.isSome_some, ne_eq, Decidable.not_not] at hc0
     refine WC.skip ?_
     refine WX.next ?_
     refine WC.seq ?_
     refine WC.region ?_
     refine WL.val rfl rfl rfl rfl (r_move rfl (ev_t rfl)) ?_
     refine WL.val rfl rfl rfl rfl (r_nilCheck rfl (ev_t rfl)) ?_
     refine WL.val rfl rfl rfl rfl (r_field0 rfl (ev_t rfl) fld_79_0) ?_
     refine WL.val rfl rfl rfl rfl (r_load rfl (ev_t rfl) flat_30 (Blk.cell hhd rfl)) ?_
     refine WL.cons (SO.alloc rfl rfl rfl rfl (r_alloc rfl zero_30) ?_)
     intro w1 hu1 hB1 hz1
     have hs1 := hu1.size
     replace hU := hU.trans hu1 (by exact (fun _ _ h => h.elim))
     replace hhd := hhd.upd hu1 (fun hS => by exact (show False from hS))
     replace hro := hro.upd hu1 (fun k hk hl hS => by exact (show False from hS).elim)
     replace hR := hR.upd hu1 (fun k hk hl hS => by exact (show False from hS).elim)
     replace h0 := h0.upd hu1 (fun k hk hl hS => by have h8 := hrb k hk; exact (show False from hS).elim)
     refine WL.cons (SO.store rfl (ev_t rfl) (ev_t rfl) size_30 hB1 rfl rfl rfl rfl rfl ?_)
     intro w2 hu2 hB1 hz2
     have hs2 := hu2.size
     replace hU := hU.trans hu2 (by (intro k hl hk; (try simp only [At, New, Grow, From, No] at hk ⊢); omega))
     replace hhd := hhd.upd hu2 (fun hS => by (simp only [At] at hS; omega))
     replace hro := hro.upd hu2 (fun k hk hl hS => by (simp only [At] at hS; have := hlG k hk; omega))
     replace hR := hR.upd hu2 (fun k hk hl hS => by (simp only [At] at hS; have := hRl k hk; omega))
     replace h0 := h0.upd hu2 (fun k hk hl hS => by have h8 := hrb k hk; (simp only [At] at hS; omega))
     refine WL.nil ?_
     refine WX.keep [(0, _), (1, _), (4, _)] ⟨rfl, rfl, rfl, trivial⟩ ?_
     have hb4 := hB1
     refine WX.next ?_
     refine WC.seq ?_
     refine WC.region ?_
     refine WL.val rfl rfl rfl rfl (r_load rfl (ev_t rfl) flat_30 (Blk.cell hb4 rfl)) ?_
     refine WL.val rfl rfl rfl rfl (r_lenSlice (ts := #[]) rfl (ev_t rfl) elem_30) ?_
     refine WL.cons (SO.alloc rfl rfl rfl rfl (r_makeSliceC (l := 0) (n := mem.length) rfl ev_c (ev_t rfl) (Nat.zero_le _) row_30 (by omega) (by omega)) ?_)
     intro w3 hu3 hq hzm
     obtain ⟨bt, hbt⟩ : ∃ g, g = w2.heap.size := ⟨_, rfl⟩
     rw [← hbt] at hq ⊢
     have hs3 := hu3.size
     replace hU := hU.trans hu3 (by exact (fun _ _ h => h.elim))
     replace hhd := hhd.upd hu3 (fun hS => by exact (show False from hS))
     replace hro := hro.upd hu3 (fun k hk hl hS => by exact (show False from hS).elim)
     replace hR := hR.upd hu3 (fun k hk hl hS => by exact (show False from hS).elim)
     replace h0 := h0.upd hu3 (fun k hk hl hS => by have h8 := hrb k hk; exact (show False from hS).elim)
     replace hb4 := hb4.upd hu3 (fun hS => by exact (show False from hS))
     refine WL.cons (SO.alloc rfl rfl rfl rfl (r_alloc rfl zero_30) ?_)
     intro w4 hu4 hB4 hz4
     have hs4 := hu4.size
     replace hU := hU.trans hu4 (by exact (fun _ _ h => h.elim))
     replace hhd := hhd.upd hu4 (fun hS => by exact (show False from hS))
     replace hro := hro.upd hu4 (fun k hk hl hS => by exact (show False from hS).elim)
     replace hR := hR.upd hu4 (fun k hk hl hS => by exact (show False from hS).elim)
     replace h0 := h0.upd hu4 (fun k hk hl hS => by have h8 := hrb k hk; exact (show False from hS).elim)
     replace hb4 := hb4.upd hu4 (fun hS => by exact (show False from hS))
     replace hq := hq.upd hu4 (fun hS => by exact (show False from hS).elim)
     refine WL.cons (SO.store rfl (ev_t rfl) (ev_t rfl) size_30 hB4 rfl rfl rfl rfl rfl ?_)
     intro w5 hu5 hB4 hz5
     have hs5 := hu5.size
     replace hU := hU.trans hu5 (by (intro k hl hk; (try simp only [At, New, Grow, From, No] at hk ⊢); omega))
     replace hhd := hhd.upd hu5 (fun hS => by (simp only [At] at hS; omega))
     replace hro := hro.upd hu5 (fun k hk hl hS => by (simp only [At] at hS; have := hlG k hk; omega))
     replace hR := hR.upd hu5 (fun k hk hl hS => by (simp only [At] at hS; have := hRl k hk; omega))
     replace h0 := h0.upd hu5 (fun k hk hl hS => by have h8 := hrb k hk; (simp only [At] at hS; omega))
     replace hb4 := hb4.upd hu5 (fun hS => by (simp only [At] at hS; omega))
     replace hq := hq.upd hu5 (fun hS => by (simp only [At] at *; omega))
     refine WL.nil ?_
     refine WX.keep [(0, _), (1, _), (4, _), (5, _)] ⟨rfl, rfl, rfl, rfl, trivial⟩ ?_
     have hb5 := hB4
     refine WX.next ?_
     refine WC.seq ?_
     refine WC.region ?_
     refine WL.val rfl rfl rfl rfl (r_load rfl (ev_t rfl) flat_30 (Blk.cell hb4 rfl)) ?_
     refine WL.val rfl rfl rfl rfl (r_lenSlice (ts := #[]) rfl (ev_t rfl) elem_30) ?_
     refine WL.cons (SO.alloc rfl rfl rfl rfl (r_makeSlice (n := mem.length) rfl (ev_t rfl) (ev_t rfl) row_30 (by omega) (by omega)) ?_)
     intro w6 hu6 hq2 hzn
     obtain ⟨bm, hbm⟩ : ∃ g, g = w5.heap.size := ⟨_, rfl⟩
     rw [← hbm] at hq2 ⊢
     have hs6 := hu6.size
     replace hU := hU.trans hu6 (by exact (fun _ _ h => h.elim))
     replace hhd := hhd.upd hu6 (fun hS => by exact (show False from hS))
     replace hro := hro.upd hu6 (fun k hk hl hS => by exact (show False from hS).elim)
     replace hR := hR.upd hu6 (fun k hk hl hS => by exact (show False from hS).elim)
     replace h0 := h0.upd hu6 (fun k hk hl hS => by have h8 := hrb k hk; exact (show False from hS).elim)
     replace hb4 := hb4.upd hu6 (fun hS => by exact (show False from hS))
     replace hq := hq.upd hu6 (fun hS => by exact (show False from hS).elim)
     replace hb5 := hb5.upd hu6 (fun hS => by exact (show False from hS))
     refine WL.cons (SO.alloc rfl rfl rfl rfl (r_alloc rfl zero_30) ?_)
     intro w7 hu7 hB7 hz7
     have hs7 := hu7.size
     replace hU := hU.trans hu7 (by exact (fun _ _ h => h.elim))
     replace hhd := hhd.upd hu7 (fun hS => by exact (show False from hS))
     replace hro := hro.upd hu7 (fun k hk hl hS => by exact (show False from hS).elim)
     replace hR := hR.upd hu7 (fun k hk hl hS => by exact (show False from hS).elim)
     replace h0 := h0.upd hu7 (fun k hk hl hS => by have h8 := hrb k hk; exact (show False from hS).elim)
     replace hb4 := hb4.upd hu7 (fun hS => by exact (show False from hS))
     replace hq := hq.upd hu7 (fun hS => by exact (show False from hS).elim)
     replace hb5 := hb5.upd hu7 (fun hS => by exact (show False from hS))
     replace hq2 := hq2.upd hu7 (fun hS => by exact (show False from hS).elim)
     refine WL.cons (SO.store rfl (ev_t rfl) (ev_t rfl) size_30 hB7 rfl rfl rfl rfl rfl ?_)
     intro w8 hu8 hB7 hz8
     have hs8 := hu8.size
     replace hU := hU.trans hu8 (by (intro k hl hk; (try simp only [At, New, Grow, From, No] at hk ⊢); omega))
     replace hhd := hhd.upd hu8 (fun hS => by (simp only [At] at hS; omega))
     replace hro := hro.upd hu8 (fun k hk hl hS => by (simp only [At] at hS; have := hlG k hk; omega))
     replace hR := hR.upd hu8 (fun k hk hl hS => by (simp only [At] at hS; have := hRl k hk; omega))
     replace h0 := h0.upd hu8 (fun k hk hl hS => by have h8 := hrb k hk; (simp only [At] at hS; omega))
     replace hb4 := hb4.upd hu8 (fun hS => by (simp only [At] at hS; omega))
     replace hq := hq.upd hu8 (fun hS => by (simp only [At] at *; omega))
     replace hb5 := hb5.upd hu8 (fun hS => by (simp only [At] at hS; omega))
     replace hq2 := hq2.upd hu8 (fun hS => by (simp only [At] at *; omega))
     refine WL.nil ?_
     refine WX.keep [(0, _), (1, _), (4, _), (5, _), (6, _)] ⟨rfl, rfl, rfl, rfl, rfl, trivial⟩ ?_
     have hb6 := hB7
     have hC : CS w8 G w.heap.size w6.heap.size w3.heap.size bm bt (.slice A mem.length c) mem [] (List.replicate mem.length 0) := ⟨hb4, hb6, hb5, hro, by rw [← zeroWd, Array.toArray_toList]; exact hq2, ⟨_, hq, by rw [rowCells_sz, Nat.mul_one], by simp⟩, ⟨by omega, by omega, by omega⟩, ⟨fun h => by have := hlG _ h; omega, fun h => by have := hlG _ h; omega, fun h => by have := hlG _ h; omega⟩, by simp, ⟨by simp, by omega⟩⟩
     have hPI := PI.start (old := mem) (st := st)
     clear hb4 hb5 hb6 hq hq2 hro
     generalize hco : w.heap.size = co at hC ⊢
     generalize hcm : w6.heap.size = cm at hC ⊢
     generalize hct : w3.heap.size = ct at hC ⊢
     have hcs : B ≤ co ∧ B ≤ cm ∧ B ≤ ct ∧ B ≤ bm ∧ B ≤ bt ∧ co ≠ bt ∧ cm ≠ bt ∧ ct ≠ bt ∧ bm ≠ bt := by omega
     clear hco hcm hct hbt hbm
     obtain ⟨ord0, hord0⟩ : ∃ o, o = xs.foldl come [] := ⟨_, rfl⟩
     refine WX.next ?_
     refine WC.seq ?_
     refine WC.region ?_
     refine WL.val rfl rfl rfl rfl (r_makeFunc (vs := []) (us := [_, _, _]) rfl trivial ⟨(ev_t rfl), (ev_t rfl), (ev_t rfl), trivial⟩) ?_
     refine WL.val rfl rfl rfl rfl (r_assign rfl (ev_t rfl)) ?_
     refine WL.nil ?_
     refine WX.keep [(0, _), (1, _), (5, _), (7, _)] ⟨rfl, rfl, rfl, rfl, trivial⟩ ?_
     refine WX.next ?_
     refine WC.seq ?_
     refine WC.seq ?_
     refine WC.region ?_
     refine WL.val rfl rfl rfl rfl (r_move rfl (ev_t rfl)) ?_
     refine WL.val rfl rfl rfl rfl (r_lenSlice (ts := #[]) rfl (ev_t rfl) elem_35) ?_
     refine WL.val rfl rfl rfl rfl (r_move rfl ev_c) ?_
     refine WL.nil ?_
     refine WX.keep [(0, _), (5, _), (7, _), (25, _), (26, _), (27, _)] ⟨rfl, rfl, rfl, rfl, rfl, rfl, trivial⟩ ?_
     refine WX.next ?_
     refine WC.block ?_
     -- loop 1: live [0, 5, 7, 25, 26, 27]
     refine WC.keep [(0, _), (5, _), (7, _), (25, _), (26, _), (27, _)] ⟨rfl, rfl, rfl, rfl, rfl, rfl, trivial⟩ ?_
     refine WC.loop (fun qq E wA => ∃ (j : Nat) (to mv : List Nat), j ≤ rl.length ∧ qq = rl.length - j ∧ Upd (fun k => k = p ∨ ∃ o, (k, o) ∈ rl) w wA ∧ Blk wA p #[.slice A mem.length c, .int .i64 (q : Int), .int .i64 (n : Int)] 79 ∧ CS wA G co cm ct bm bt (.slice A mem.length c) mem to mv ∧ PI mem st ((xs.take j).foldl come []) to mv 0 ∧ Rd wA R (.slice AR rl.length cR) rl.length 1 (rl.map ptrV) ∧ Roots w wA rl (mixR mem xs j) ∧ E = [(0, .pointer (some ⟨p, 0, none⟩)), (5, .pointer (some ⟨ct, 0, none⟩)), (7, mvF co cm ct), (25, .slice AR rl.length cR), (26, .int .i64 (rl.length : Int)), (27, .int .i64 (j : Int))]) (rl.length) ?_ ?_
     · exact ⟨0, [], _, by omega, by omega, hU, hhd, hC, by simpa using hPI, hR, by rw [mixR_zero]; exact h0, rfl⟩
     · clear hU hhd hC hPI hR h0
       rintro qq E wA ⟨j, to, mv, hj, rfl, hU, hhd, hC, hPI, hR, h0, rfl⟩
       have hUs := hU.size
       refine WC.seq ?_
       refine WC.region ?_
       refine WL.val rfl rfl rfl rfl (r_lss rfl (ev_t rfl) (ev_t rfl)) ?_
       refine WL.nil ?_
       refine WX.keep [(0, _), (5, _), (7, _), (25, _), (26, _), (27, _), (28, _)] ⟨rfl, rfl, rfl, rfl, rfl, rfl, rfl, trivial⟩ ?_
       refine WX.next ?_
       refine WC.seq ?_
       refine WC.cond rfl (ev_t rfl) (fun hc6 => ?_) (fun hc6 => ?_)
       · try (exfalso; first | (simp at hc6; done) | (simp only [decide_eq_true_eq, decide_eq_false_iff_not, Bool.not_eq_true', Bool.not_eq_false', Bool.not_eq_true, Bool.not_eq_false] at hc6; omega) | omega)
         all_goals
          try simp only [decide_eq_true_eq, decide_eq_false_iff_not, Bool.not_eq_true', Bool.not_eq_false', Bool.not_eq_true, Bool.not_eq_false, Option.isNone_none, Option.isNone_some, Option.isSome_none, Option.isSome_some, ne_eq, Decidable.not_not] at hc6
          have hjl : j < rl.length := by simpa using hc6
          obtain ⟨bR, oR, rfl, _⟩ := hR.open (by omega)
          obtain ⟨e, hej⟩ : ∃ e, rl[j]? = some e := ⟨_, List.getElem?_eq_getElem hjl⟩
          obtain ⟨b, o⟩ := e
          obtain ⟨x, hxj⟩ : ∃ x, xs[j]? = some x := ⟨_, List.getElem?_eq_getElem (by omega)⟩
          obtain ⟨cs0, hbl0⟩ : ∃ cs, Blk w b cs tWord := hb0 _ (List.mem_of_getElem? hej)
          obtain ⟨hxb, hxs⟩ := hx x (List.mem_of_getElem? hxj)
          have hbb := hrb b ⟨o, List.mem_of_getElem? hej⟩
          refine WC.skip ?_
          refine WX.next ?_
          refine WC.seq ?_
          refine WC.block ?_
          refine WC.seq ?_
          refine WC.region ?_
          refine WL.val rfl rfl rfl rfl (r_indexAddr rfl (ev_t rfl) (ev_t rfl) elem_35 size_82 (by omega) (by omega)) ?_
          refine WL.val rfl rfl rfl rfl (r_load rfl (ev_t rfl) flat_82 (hR.cell (j := j) (u := ptrV (b, o)) (show oR + (j : Int).toNat * 1 = oR + j by omega) (by rw [List.getElem?_map, hej]; rfl))) ?_
          refine WL.val rfl rfl rfl rfl (r_assign rfl (ev_t rfl)) ?_
          refine WL.nil ?_
          refine WX.keep [(0, _), (5, _), (7, _), (9, _), (25, _), (26, _), (27, _)] ⟨rfl, rfl, rfl, rfl, rfl, rfl, rfl, trivial⟩ ?_
          refine WX.next ?_
          obtain ⟨cs, hbl, hcsz, _, hcv⟩ := h0.blk b cs0 ⟨o, List.mem_of_getElem? hej⟩ hbl0
          obtain ⟨y, hy1, hy2⟩ := hcv j o hej
          rw [mixR_get hxj] at hy1
          injection hy1 with hy1
          subst hy1
          refine WC.region ?_
          refine WL.val rfl rfl rfl rfl (r_move rfl (ev_t rfl)) ?_
          refine WL.val rfl rfl rfl rfl (r_move rfl (ev_t rfl)) ?_
          refine WL.cons (SO.callV (vs := [_]) rfl (ev_t rfl) body_43 ⟨(ev_t rfl), trivial⟩ rfl (move_ok (b := b) hC hbl hy2 hxb (by omega) hbb.2.2 (fun h => by omega) (hPI.go hv hxs (by omega)) hv.w64) rfl rfl rfl rfl ?_)
          rintro v w9 ⟨to2, hC2, hne, -, hu9⟩
          obtain ⟨rfl, hbl2⟩ := hne (by omega)
          obtain ⟨hPI2, hyy⟩ := hPI.move hv hxs
          have h02 := h0.set hnd hej hu9 (fun k hk hl hkb hS => by have h9 := hrb k hk; omega) hbl0 hbl hbl2
          rw [hyy, mixR_step hxj] at h02
          have hSS : ∀ k, k < w.heap.size → (k = ct ∨ k = bm ∨ k = bt ∨ k = b) → k = p ∨ ∃ o, (k, o) ∈ rl := fun k hl hk => by
            have h9 : k = b := by omega
            exact .inr ⟨o, by rw [h9]; exact List.mem_of_getElem? hej⟩
          have hs9 := hu9.size
          replace hU := hU.trans hu9 (by (intro k hl hk; first | exact (show False from hk).elim | (simp only [At] at hk; first | exact .inl hk | (exfalso; omega)) | exact hSS k hl hk))
          replace hhd := hhd.upd hu9 (fun hS => by (change p = ct ∨ p = bm ∨ p = bt ∨ p = b at hS; omega))
          replace hR := hR.upd hu9 (fun k hk hl hS => by (change k = ct ∨ k = bm ∨ k = bt ∨ k = b at hS; have h8 := hRl k hk; have h9 : k = b := (by omega); exact hRa k hk o (by rw [h9]; exact List.mem_of_getElem? hej)))
          clear hC h0
          have hC := hC2
          have h0 := h02
          refine WL.nil ?_
          refine WX.keep [(0, _), (5, _), (7, _), (25, _), (26, _), (27, _)] ⟨rfl, rfl, rfl, rfl, rfl, rfl, trivial⟩ ?_
          refine WX.blockNormal ?_
          refine WX.next ?_
          refine WC.region ?_
          refine WL.val rfl rfl rfl rfl (r_addN rfl (ev_t rfl) ev_c (by simp only [inK]; omega)) ?_
          refine WL.val rfl rfl rfl rfl (r_move rfl (ev_t rfl)) ?_
          refine WL.nil ?_
          refine WX.keep [(0, _), (5, _), (7, _), (25, _), (26, _), (27, _)] ⟨rfl, rfl, rfl, rfl, rfl, rfl, trivial⟩ ?_
          refine WX.meet [(0, _), (5, _), (7, _), (25, _), (26, _), (27, _)] ⟨rfl, rfl, rfl, rfl, rfl, rfl, trivial⟩ ?_
          refine ⟨rl.length - (j + 1), by omega, j + 1, _, _, by omega, rfl, hU, hhd, hC, ?_, hR, h0, rfl⟩
          rw [take_get hxj, List.foldl_append, List.foldl_cons, List.foldl_nil]
          exact hPI2
       · try (exfalso; first | (simp at hc6; done) | (simp only [decide_eq_true_eq, decide_eq_false_iff_not, Bool.not_eq_true', Bool.not_eq_false', Bool.not_eq_true, Bool.not_eq_false] at hc6; omega) | omega)
         all_goals
          try simp only [decide_eq_true_eq, decide_eq_false_iff_not, Bool.not_eq_true', Bool.not_eq_false', Bool.not_eq_true, Bool.not_eq_false, Option.isNone_none, Option.isNone_some, Option.isSome_none, Option.isSome_some, ne_eq, Decidable.not_not] at hc6
          refine WC.exit ?_
          refine WX.thenExit ?_
          refine WX.thenExit ?_
          refine WX.blockHere ?_
          refine WX.next ?_
          refine WC.seq ?_
          refine WC.seq ?_
          obtain rfl : j = rl.length := by
            have : ¬ j < rl.length := by simpa using hc6
            omega
          rw [hxl, mixR_all] at h0
          rw [hxl, List.take_length, ← hord0] at hPI
          rw [← hord0] at h0
          refine WC.region ?_
          refine WL.val rfl rfl rfl rfl (r_assign rfl ev_c) ?_
          refine WL.nil ?_
          refine WX.keep [(0, _), (5, _), (7, _), (10, _)] ⟨rfl, rfl, rfl, rfl, trivial⟩ ?_
          refine WX.next ?_
          refine WC.block ?_
          -- loop 2: live [0, 5, 7, 10]
          refine WC.keep [(0, _), (5, _), (7, _), (10, _)] ⟨rfl, rfl, rfl, rfl, trivial⟩ ?_
          refine WC.loop (fun qq E wA => ∃ (k : Nat) (ord to mv : List Nat), k ≤ ord.length ∧ qq = mem.length - tot (szAt mem) (ord.take k) ∧ (∀ fin, Bfs mem k ord fin → Bfs mem 0 ord0 fin) ∧ (∃ r, ord = ord0 ++ r) ∧ PI mem st ord to mv (tot (szAt mem) (ord.take k)) ∧ Upd (fun k => k = p ∨ ∃ o, (k, o) ∈ rl) w wA ∧ Blk wA p #[.slice A mem.length c, .int .i64 (q : Int), .int .i64 (n : Int)] 79 ∧ CS wA G co cm ct bm bt (.slice A mem.length c) mem to mv ∧ Roots w wA rl (xs.map (there mem ord0)) ∧ E = [(0, .pointer (some ⟨p, 0, none⟩)), (5, .pointer (some ⟨ct, 0, none⟩)), (7, mvF co cm ct), (10, .int .i64 ((tot (szAt mem) (ord.take k) : Nat) : Int))]) (mem.length) ?_ ?_
          · exact ⟨0, ord0, to, mv, by omega, by simp [tot], fun _ h => h, ⟨[], by simp⟩, by simpa [tot] using hPI, hU, hhd, hC, h0, rfl⟩
          · clear hU hhd hC hPI h0 hR
            rintro qq E wA ⟨k, ord, to, mv, hk, rfl, hbf, ⟨r0, hr0⟩, hPI, hU, hhd, hC, h0, rfl⟩
            have hUs := hU.size
            have htl := hPI.le hv
            have hlt0 := hPI.ltot
            refine WC.seq ?_
            refine WC.seq ?_
            refine WC.region ?_
            refine WL.val rfl rfl rfl rfl (r_move rfl (ev_t rfl)) ?_
            refine WL.val rfl rfl rfl rfl (r_load rfl (ev_t rfl) flat_30 (Blk.cell hC.ht rfl)) ?_
            refine WL.val rfl rfl rfl rfl (r_lenSlice (ts := #[]) rfl (ev_t rfl) elem_30) ?_
            refine WL.val rfl rfl rfl rfl (r_lss rfl (ev_t rfl) (ev_t rfl)) ?_
            refine WL.nil ?_
            refine WX.keep [(0, _), (5, _), (7, _), (10, _), (38, _)] ⟨rfl, rfl, rfl, rfl, rfl, trivial⟩ ?_
            refine WX.next ?_
            refine WC.cond rfl (ev_t rfl) (fun hc11 => ?_) (fun hc11 => ?_)
            · try (exfalso; first | (simp at hc11; done) | (simp only [decide_eq_true_eq, decide_eq_false_iff_not, Bool.not_eq_true', Bool.not_eq_false', Bool.not_eq_true, Bool.not_eq_false] at hc11; omega) | omega)
              all_goals
               try simp only [decide_eq_true_eq, decide_eq_false_iff_not, Bool.not_eq_true', Bool.not_eq_false', Bool.not_eq_true, Bool.not_eq_false, Option.isNone_none, Option.isNone_some, Option.isSome_none, Option.isSome_some, ne_eq, Decidable.not_not] at hc11
               have hMl : tot (szAt mem) (ord.take k) < to.length := by simpa using hc11
               have hkl : k < ord.length := by
                 rcases Nat.lt_or_ge k ord.length with h | h
                 · exact h
                 · rw [List.take_of_length_le h] at hMl; omega
               obtain ⟨a, hak⟩ : ∃ a, ord[k]? = some a := ⟨_, List.getElem?_eq_getElem hkl⟩
               have ha : a ∈ ord := List.mem_of_getElem? hak
               have hpa := plc_take (sz := szAt mem) hPI.nd hak
               have htk : tot (szAt mem) (ord.take (k + 1)) = tot (szAt mem) (ord.take k) + szAt mem a := by rw [take_get hak, tot_app, tot_cons, tot_nil]; rfl
               generalize hM : tot (szAt mem) (ord.take k) = M at *
               have hhd0 : to[M]? = some (mem.getD a 0) := by
                 rw [getD_lt hMl, ← hpa, show plc (szAt mem) ord a = plc (szAt mem) ord a + 0 from rfl, hPI.old_ a ha 0 (szAt_pos _ _) (fun h => by have := h.2.1; omega)]
                 rfl
               have hain := hv.in (hPI.sub a ha)
               have hh64 := hv.w64 _ (List.mem_of_getElem? (getD_lt hain.1))
               have hplt := plc_lt (sz := szAt mem) ha
               refine WC.skip ?_
               refine WX.next ?_
               -- cut 13: live [0, 5, 7, 10]
               refine WC.cut (fun E wA => ∃ (ord2 to2 mv2 : List Nat), ord2 = (parts mem a).foldl come ord ∧ PI mem st ord2 to2 mv2 (M + szAt mem a) ∧ Upd (fun k => k = p ∨ ∃ o, (k, o) ∈ rl) w wA ∧ Blk wA p #[.slice A mem.length c, .int .i64 (q : Int), .int .i64 (n : Int)] 79 ∧ CS wA G co cm ct bm bt (.slice A mem.length c) mem to2 mv2 ∧ Roots w wA rl (xs.map (there mem ord0)) ∧ E = [(0, .pointer (some ⟨p, 0, none⟩)), (5, .pointer (some ⟨ct, 0, none⟩)), (7, mvF co cm ct), (10, .int .i64 (M : Int))]) ?_ ?_
               · refine WC.block ?_
                 refine WC.seq ?_
                 refine WC.seq ?_
                 refine WC.region ?_
                 refine WL.val rfl rfl rfl rfl (r_load rfl (ev_t rfl) flat_30 (Blk.cell hC.ht rfl)) ?_
                 refine WL.val rfl rfl rfl rfl (r_move rfl (ev_t rfl)) ?_
                 refine WL.val rfl rfl rfl rfl (r_indexAddr rfl (ev_t rfl) (ev_t rfl) elem_30 size_32 (by omega) (by omega)) ?_
                 refine WL.val rfl rfl rfl rfl (r_load rfl (ev_t rfl) flat_32 (hC.cell (i := M) (show 0 + (M : Int).toNat * 1 = M by omega) hhd0)) ?_
                 refine WL.val rfl rfl rfl rfl (r_conv rfl (ev_t rfl) some_32 int_5) ?_
                 rw [hd_k]
                 refine WL.val rfl rfl rfl rfl (r_eql rfl (ev_t rfl) ev_c) ?_
                 refine WL.nil ?_
                 refine WX.keep [(0, _), (5, _), (7, _), (10, _), (49, _)] ⟨rfl, rfl, rfl, rfl, rfl, trivial⟩ ?_
                 refine WX.next ?_
                 refine WC.cond rfl (ev_t rfl) (fun hc13 => ?_) (fun hc13 => ?_)
                 · try (exfalso; first | (simp at hc13; done) | (simp only [decide_eq_true_eq, decide_eq_false_iff_not, Bool.not_eq_true', Bool.not_eq_false', Bool.not_eq_true, Bool.not_eq_false] at hc13; omega) | omega)
                   all_goals
                    try simp only [decide_eq_true_eq, decide_eq_false_iff_not, Bool.not_eq_true', Bool.not_eq_false', Bool.not_eq_true, Bool.not_eq_false, Option.isNone_none, Option.isNone_some, Option.isSome_none, Option.isSome_some, ne_eq, Decidable.not_not] at hc13
                    refine WC.exit ?_
                    refine WX.thenExit ?_
                    refine WX.blockHere ?_
                    refine WX.meet [(0, _), (5, _), (7, _), (10, _)] ⟨rfl, rfl, rfl, rfl, trivial⟩ ?_
                    first
                      | (have hk3 : mem.getD a 0 % 256 = 3 := by omega
                         have e1 : parts mem a = [] := by unfold parts; rw [if_pos hk3]
                         exact ⟨ord, to, mv, by rw [e1]; rfl, hPI.skipText ha hpa hk3, hU, hhd, hC, h0, rfl⟩)
                 · try (exfalso; first | (simp at hc13; done) | (simp only [decide_eq_true_eq, decide_eq_false_iff_not, Bool.not_eq_true', Bool.not_eq_false', Bool.not_eq_true, Bool.not_eq_false] at hc13; omega) | omega)
                   all_goals
                    try simp only [decide_eq_true_eq, decide_eq_false_iff_not, Bool.not_eq_true', Bool.not_eq_false', Bool.not_eq_true, Bool.not_eq_false, Option.isNone_none, Option.isNone_some, Option.isSome_none, Option.isSome_some, ne_eq, Decidable.not_not] at hc13
                    have hk3 : mem.getD a 0 % 256 ≠ 3 := by omega
                    have hsz3 : szAt mem a = 1 + mem.getD a 0 / 256 := by unfold szAt szO; rw [if_neg hk3]
                    refine WC.skip ?_
                    refine WX.next ?_
                    refine WC.seq ?_
                    refine WC.region ?_
                    refine WL.val rfl rfl rfl rfl (r_load rfl (ev_t rfl) flat_30 (Blk.cell hC.ht rfl)) ?_
                    refine WL.val rfl rfl rfl rfl (r_move rfl (ev_t rfl)) ?_
                    refine WL.val rfl rfl rfl rfl (r_indexAddr rfl (ev_t rfl) (ev_t rfl) elem_30 size_32 (by omega) (by omega)) ?_
                    refine WL.val rfl rfl rfl rfl (r_load rfl (ev_t rfl) flat_32 (hC.cell (i := M) (show 0 + (M : Int).toNat * 1 = M by omega) hhd0)) ?_
                    refine WL.val rfl rfl rfl rfl (r_shr rfl (ev_t rfl) ev_c (by omega) (by simp only [IntKind.bits]; omega)) ?_
                    refine WL.val rfl rfl rfl rfl (r_conv rfl (ev_t rfl) some_32 int_3) ?_
                    rw [hd_n hh64]
                    refine WL.val rfl rfl rfl rfl (r_move rfl ev_c) ?_
                    refine WL.nil ?_
                    refine WX.keep [(0, _), (5, _), (7, _), (10, _), (55, _), (56, _)] ⟨rfl, rfl, rfl, rfl, rfl, rfl, trivial⟩ ?_
                    refine WX.next ?_
                    refine WC.block ?_
                    -- loop 3: live [0, 5, 7, 10, 55, 56]
                    refine WC.keep [(0, _), (5, _), (7, _), (10, _), (55, _), (56, _)] ⟨rfl, rfl, rfl, rfl, rfl, rfl, trivial⟩ ?_
                    refine WC.loop (fun qq E wA => ∃ (i : Nat) (ord2 to2 mv2 : List Nat), i ≤ mem.getD a 0 / 256 ∧ qq = mem.getD a 0 / 256 - i ∧ ord2 = ((parts mem a).take i).foldl come ord ∧ PI mem st ord2 to2 mv2 (M + 1 + i) ∧ Upd (fun k => k = p ∨ ∃ o, (k, o) ∈ rl) w wA ∧ Blk wA p #[.slice A mem.length c, .int .i64 (q : Int), .int .i64 (n : Int)] 79 ∧ CS wA G co cm ct bm bt (.slice A mem.length c) mem to2 mv2 ∧ Roots w wA rl (xs.map (there mem ord0)) ∧ E = [(0, .pointer (some ⟨p, 0, none⟩)), (5, .pointer (some ⟨ct, 0, none⟩)), (7, mvF co cm ct), (10, .int .i64 (M : Int)), (55, .int .i64 ((mem.getD a 0 / 256 : Nat) : Int)), (56, .int .i64 (i : Int))]) (mem.getD a 0 / 256) ?_ ?_
                    · exact ⟨0, ord, to, mv, by omega, by omega, rfl, hPI.skipHead ha hpa, hU, hhd, hC, h0, rfl⟩
                    · clear hU hhd hC h0
                      rintro qq E wA ⟨i, ord2, to2, mv2, hi, rfl, ho2, hPI2, hU, hhd, hC, h0, rfl⟩
                      have hUs2 := hU.size
                      refine WC.seq ?_
                      refine WC.region ?_
                      refine WL.val rfl rfl rfl rfl (r_lss rfl (ev_t rfl) (ev_t rfl)) ?_
                      refine WL.nil ?_
                      refine WX.keep [(0, _), (5, _), (7, _), (10, _), (55, _), (56, _), (57, _)] ⟨rfl, rfl, rfl, rfl, rfl, rfl, rfl, trivial⟩ ?_
                      refine WX.next ?_
                      refine WC.seq ?_
                      refine WC.cond rfl (ev_t rfl) (fun hc15 => ?_) (fun hc15 => ?_)
                      · try (exfalso; first | (simp at hc15; done) | (simp only [decide_eq_true_eq, decide_eq_false_iff_not, Bool.not_eq_true', Bool.not_eq_false', Bool.not_eq_true, Bool.not_eq_false] at hc15; omega) | omega)
                        all_goals
                         try simp only [decide_eq_true_eq, decide_eq_false_iff_not, Bool.not_eq_true', Bool.not_eq_false', Bool.not_eq_true, Bool.not_eq_false, Option.isNone_none, Option.isNone_some, Option.isSome_none, Option.isSome_some, ne_eq, Decidable.not_not] at hc15
                         have hil : i < mem.getD a 0 / 256 := by omega
                         obtain ⟨hpi, hpi2⟩ := parts_get hk3 hil hain.2
                         obtain ⟨r2, hr2⟩ := come_fold_pre ((parts mem a).take i) ord
                         rw [← ho2] at hr2
                         have ha2 : a ∈ ord2 := by rw [hr2]; exact List.mem_append_left _ ha
                         have hpa2 : plc (szAt mem) ord2 a = M := by rw [hr2, plc_app _ ha]; exact hpa
                         have hxs := hv.refs a (hPI.sub a ha) _ (List.mem_of_getElem? hpi)
                         have hsc := hPI2.scan hv ha2 (d := 1 + i) hpi2 ⟨by omega, hk3⟩ (by omega) (by rw [show a + (1 + i) = a + 1 + i by omega]; exact hxs)
                         rw [show a + (1 + i) = a + 1 + i by omega] at hsc
                         obtain ⟨hto, hPI3⟩ := hsc
                         have hxb := hv.w64 _ (List.mem_of_getElem? (getD_lt (l := mem) (i := a + 1 + i) (by omega)))
                         have hplt2 := plc_lt (sz := szAt mem) ha2
                         have hlt2 := hPI2.ltot
                         have hgo := hPI2.go hv hxs (by omega)
                         generalize hxx : mem.getD (a + 1 + i) 0 = x at *
                         refine WC.skip ?_
                         refine WX.next ?_
                         refine WC.seq ?_
                         refine WC.block ?_
                         refine WC.seq ?_
                         refine WC.region ?_
                         refine WL.val rfl rfl rfl rfl (r_move rfl (ev_t rfl)) ?_
                         refine WL.val rfl rfl rfl rfl (r_assign rfl (ev_t rfl)) ?_
                         refine WL.nil ?_
                         refine WX.keep [(0, _), (5, _), (7, _), (10, _), (11, _), (55, _), (56, _)] ⟨rfl, rfl, rfl, rfl, rfl, rfl, rfl, trivial⟩ ?_
                         refine WX.next ?_
                         refine WC.region ?_
                         refine WL.val rfl rfl rfl rfl (r_move rfl (ev_t rfl)) ?_
                         refine WL.val rfl rfl rfl rfl (r_load rfl (ev_t rfl) flat_30 (Blk.cell hC.ht rfl)) ?_
                         refine WL.val rfl rfl rfl rfl (r_move rfl (ev_t rfl)) ?_
                         refine WL.val rfl rfl rfl rfl (r_addN rfl (ev_t rfl) ev_c (by simp only [inK]; omega)) ?_
                         refine WL.val rfl rfl rfl rfl (r_move rfl (ev_t rfl)) ?_
                         refine WL.val rfl rfl rfl rfl (r_addN rfl (ev_t rfl) (ev_t rfl) (by simp only [inK]; omega)) ?_
                         refine WL.val rfl rfl rfl rfl (r_indexAddr rfl (ev_t rfl) (ev_t rfl) elem_30 size_32 (by omega) (by omega)) ?_
                         obtain ⟨cur, hcu1, hcu2, hcu3⟩ := hC.rt
                         have hcx : cur[M + 1 + i]? = some (Wd x) := by
                           have h4 : (to2.map Wd)[M + 1 + i]? = some (Wd x) := by rw [List.getElem?_map, getD_lt (l := to2) (i := M + 1 + i) (by omega), hto]; rfl
                           rw [← hcu3, List.getElem?_take_of_lt (by omega), Array.getElem?_toList] at h4
                           exact h4
                         have eo : 0 + ((M : Int) + 1 + (i : Int)).toNat * 1 = M + 1 + i := by omega
                         rw [eo]
                         refine WL.cons (SO.callV (vs := [_]) rfl (ev_t rfl) body_43 ⟨(ev_t rfl), trivial⟩ rfl (move_ok (b := bt) (o := M + 1 + i) hC hcu1 hcx hxb (by omega) (fun h => by have := hlG _ h; omega) (fun h => by omega) hgo hv.w64) rfl rfl rfl rfl ?_)
                         rintro v w10 ⟨to3, hC2, -, heq, hu10⟩
                         rw [← heq rfl] at hPI3
                         have hSS : ∀ k, k < w.heap.size → (k = ct ∨ k = bm ∨ k = bt ∨ k = bt) → k = p ∨ ∃ o, (k, o) ∈ rl := fun k hl hk => by exfalso; omega
                         have hs10 := hu10.size
                         replace hU := hU.trans hu10 (by (intro k hl hk; (try simp only [At, New, Grow, From, No] at hk ⊢); omega))
                         replace hhd := hhd.upd hu10 (fun hS => by (change p = ct ∨ p = bm ∨ p = bt ∨ p = bt at hS; omega))
                         replace h0 := h0.upd hu10 (fun k hk hl hS => by have h8 := hrb k hk; (change k = ct ∨ k = bm ∨ k = bt ∨ k = bt at hS; omega))
                         clear hC
                         have hC := hC2
                         refine WL.nil ?_
                         refine WX.keep [(0, _), (5, _), (7, _), (10, _), (55, _), (56, _)] ⟨rfl, rfl, rfl, rfl, rfl, rfl, trivial⟩ ?_
                         refine WX.blockNormal ?_
                         refine WX.next ?_
                         refine WC.region ?_
                         refine WL.val rfl rfl rfl rfl (r_addN rfl (ev_t rfl) ev_c (by simp only [inK]; omega)) ?_
                         refine WL.val rfl rfl rfl rfl (r_move rfl (ev_t rfl)) ?_
                         refine WL.nil ?_
                         refine WX.keep [(0, _), (5, _), (7, _), (10, _), (55, _), (56, _)] ⟨rfl, rfl, rfl, rfl, rfl, rfl, trivial⟩ ?_
                         refine WX.meet [(0, _), (5, _), (7, _), (10, _), (55, _), (56, _)] ⟨rfl, rfl, rfl, rfl, rfl, rfl, trivial⟩ ?_
                         refine ⟨mem.getD a 0 / 256 - (i + 1), by omega, i + 1, _, to3, _, by omega, rfl, rfl, ?_, hU, hhd, hC, h0, rfl⟩
                         rw [take_get hpi, List.foldl_append, List.foldl_cons, List.foldl_nil, ← ho2]
                         exact hPI3
                      · try (exfalso; first | (simp at hc15; done) | (simp only [decide_eq_true_eq, decide_eq_false_iff_not, Bool.not_eq_true', Bool.not_eq_false', Bool.not_eq_true, Bool.not_eq_false] at hc15; omega) | omega)
                        all_goals
                         try simp only [decide_eq_true_eq, decide_eq_false_iff_not, Bool.not_eq_true', Bool.not_eq_false', Bool.not_eq_true, Bool.not_eq_false, Option.isNone_none, Option.isNone_some, Option.isSome_none, Option.isSome_some, ne_eq, Decidable.not_not] at hc15
                         refine WC.exit ?_
                         refine WX.thenExit ?_
                         refine WX.thenExit ?_
                         refine WX.blockHere ?_
                         refine WX.blockNormal ?_
                         refine WX.meet [(0, _), (5, _), (7, _), (10, _)] ⟨rfl, rfl, rfl, rfl, trivial⟩ ?_
                         first
                           | (have hin : i = mem.getD a 0 / 256 := by omega
                              subst hin
                              rw [List.take_of_length_le (by rw [parts_len hk3 hain.2]; exact Nat.le_refl _)] at ho2
                              rw [show M + 1 + mem.getD a 0 / 256 = M + szAt mem a by omega] at hPI2
                              exact ⟨ord2, to2, mv2, ho2, hPI2, hU, hhd, hC, h0, rfl⟩)
               · clear hU hhd hC h0
                 rintro E wB ⟨ord2, to2, mv2, hord2, hPI2, hU, hhd, hC, h0, rfl⟩
                 have hUs2 := hU.size
                 obtain ⟨r2, hr2⟩ := come_fold_pre (parts mem a) ord
                 rw [← hord2] at hr2
                 have ha2 : a ∈ ord2 := by rw [hr2]; exact List.mem_append_left _ ha
                 have hpa2 : plc (szAt mem) ord2 a = M := by rw [hr2, plc_app _ ha]; exact hpa
                 have hplt2 := plc_lt (sz := szAt mem) ha2
                 have hlt2 := hPI2.ltot
                 have hlc2 := hPI2.le hv
                 have hsp := szAt_pos mem a
                 have hhd2 : to2[M]? = some (mem.getD a 0) := by
                   rw [getD_lt (l := to2) (i := M) (by omega), ← hpa2, show plc (szAt mem) ord2 a = plc (szAt mem) ord2 a + 0 from rfl, hPI2.old_ a ha2 0 hsp (fun h => by have := h.2.1; omega)]
                   rfl
                 refine WC.region ?_
                 refine WL.val rfl rfl rfl rfl (r_move rfl (ev_t rfl)) ?_
                 refine WL.val rfl rfl rfl rfl (r_load rfl (ev_t rfl) flat_30 (Blk.cell hC.ht rfl)) ?_
                 refine WL.val rfl rfl rfl rfl (r_move rfl (ev_t rfl)) ?_
                 refine WL.cons (SO.call (size_ok (hC.own.rd (by omega)) hhd2 hh64) rfl body_44 ⟨(ev_t rfl), (ev_t rfl), trivial⟩ rfl rfl rfl rfl ?_)
                 rintro v w11 ⟨rfl, hu11⟩
                 have hs11 := hu11.size
                 replace hU := hU.trans hu11 (by exact (fun _ _ h => h.elim))
                 replace hhd := hhd.upd hu11 (fun hS => by exact (show False from hS))
                 replace hC := hC.upd hu11 (fun k hk hl hS => by exact (show False from hS).elim)
                 replace h0 := h0.upd hu11 (fun k hk hl hS => by have h8 := hrb k hk; exact (show False from hS).elim)
                 refine WL.val rfl rfl rfl rfl (r_add rfl (ev_t rfl) (ev_t rfl)) ?_
                 refine WL.val rfl rfl rfl rfl (r_assign rfl (ev_t rfl)) ?_
                 refine WL.nil ?_
                 refine WX.keep [(0, _), (5, _), (7, _), (10, _)] ⟨rfl, rfl, rfl, rfl, trivial⟩ ?_
                 refine WX.meet [(0, _), (5, _), (7, _), (10, _)] ⟨rfl, rfl, rfl, rfl, trivial⟩ ?_
                 have htk2 : tot (szAt mem) (ord2.take (k + 1)) = M + szAt mem a := by rw [hr2, List.take_append_of_le_length (by omega)]; exact htk
                 refine ⟨mem.length - tot (szAt mem) (ord2.take (k + 1)), by rw [htk2]; omega, k + 1, ord2, to2, mv2, by rw [hr2, List.length_append]; omega, rfl, fun fin hf => hbf fin (Bfs.step hak (hord2 ▸ hf)), ⟨r0 ++ r2, by rw [hr2, hr0, List.append_assoc]⟩, by rw [htk2]; exact hPI2, hU, hhd, hC, h0, ?_⟩
                 have esz : szAt mem a = szO (mem.getD a 0) := rfl
                 have ew : IntKind.i64.wrap ((M : Int) + ((szO (mem.getD a 0) : Nat) : Int)) = ((M + szAt mem a : Nat) : Int) := by rw [wrap_i64_in (by omega) (by omega)]; omega
                 rw [htk2, ew]
            · try (exfalso; first | (simp at hc11; done) | (simp only [decide_eq_true_eq, decide_eq_false_iff_not, Bool.not_eq_true', Bool.not_eq_false', Bool.not_eq_true, Bool.not_eq_false] at hc11; omega) | omega)
              all_goals
               try simp only [decide_eq_true_eq, decide_eq_false_iff_not, Bool.not_eq_true', Bool.not_eq_false', Bool.not_eq_true, Bool.not_eq_false, Option.isNone_none, Option.isNone_some, Option.isSome_none, Option.isSome_some, ne_eq, Decidable.not_not] at hc11
               refine WC.exit ?_
               refine WX.thenExit ?_
               refine WX.thenExit ?_
               refine WX.blockHere ?_
               refine WX.next ?_
               refine WC.seq ?_
               have hMf : ¬ tot (szAt mem) (ord.take k) < to.length := by simpa using hc11
               have hkk : ord.length ≤ k := by
                 rcases Nat.lt_or_ge k ord.length with h | h
                 · have h1 := plc_take (sz := szAt mem) hPI.nd (List.getElem?_eq_getElem h)
                   have h2 := plc_lt (sz := szAt mem) (List.getElem_mem h)
                   have h3 := szAt_pos mem ord[k]
                   omega
                 · exact h
               have hfin := hbf ord (Bfs.done hkk)
               rw [List.take_of_length_le hkk, ← hlt0] at hPI
               have hto := hC.own
               have hbtl := hC.rt
               obtain ⟨cur, hcu, _⟩ := hbtl
               have hbl := hcu.lt
               refine WC.region ?_
               refine WL.val rfl rfl rfl rfl (r_move rfl (ev_t rfl)) ?_
               refine WL.val rfl rfl rfl rfl (r_load rfl (ev_t rfl) flat_30 (Blk.cell hC.ht rfl)) ?_
               refine WL.val rfl rfl rfl rfl (r_nilCheck rfl (ev_t rfl)) ?_
               refine WL.val rfl rfl rfl rfl (r_field0 rfl (ev_t rfl) fld_79_0) ?_
               refine WL.cons (SO.store rfl (ev_t rfl) (ev_t rfl) size_30 hhd rfl rfl rfl rfl rfl ?_)
               intro w12 hu12 hhd hz12
               have hs12 := hu12.size
               replace hU := hU.trans hu12 (by (intro k hl hk; (try simp only [At, New, Grow, From, No] at hk ⊢); omega))
               replace hC := hC.upd hu12 (fun k hk hl hS => by (simp only [At] at hS; by_cases hg : G k; (rw [hS] at hg; exact hnG hg); simp only [hg, or_false] at hk; omega))
               replace h0 := h0.upd hu12 (fun k hk hl hS => by have h8 := hrb k hk; (simp only [At] at hS; omega))
               refine WL.nil ?_
               refine WX.keep [(0, _)] ⟨rfl, trivial⟩ ?_
               refine WX.next ?_
               refine WC.region ?_
               refine WL.val rfl rfl rfl rfl (r_move rfl (ev_t rfl)) ?_
               refine WL.val rfl rfl rfl rfl (r_nilCheck rfl (ev_t rfl)) ?_
               refine WL.val rfl rfl rfl rfl (r_field0 rfl (ev_t rfl) fld_79_2) ?_
               refine WL.val rfl rfl rfl rfl (r_load rfl (ev_t rfl) flat_3 (Blk.cell hhd rfl)) ?_
               refine WL.val rfl rfl rfl rfl (r_addN rfl (ev_t rfl) ev_c (by simp only [inK]; omega)) ?_
               refine WL.val rfl rfl rfl rfl (r_nilCheck rfl (ev_t rfl)) ?_
               refine WL.val rfl rfl rfl rfl (r_field0 rfl (ev_t rfl) fld_79_2) ?_
               refine WL.cons (SO.store rfl (ev_t rfl) (ev_t rfl) size_3 hhd rfl rfl rfl rfl rfl ?_)
               intro w13 hu13 hhd hz13
               have hs13 := hu13.size
               replace hU := hU.trans hu13 (by (intro k hl hk; (try simp only [At, New, Grow, From, No] at hk ⊢); omega))
               replace hC := hC.upd hu13 (fun k hk hl hS => by (simp only [At] at hS; by_cases hg : G k; (rw [hS] at hg; exact hnG hg); simp only [hg, or_false] at hk; omega))
               replace h0 := h0.upd hu13 (fun k hk hl hS => by have h8 := hrb k hk; (simp only [At] at hS; omega))
               refine WL.nil ?_
               refine WX.keep [] trivial ?_
               refine WX.endE (l := []) (vs := []) rfl trivial ?_
               subst hord0
               rw [there_fin ⟨r0, hr0⟩ rfl] at h0
               exact ⟨ord, to, mv, bt, hfin, ⟨r0, hr0⟩, hPI, ⟨hhd, hC.own, by simp only [At]; omega, fun k hk => by simp only [At] at hk; omega, ⟨by omega, hle.2⟩, hn⟩, by omega, h0, hU⟩
end Go.Proofs.YtdpnnclkkbfihaaDoor

/-
  heap: what a collected heap is, plain; a row of roots.
-/
namespace Go.Proofs.YtdpnnclkkbfihaaDoor
open Go
set_option linter.unusedSimpArgs false
set_option linter.unusedVariables false

theorem getD_of {l : List Nat} {i x : Nat} (h : l[i]? = some x) : l.getD i 0 = x := by
  rw [List.getD_eq_getElem?_getD, h]; rfl
section
variable {old st fin to mv : List Nat}
theorem PI.head (h : PI old st fin to mv to.length) {a : Nat} (ha : a ∈ fin) : to.getD (plc (szAt old) fin a) 0 = old.getD a 0 :=
  h.old_ a ha 0 (szAt_pos _ _) (fun e => by have := e.2.1; omega)
theorem PI.szAt (h : PI old st fin to mv to.length) {a : Nat} (ha : a ∈ fin) : szAt to (plc (szAt old) fin a) = szAt old a := by
  show szO (to.getD (plc (Go.Proofs.YtdpnnclkkbfihaaDoor.szAt old) fin a) 0) = szO (old.getD a 0)
  rw [h.head ha]
theorem PI.tile (h : PI old st fin to mv to.length) : ∀ (n k : Nat), k + n = fin.length → Tile to (tot (Go.Proofs.YtdpnnclkkbfihaaDoor.szAt old) (fin.take k)) ((fin.drop k).map (plc (Go.Proofs.YtdpnnclkkbfihaaDoor.szAt old) fin))
  | 0, k, hk => by
    rw [List.drop_eq_nil_of_le (by omega), List.map_nil, List.take_of_length_le (by omega)]
    exact h.ltot.symm
  | n + 1, k, hk => by
    have hkl : k < fin.length := by omega
    have h1 := plc_take (sz := Go.Proofs.YtdpnnclkkbfihaaDoor.szAt old) h.nd (List.getElem?_eq_getElem hkl)
    have hm := List.getElem_mem hkl
    have h2 := plc_lt (sz := Go.Proofs.YtdpnnclkkbfihaaDoor.szAt old) hm
    have h3 := h.szAt hm
    have h4 := h.tile n (k + 1) (by omega)
    rw [take_get (List.getElem?_eq_getElem hkl), tot_app, tot_cons, tot_nil] at h4
    rw [List.drop_eq_getElem_cons hkl, List.map_cons]
    refine ⟨h1, ?_, ?_⟩
    · rw [← h1, h3, h.ltot]; exact h2
    · rw [← h1, h3, h1]; exact h4
theorem PI.partsTo (h : PI old st fin to mv to.length) (hv : Vd old st) {a : Nat} (ha : a ∈ fin) : parts to (plc (Go.Proofs.YtdpnnclkkbfihaaDoor.szAt old) fin a) = (parts old a).map (there old fin) ∧ ∀ x ∈ parts old a, x % 2 = 1 ∨ x / 2 ∈ fin := by
  have h0 := h.head ha
  have hin := hv.in (h.sub a ha)
  have h2 := plc_lt (sz := Go.Proofs.YtdpnnclkkbfihaaDoor.szAt old) ha
  have h3 := h.szAt ha
  by_cases hk : old.getD a 0 % 256 = 3
  · unfold parts
    rw [h0, if_pos hk, if_pos hk]
    exact ⟨rfl, fun _ hx => by cases hx⟩
  · have hl1 := parts_len hk hin.2
    have hl2 := parts_len (old := to) (a := plc (Go.Proofs.YtdpnnclkkbfihaaDoor.szAt old) fin a) (by rw [h0]; exact hk) (by rw [h3, h.ltot]; exact h2)
    rw [h0] at hl2
    have key : ∀ i, i < old.getD a 0 / 256 → (parts to (plc (Go.Proofs.YtdpnnclkkbfihaaDoor.szAt old) fin a))[i]? = some (there old fin (old.getD (a + 1 + i) 0)) ∧ (parts old a)[i]? = some (old.getD (a + 1 + i) 0) ∧ (old.getD (a + 1 + i) 0 % 2 = 1 ∨ old.getD (a + 1 + i) 0 / 2 ∈ fin) := by
      intro i hi
      obtain ⟨p1, p2⟩ := parts_get hk hi hin.2
      obtain ⟨p3, p4⟩ := parts_get (old := to) (a := plc (Go.Proofs.YtdpnnclkkbfihaaDoor.szAt old) fin a) (i := i) (by rw [h0]; exact hk) (by rw [h0]; exact hi) (by rw [h3, h.ltot]; exact h2)
      obtain ⟨p5, p6⟩ := h.new_ a ha (1 + i) p2 (by rw [h.ltot]; omega) ⟨by omega, hk⟩
      rw [show a + (1 + i) = a + 1 + i by omega] at p5 p6
      rw [show plc (Go.Proofs.YtdpnnclkkbfihaaDoor.szAt old) fin a + (1 + i) = plc (Go.Proofs.YtdpnnclkkbfihaaDoor.szAt old) fin a + 1 + i by omega] at p5
      rw [p5] at p3
      exact ⟨p3, p1, p6⟩
    refine ⟨?_, fun x hx => ?_⟩
    · apply List.ext_getElem?
      intro i
      rcases Nat.lt_or_ge i (old.getD a 0 / 256) with hi | hi
      · obtain ⟨k1, k2, _⟩ := key i hi
        rw [k1, List.getElem?_map, k2]
        rfl
      · rw [List.getElem?_eq_none (by omega), List.getElem?_eq_none (by rw [List.length_map]; omega)]
    · obtain ⟨i, hi, rfl⟩ := List.mem_iff_getElem.1 hx
      obtain ⟨_, k2, k3⟩ := key i (by omega)
      rw [List.getElem?_eq_getElem hi] at k2
      injection k2 with k2
      rw [k2]
      exact k3
theorem there_tgt {x : Nat} (hx : x % 2 = 1 ∨ x / 2 ∈ fin) : there old fin x % 2 = 1 ∨ (there old fin x / 2 ∈ fin.map (plc (Go.Proofs.YtdpnnclkkbfihaaDoor.szAt old) fin)) := by
  unfold there
  split
  · rename_i h
    right
    rw [show 2 * plc (Go.Proofs.YtdpnnclkkbfihaaDoor.szAt old) fin (x / 2) / 2 = plc (Go.Proofs.YtdpnnclkkbfihaaDoor.szAt old) fin (x / 2) by omega]
    exact List.mem_map.2 ⟨_, h.2, rfl⟩
  · rename_i h
    rcases hx with h1 | h1
    · exact .inl h1
    · left
      rcases Nat.mod_two_eq_zero_or_one x with e | e
      · exact absurd ⟨e, h1⟩ h
      · exact e
/-- a collected heap is one -/
theorem Vd.collect (hv : Vd old st) (h : PI old st fin to mv to.length) (hl : old.length ≤ 1048576) : Vd to (fin.map (plc (Go.Proofs.YtdpnnclkkbfihaaDoor.szAt old) fin)) := by
  have hle := h.le hv
  refine ⟨?_, ?_, ?_⟩
  · have := h.tile fin.length 0 (by omega)
    simpa [tot] using this
  · intro a' ha' x hx
    obtain ⟨a, ha, rfl⟩ := List.mem_map.1 ha'
    obtain ⟨e, hr⟩ := h.partsTo hv ha
    rw [e] at hx
    obtain ⟨y, hy, rfl⟩ := List.mem_map.1 hx
    exact there_tgt (hr y hy)
  · intro y hy
    obtain ⟨i, hi, rfl⟩ := List.mem_iff_getElem.1 hy
    have hi2 := hi
    rw [h.ltot] at hi2
    obtain ⟨a, ha, d, hd, hpos⟩ := plc_pos hi2
    have hpos := hpos h.nd
    have hy2 : to[i] = to.getD i 0 := (getD_of (List.getElem?_eq_getElem hi)).symm
    have hin := hv.in (h.sub a ha)
    have hb : old.getD (a + d) 0 < 18446744073709551616 := hv.w64 _ (List.mem_of_getElem? (getD_lt (by omega)))
    by_cases hp : isPart old a d
    · obtain ⟨h1, h2⟩ := h.new_ a ha d hd (by omega) hp
      rw [hpos] at h1
      rw [hy2, h1]
      unfold there
      split
      · rename_i h3
        have h4 := plc_lt (sz := Go.Proofs.YtdpnnclkkbfihaaDoor.szAt old) h3.2
        rw [← h.ltot] at h4
        omega
      · exact hb
    · have h1 := h.old_ a ha d hd (fun e => hp e.2)
      rw [hpos] at h1
      rw [hy2, h1]
      exact hb
theorem szText {a n : Nat} (h : old[a]? = some (n * 256 + 3)) : Go.Proofs.YtdpnnclkkbfihaaDoor.szAt old a = 1 + (n + 7) / 8 := by
  unfold Go.Proofs.YtdpnnclkkbfihaaDoor.szAt
  rw [getD_of h]
  unfold szO
  rw [if_pos (by omega)]
  omega
/-- a text that is reached is the same where it stands then -/
theorem TextAt.collect {a : Nat} {s : List UInt8} (hv : Vd old st) (h : PI old st fin to mv to.length) (ha : a ∈ fin) (ht : TextAt old a s) : TextAt to (plc (Go.Proofs.YtdpnnclkkbfihaaDoor.szAt old) fin a) s := by
  have h2 := plc_lt (sz := Go.Proofs.YtdpnnclkkbfihaaDoor.szAt old) ha
  have hs := szText ht.1
  have hk : old.getD a 0 = s.length * 256 + 3 := getD_of ht.1
  have hlt := h.ltot
  refine ⟨?_, fun j x hj => ?_⟩
  · rw [getD_lt (l := to) (i := plc (Go.Proofs.YtdpnnclkkbfihaaDoor.szAt old) fin a) (by omega), h.head ha, hk]
  · have hjl := (List.getElem?_eq_some_iff.1 hj).1
    rw [encT_len] at hjl
    have h3 := h.old_ a ha (1 + j) (by omega) (fun e => e.2.2 (by rw [hk]; omega))
    rw [show a + (1 + j) = a + 1 + j by omega, getD_of (ht.2 j x hj)] at h3
    rw [show plc (Go.Proofs.YtdpnnclkkbfihaaDoor.szAt old) fin a + (1 + j) = plc (Go.Proofs.YtdpnnclkkbfihaaDoor.szAt old) fin a + 1 + j by omega] at h3
    rw [getD_lt (l := to) (i := plc (Go.Proofs.YtdpnnclkkbfihaaDoor.szAt old) fin a + 1 + j) (by omega), h3]
end

/-! ### an object more -/
theorem szAt_app {old r : List Nat} {a : Nat} (h : a < old.length) : szAt (old ++ r) a = szAt old a := by
  unfold szAt; rw [getD_app_l h]
theorem Tile.app {old r : List Nat} : ∀ {st : List Nat} {at_ : Nat}, Tile old at_ st → r ≠ [] → szAt (old ++ r) old.length = r.length → Tile (old ++ r) at_ (st ++ [old.length])
  | [], at_, h, hr, hs => by
    simp only [Tile] at h
    subst h
    refine ⟨rfl, by rw [hs, List.length_append]; exact Nat.le_refl _, ?_⟩
    simp only [Tile]
    rw [hs, List.length_append]
  | b :: l, at_, h, hr, hs => by
    obtain ⟨rfl, h1, h2⟩ := h
    have h3 := szAt_pos old b
    have e : szAt (old ++ r) b = szAt old b := szAt_app (by omega)
    refine ⟨rfl, by rw [e, List.length_append]; omega, ?_⟩
    rw [e]
    exact Tile.app h2 hr hs
theorem parts_app {old r : List Nat} {a : Nat} (h : a + szAt old a ≤ old.length) : parts (old ++ r) a = parts old a := by
  have h0 := szAt_pos old a
  unfold parts
  rw [getD_app_l (by omega)]
  split
  · rfl
  · rename_i hk
    have e : szAt old a = 1 + old.getD a 0 / 256 := by unfold szAt szO; rw [if_neg hk]
    rw [List.drop_append_of_le_length (by omega), List.take_append_of_le_length (by rw [List.length_drop]; omega)]
theorem Vd.put {old st obj : List Nat} {hd : Nat} (hv : Vd old st) (hs : szO hd = 1 + obj.length) (hw : ∀ y ∈ hd :: obj, y < 18446744073709551616) (hp : hd % 256 ≠ 3 → ∀ x ∈ obj, x % 2 = 1 ∨ x / 2 ∈ st) : Vd (old ++ hd :: obj) (st ++ [old.length]) := by
  have hg : (old ++ hd :: obj).getD old.length 0 = hd := by
    simp
  have hsz : szAt (old ++ hd :: obj) old.length = (hd :: obj).length := by unfold szAt; rw [hg, hs, List.length_cons]; omega
  refine ⟨hv.tile.app (by simp) hsz, fun a ha x hx => ?_, fun y hy => ?_⟩
  · rcases List.mem_append.1 ha with ha | ha
    · rw [parts_app (hv.in ha).2] at hx
      rcases hv.refs a ha x hx with h | h
      · exact .inl h
      · exact .inr (List.mem_append_left _ h)
    · simp at ha
      subst ha
      unfold parts at hx
      rw [hg] at hx
      split at hx
      · cases hx
      · rename_i hk
        have h1 : ((old ++ hd :: obj).drop (old.length + 1)).take (hd / 256) = obj := by
          rw [List.drop_append, List.drop_eq_nil_of_le (by omega), List.nil_append, show old.length + 1 - old.length = 1 by omega, List.drop_one, List.tail_cons]
          have e : szO hd = 1 + hd / 256 := by unfold szO; rw [if_neg hk]
          exact List.take_of_length_le (by omega)
        rw [h1] at hx
        rcases hp hk x hx with h | h
        · exact .inl h
        · exact .inr (List.mem_append_left _ h)
  · rcases List.mem_append.1 hy with hy | hy
    · exact hv.w64 y hy
    · exact hw y hy
theorem Vd.nil : Vd [] [] := ⟨rfl, fun _ h => (by cases h), fun _ h => (by cases h)⟩
theorem encT_lt {s : List UInt8} {y : Nat} (h : y ∈ encT s) : y < 18446744073709551616 := by
  unfold encT at h
  obtain ⟨i, _, rfl⟩ := List.mem_map.1 h
  have h1 := leW_lt ((s.drop (8 * i)).take 8)
  have h2 : ((s.drop (8 * i)).take 8).length ≤ 8 := by simp; omega
  have h3 : 256 ^ ((s.drop (8 * i)).take 8).length ≤ 256 ^ 8 := Nat.pow_le_pow_right (by decide) h2
  have h4 : (256 : Nat) ^ 8 = 18446744073709551616 := by decide
  omega
theorem Vd.putText {old st : List Nat} {s : List UInt8} (hv : Vd old st) (hs : s.length ≤ 1000000) : Vd (old ++ [s.length * 256 + 3] ++ encT s) (st ++ [old.length]) := by
  rw [List.append_assoc, show [s.length * 256 + 3] ++ encT s = (s.length * 256 + 3) :: encT s from rfl]
  refine hv.put ?_ (fun y hy => ?_) (fun h => absurd (by omega) h)
  · unfold szO; rw [if_pos (by omega), encT_len]; omega
  · rcases List.mem_cons.1 hy with rfl | hy
    · omega
    · exact encT_lt hy

/-! ### a row of roots -/
def rowAt (g m : Nat) : List (Nat × Nat) := (List.range m).map fun i => (g, i)
theorem rowAt_get {g m i : Nat} (h : i < m) : (rowAt g m)[i]? = some (g, i) := by
  unfold rowAt; rw [List.getElem?_map, List.getElem?_range h]; rfl
theorem rowAt_mem {g m b o : Nat} (h : (b, o) ∈ rowAt g m) : b = g ∧ o < m := by
  unfold rowAt at h
  obtain ⟨i, hi, e⟩ := List.mem_map.1 h
  injection e with e1 e2
  subst e1 e2
  exact ⟨rfl, List.mem_range.1 hi⟩
theorem rowAt_nodup (g m : Nat) : (rowAt g m).Nodup := by
  unfold rowAt
  rw [List.nodup_iff_pairwise_ne, List.pairwise_map]
  exact List.nodup_range.imp (fun h e => h (by injection e))
theorem rowAt_len (g m : Nat) : (rowAt g m).length = m := by simp [rowAt]
/-- what an owned row of words is: its places -/
theorem Own.roots {w : World} {F : Nat → Prop} {v : Value} {ys : List Nat} (h : Own w F tWord 1 v ys.length (ys.map Wd)) :
    ∃ g A c, v = .slice A ys.length c ∧ (0 < ys.length → A = some ⟨g, 0, none⟩ ∧ F g ∧ g < w.heap.size) ∧ Roots w w (rowAt g ys.length) ys ∧ (∀ e ∈ rowAt g ys.length, ∃ cs, Blk w e.1 cs tWord) ∧
      ∀ (w' : World) (S : Nat → Prop) (zs : List Nat), Upd S w w' → (ys.length = 0 → ∀ k, F k → k < w.heap.size → ¬ S k) → Roots w w' (rowAt g ys.length) zs → Own w' F tWord 1 v ys.length (zs.map Wd) := by
  rcases Nat.eq_zero_or_pos ys.length with h0 | h0
  · obtain ⟨A, c, rfl, _⟩ := h.form
    refine ⟨0, A, c, rfl, fun h => by omega, ⟨by rw [rowAt_len], fun b cs ⟨o, ho⟩ _ => by have := (rowAt_mem ho).2; omega⟩, fun e he => by obtain ⟨b, o⟩ := e; have := (rowAt_mem he).2; omega, fun w' S zs hu hn hz => ?_⟩
    have hzl := hz.len
    rw [rowAt_len] at hzl
    have e1 : zs = [] := List.eq_nil_of_length_eq_zero (by omega)
    have e2 : ys = [] := List.eq_nil_of_length_eq_zero h0
    rw [e1]
    rw [e2] at h hn ⊢
    exact h.upd hu (hn rfl)
  · rcases h.1.2 with ⟨_, h1⟩ | ⟨g, cap, cur, rfl, _, hg, hnc, hcm, hcs, htk⟩
    · omega
    · have hb : Blk w g cur tWord := hg
      rw [Nat.mul_one] at htk hcs
      have hcur : ∀ (i y : Nat), ys[i]? = some y → cur[i]? = some (Wd y) := fun i y hy => by
        have hi := (List.getElem?_eq_some_iff.1 hy).1
        have h4 : (ys.map Wd)[i]? = some (Wd y) := by rw [List.getElem?_map, hy]; rfl
        rw [← htk, List.getElem?_take_of_lt hi, Array.getElem?_toList] at h4
        exact h4
      refine ⟨g, _, cap, rfl, fun _ => ⟨rfl, h.2 g rfl, hb.lt⟩, ⟨by rw [rowAt_len], fun b cs ⟨o, ho⟩ hk => ?_⟩, fun e he => ?_, fun w' S zs hu _ hz => ?_⟩
      · obtain ⟨rfl, ho2⟩ := rowAt_mem ho
        obtain rfl := hk.inj hb
        refine ⟨cs, hb, rfl, fun _ _ => rfl, fun i o2 hi => ?_⟩
        have hil := (List.getElem?_eq_some_iff.1 hi).1
        rw [rowAt_len] at hil
        rw [rowAt_get hil] at hi
        injection hi with hi
        injection hi with _ hi
        subst hi
        exact ⟨ys[i], List.getElem?_eq_getElem hil, hcur i _ (List.getElem?_eq_getElem hil)⟩
      · obtain ⟨b, o⟩ := e
        obtain ⟨rfl, _⟩ := rowAt_mem he
        exact ⟨cur, hb⟩
      · have hzl := hz.len
        rw [rowAt_len] at hzl
        obtain ⟨cs', h1, h2, _, h4⟩ := hz.blk g cur ⟨0, List.mem_of_getElem? (rowAt_get h0)⟩ hb
        have h5 := Own.shut (F := F) (sz := 1) h1 (h.2 g rfl) hnc hcm (by omega)
        have e : cs'.toList.take (ys.length * 1) = zs.map Wd := by
          rw [Nat.mul_one]
          apply List.ext_getElem?
          intro i
          rcases Nat.lt_or_ge i ys.length with hi | hi
          · obtain ⟨y, hy1, hy2⟩ := h4 i i (rowAt_get hi)
            rw [List.getElem?_take_of_lt hi, Array.getElem?_toList, hy2, List.getElem?_map, hy1]
            rfl
          · rw [List.getElem?_eq_none (by rw [List.length_take]; omega), List.getElem?_eq_none (by rw [List.length_map]; omega)]
        rw [e] at h5
        exact h5
end Go.Proofs.YtdpnnclkkbfihaaDoor

/-
  heap: pointers; PutText with whatever roots.
-/
namespace Go.Proofs.YtdpnnclkkbfihaaDoor
open Go
set_option linter.unusedSimpArgs false
set_option linter.unusedVariables false

/-- a fact that stands though the heap's own blocks and new ones change -/
structure XW (w0 : World) (p : Nat) (G : Nat → Prop) (X : World → Prop) (w : World) : Prop where
  ok : X w
  sz : w0.heap.size ≤ w.heap.size
  st : ∀ w1 w2, w0.heap.size ≤ w1.heap.size → X w1 → Upd (fun k => k = p ∨ G k ∨ w0.heap.size ≤ k) w1 w2 → X w2
theorem XW.upd {w0 w w' : World} {p : Nat} {G S : Nat → Prop} {X : World → Prop} (h : XW w0 p G X w) (hu : Upd S w w') (hn : ∀ k, k < w.heap.size → S k → k = p ∨ G k ∨ w0.heap.size ≤ k) : XW w0 p G X w' :=
  ⟨h.st _ _ h.sz h.ok (hu.mono hn), Nat.le_trans h.sz hu.size, h.st⟩
theorem pointers_ok {w : World} {F : Nat → Prop} {A : Option Addr} {c g : Nat} {ys : List Nat} (hr : Rd w F (.slice A ys.length c) ys.length 1 (ys.map Wd)) (hA : 0 < ys.length → A = some ⟨g, 0, none⟩) (hn : ys.length ≤ 1000000) :
    Ret Tryd.prog 13 #[.slice A ys.length c] w fun v' w' => Own w' (New w w') 82 1 v' (rowAt g ys.length).length ((rowAt g ys.length).map ptrV) ∧ Upd No w w' := by
  refine enterRet (vs := [_]) (N := 18) Tryd.func13 rfl rfl rfl ?_
  have hU := Upd.refl No w
  refine WC.keep [(0, _)] ⟨rfl, trivial⟩ ?_
  refine WC.seq ?_
  refine WC.region ?_
  refine WL.val rfl rfl rfl rfl (r_assign rfl ev_c) ?_
  refine WL.nil ?_
  refine WX.keep [(0, _)] ⟨rfl, trivial⟩ ?_
  refine WX.next ?_
  refine WC.seq ?_
  refine WC.region ?_
  refine WL.val rfl rfl rfl rfl (r_assign rfl ev_c) ?_
  refine WL.nil ?_
  refine WX.keep [(0, _), (3, _)] ⟨rfl, rfl, trivial⟩ ?_
  refine WX.next ?_
  refine WC.seq ?_
  refine WC.seq ?_
  refine WC.region ?_
  refine WL.val rfl rfl rfl rfl (r_assign rfl ev_c) ?_
  refine WL.nil ?_
  refine WX.keep [(0, _), (3, _), (4, _)] ⟨rfl, rfl, rfl, trivial⟩ ?_
  refine WX.next ?_
  refine WC.block ?_
  -- loop 1: live [0, 3, 4]
  refine WC.keep [(0, _), (3, _), (4, _)] ⟨rfl, rfl, rfl, trivial⟩ ?_
  refine WC.loop (fun qq E wC => ∃ (j : Nat) (v1 : Value), j ≤ ys.length ∧ qq = ys.length - j ∧ Upd No w wC ∧ Own wC (New w wC) 82 1 v1 j ((rowAt g j).map ptrV) ∧ E = [(0, .slice A ys.length c), (3, v1), (4, .int .i64 (j : Int))]) (ys.length) ?_ ?_
  · exact ⟨0, _, by omega, by omega, hU, by simpa [rowAt] using Own.nil _ _ _ _, rfl⟩
  · clear hU
    rintro qq E wC ⟨j, v1, hj, rfl, hU, how, rfl⟩
    have hUs := hU.size
    refine WC.seq ?_
    refine WC.seq ?_
    refine WC.region ?_
    refine WL.val rfl rfl rfl rfl (r_move rfl (ev_t rfl)) ?_
    refine WL.val rfl rfl rfl rfl (r_move rfl (ev_t rfl)) ?_
    refine WL.val rfl rfl rfl rfl (r_lenSlice (ts := #[]) rfl (ev_t rfl) elem_30) ?_
    refine WL.val rfl rfl rfl rfl (r_lss rfl (ev_t rfl) (ev_t rfl)) ?_
    refine WL.nil ?_
    refine WX.keep [(0, _), (3, _), (4, _), (8, _)] ⟨rfl, rfl, rfl, rfl, trivial⟩ ?_
    refine WX.next ?_
    refine WC.cond rfl (ev_t rfl) (fun hc3 => ?_) (fun hc3 => ?_)
    · try (exfalso; first | (simp at hc3; done) | (simp only [decide_eq_true_eq, decide_eq_false_iff_not, Bool.not_eq_true', Bool.not_eq_false', Bool.not_eq_true, Bool.not_eq_false] at hc3; omega) | omega)
      all_goals
       try simp only [decide_eq_true_eq, decide_eq_false_iff_not, Bool.not_eq_true', Bool.not_eq_false', Bool.not_eq_true, Bool.not_eq_false, Option.isNone_none, Option.isNone_some, Option.isSome_none, Option.isSome_some, ne_eq, Decidable.not_not] at hc3
       have hjl : j < ys.length := by simpa using hc3
       have hA2 := hA (by omega)
       subst hA2
       refine WC.skip ?_
       refine WX.next ?_
       refine WC.seq ?_
       refine WC.block ?_
       refine WC.region ?_
       refine WL.val rfl rfl rfl rfl (r_move rfl (ev_t rfl)) ?_
       refine WL.val rfl rfl rfl rfl (r_move rfl (ev_t rfl)) ?_
       refine WL.val rfl rfl rfl rfl (r_move rfl (ev_t rfl)) ?_
       refine WL.val rfl rfl rfl rfl (r_indexAddr rfl (ev_t rfl) (ev_t rfl) elem_30 size_32 (by omega) (by omega)) ?_
       rw [show 0 + (j : Int).toNat * 1 = j by omega]
       refine WL.cons (SO.alloc rfl rfl rfl rfl (r_buildSlice1 (vs := [_]) rfl ⟨(ev_t rfl), trivial⟩ rfl row_35 rfl rfl) ?_)
       intro w1 hu1 hB1 hz1
       have hs1 := hu1.size
       replace hU := hU.trans hu1 (by exact (fun _ _ h => h))
       replace how := how.upd hu1 (fun k hk hl hS => (show False from hS).elim)
       refine WL.cons (SO.append how (show Rd _ _ _ 1 1 [ptrV (g, j)] from Rd.of_blk (F := At _) (n := 1) (sz := 1) hB1 rfl rfl (by omega)) row_35 (fun u hu => by simp at hu; subst hu; rfl) (le_maxLen (by omega)) (by omega) rfl (ev_t rfl) (ev_t rfl) rfl rfl rfl rfl ?_)
       intro v2 w2 how hu2
       have hs2 := hu2.size
       replace hU := hU.trans hu2 (by (intro k hl hk; (try simp only [At, New, Grow, From, No] at hk ⊢); omega))
       obtain ⟨A2, c2, rfl, hc2⟩ := Own.form how
       refine WL.val rfl rfl rfl rfl (r_assign rfl (ev_t rfl)) ?_
       refine WL.nil ?_
       refine WX.keep [(0, _), (3, _), (4, _)] ⟨rfl, rfl, rfl, trivial⟩ ?_
       refine WX.blockNormal ?_
       refine WX.next ?_
       refine WC.region ?_
       refine WL.val rfl rfl rfl rfl (r_move rfl (ev_t rfl)) ?_
       refine WL.val rfl rfl rfl rfl (r_addN rfl (ev_t rfl) ev_c (by simp only [inK]; omega)) ?_
       refine WL.val rfl rfl rfl rfl (r_assign rfl (ev_t rfl)) ?_
       refine WL.nil ?_
       refine WX.keep [(0, _), (3, _), (4, _)] ⟨rfl, rfl, rfl, trivial⟩ ?_
       refine WX.meet [(0, _), (3, _), (4, _)] ⟨rfl, rfl, rfl, trivial⟩ ?_
       refine ⟨ys.length - (j + 1), by omega, j + 1, _, by omega, rfl, hU, ?_, rfl⟩
       have e1 : (rowAt g j).map ptrV ++ [ptrV (g, j)] = (rowAt g (j + 1)).map ptrV := by unfold rowAt; rw [List.range_succ, List.map_append, List.map_append]; rfl
       rw [e1] at how
       have hUt := hU.size
       refine how.mono (fun k hk => ?_)
       simp only [Grow, New] at hk ⊢
       have hs9 := (hu2).size
       omega
    · try (exfalso; first | (simp at hc3; done) | (simp only [decide_eq_true_eq, decide_eq_false_iff_not, Bool.not_eq_true', Bool.not_eq_false', Bool.not_eq_true, Bool.not_eq_false] at hc3; omega) | omega)
      all_goals
       try simp only [decide_eq_true_eq, decide_eq_false_iff_not, Bool.not_eq_true', Bool.not_eq_false', Bool.not_eq_true, Bool.not_eq_false, Option.isNone_none, Option.isNone_some, Option.isSome_none, Option.isSome_some, ne_eq, Decidable.not_not] at hc3
       refine WC.exit ?_
       refine WX.thenExit ?_
       refine WX.thenExit ?_
       refine WX.blockHere ?_
       refine WX.next ?_
       refine WC.seq ?_
       refine WC.region ?_
       refine WL.val rfl rfl rfl rfl (r_move rfl (ev_t rfl)) ?_
       refine WL.val rfl rfl rfl rfl (r_assign rfl (ev_t rfl)) ?_
       refine WL.nil ?_
       refine WX.keep [(2, _)] ⟨rfl, trivial⟩ ?_
       refine WX.next ?_
       refine WC.ret ?_
       refine WX.retE1 rfl rfl ?_
       obtain rfl : j = ys.length := by
         have : ¬ j < ys.length := by simpa using hc3
         omega
       rw [rowAt_len]
       exact ⟨how, hU⟩
theorem roomFit_ok {w : World} {G : Nat → Prop} {p : Nat} {A : Option Addr} {c : Nat} {mem : List Nat} {q n d : Nat} {vR : Value} (hH : HS w G p A c mem q n) (hd : d ≤ 1000000000000) (hf : d + mem.length ≤ q) :
    Ret Tryd.prog 41 #[.pointer (some ⟨p, 0, none⟩), .int .i64 (d : Int), vR] w fun v w' => v = .bool true ∧ Upd No w w' := by
  have hle := hH.le
  have hhd := hH.hd
  refine enterRet (vs := [_, _, _]) (N := 34) Tryd.func41 rfl rfl rfl ?_
  have hU := Upd.refl No w
  refine WC.keep [(0, _), (1, _), (2, _)] ⟨rfl, rfl, rfl, trivial⟩ ?_
  refine WC.seq ?_
  refine WC.region ?_
  refine WL.val rfl rfl rfl rfl (r_assign rfl ev_c) ?_
  refine WL.nil ?_
  refine WX.keep [(0, _), (1, _), (2, _)] ⟨rfl, rfl, rfl, trivial⟩ ?_
  refine WX.next ?_
  refine WC.seq ?_
  refine WC.seq ?_
  refine WC.draws' (fun u0_ u1_ => Upd No u0_ u1_) (fun j => [0, 0, 0, 0, 0, 0, 0, 0, 1, 0, 0, 0].getD j 0) (.calm 0 (.calm 1 (.calm 2 (.calm 3 (.calm 5 (.calm 6 (.calm 7 (.held 4 (.one 8 (.calm 9 (.calm 10 (.calm 11 (.done))))))))))))) mixed (by kernel_rfl) (by repeat (first | with_reducible exact Deaf.body | with_reducible apply Deaf.then)) ?_
  intro w1 hu1
  have hz1 := congrArg Array.size hu1.2.2.2
  replace hu1 := Upd.of_draw hu1
  have hs1 := hu1.size
  replace hU := hU.transA hu1
  replace hhd := hhd.upd hu1 (fun hS => hS)
  have hS1 := Upd.refl No w1
  refine WN.calm _ rfl rfl rfl rfl rfl (fun _ => r_move rfl (ev_t rfl)) ?_
  refine WN.calm _ rfl rfl rfl rfl rfl (fun _ => r_move rfl (ev_t rfl)) ?_
  refine WN.calm _ rfl rfl rfl rfl rfl (fun _ => r_nilCheck rfl (ev_t rfl)) ?_
  refine WN.calm _ rfl rfl rfl rfl rfl (fun _ => r_field0 rfl (ev_t rfl) fld_79_1) ?_
  refine WN.calm _ rfl rfl rfl rfl rfl (fun _ => r_move rfl (ev_t rfl)) ?_
  refine WN.calm _ rfl rfl rfl rfl rfl (fun _ => r_nilCheck rfl (ev_t rfl)) ?_
  refine WN.calm _ rfl rfl rfl rfl rfl (fun _ => r_field0 rfl (ev_t rfl) fld_79_0) ?_
  refine WN.held _ rfl rfl rfl rfl rfl hS1 (fun w' hS => r_load rfl (ev_t rfl) flat_3 (Blk.cell (hhd.upd hS (fun h => h)) rfl)) ?_
  refine WN.step _ rfl (SO.val rfl rfl rfl rfl (r_load rfl (ev_t rfl) flat_30 (Blk.cell hhd rfl)) ?_)
  refine ⟨hS1, ?_⟩
  refine WN.calm _ rfl rfl rfl rfl rfl (fun _ => r_lenSlice (ts := #[]) rfl (ev_t rfl) elem_30) ?_
  refine WN.calm _ rfl rfl rfl rfl rfl (fun _ => r_subN rfl (ev_t rfl) (ev_t rfl) (by simp only [inK]; omega)) ?_
  refine WN.calm _ rfl rfl rfl rfl rfl (fun _ => r_gtr rfl (ev_t rfl) (ev_t rfl)) ?_
  refine WN.done ?_
  refine WX.keep [(0, _), (1, _), (2, _), (18, _)] ⟨rfl, rfl, rfl, rfl, trivial⟩ ?_
  refine WX.next ?_
  refine WC.cond rfl (ev_t rfl) (fun hc1 => ?_) (fun hc1 => ?_)
  · try simp only [decide_eq_true_eq, decide_eq_false_iff_not, Bool.not_eq_true', Bool.not_eq_false', Bool.not_eq_true, Bool.not_eq_false, Option.isNone_none, Option.isNone_some, Option.isSome_none, Option.isSome_some, ne_eq, Decidable.not_not] at hc1
    exfalso
    omega
  · try (exfalso; first | (simp at hc1; done) | (simp only [decide_eq_true_eq, decide_eq_false_iff_not, Bool.not_eq_true', Bool.not_eq_false', Bool.not_eq_true, Bool.not_eq_false] at hc1; omega) | omega)
    all_goals
     try simp only [decide_eq_true_eq, decide_eq_false_iff_not, Bool.not_eq_true', Bool.not_eq_false', Bool.not_eq_true, Bool.not_eq_false, Option.isNone_none, Option.isNone_some, Option.isSome_none, Option.isSome_some, ne_eq, Decidable.not_not] at hc1
     refine WC.skip ?_
     refine WX.next ?_
     refine WC.seq ?_
     refine WC.draws' (fun u0_ u1_ => Upd No u0_ u1_) (fun j => [0, 0, 0, 0, 0, 0, 0, 0, 1, 0, 0, 0, 0].getD j 0) (.calm 0 (.calm 1 (.calm 2 (.calm 3 (.calm 5 (.calm 6 (.calm 7 (.held 4 (.one 8 (.calm 9 (.calm 10 (.calm 11 (.calm 12 (.done)))))))))))))) mixed (by kernel_rfl) (by repeat (first | with_reducible exact Deaf.body | with_reducible apply Deaf.then)) ?_
     intro w2 hu2
     have hz2 := congrArg Array.size hu2.2.2.2
     replace hu2 := Upd.of_draw hu2
     have hs2 := hu2.size
     replace hU := hU.transA hu2
     replace hhd := hhd.upd hu2 (fun hS => hS)
     have hS3 := Upd.refl No w2
     refine WN.calm _ rfl rfl rfl rfl rfl (fun _ => r_move rfl (ev_t rfl)) ?_
     refine WN.calm _ rfl rfl rfl rfl rfl (fun _ => r_move rfl (ev_t rfl)) ?_
     refine WN.calm _ rfl rfl rfl rfl rfl (fun _ => r_nilCheck rfl (ev_t rfl)) ?_
     refine WN.calm _ rfl rfl rfl rfl rfl (fun _ => r_field0 rfl (ev_t rfl) fld_79_1) ?_
     refine WN.calm _ rfl rfl rfl rfl rfl (fun _ => r_move rfl (ev_t rfl)) ?_
     refine WN.calm _ rfl rfl rfl rfl rfl (fun _ => r_nilCheck rfl (ev_t rfl)) ?_
     refine WN.calm _ rfl rfl rfl rfl rfl (fun _ => r_field0 rfl (ev_t rfl) fld_79_0) ?_
     refine WN.held _ rfl rfl rfl rfl rfl hS3 (fun w' hS => r_load rfl (ev_t rfl) flat_3 (Blk.cell (hhd.upd hS (fun h => h)) rfl)) ?_
     refine WN.step _ rfl (SO.val rfl rfl rfl rfl (r_load rfl (ev_t rfl) flat_30 (Blk.cell hhd rfl)) ?_)
     refine ⟨hS3, ?_⟩
     refine WN.calm _ rfl rfl rfl rfl rfl (fun _ => r_lenSlice (ts := #[]) rfl (ev_t rfl) elem_30) ?_
     refine WN.calm _ rfl rfl rfl rfl rfl (fun _ => r_subN rfl (ev_t rfl) (ev_t rfl) (by simp only [inK]; omega)) ?_
     refine WN.calm _ rfl rfl rfl rfl rfl (fun _ => r_leq rfl (ev_t rfl) (ev_t rfl)) ?_
     refine WN.calm _ rfl rfl rfl rfl rfl (fun _ => r_assign rfl (ev_t rfl)) ?_
     refine WN.done ?_
     refine WX.keep [(6, _)] ⟨rfl, trivial⟩ ?_
     refine WX.next ?_
     refine WC.ret ?_
     refine WX.retE1 rfl rfl ?_
     exact ⟨congrArg Value.bool (decide_eq_true (by omega)), hU⟩
set_option maxHeartbeats 2000000 in
theorem puttextG_ok {w : World} {G : Nat → Prop} {p : Nat} {A : Option Addr} {c : Nat} {mem : List Nat} {q n : Nat} {s : List UInt8} {vR : Value} {S : Nat → Prop} {X : World → List Nat → Nat → Prop} (hH : HS w G p A c mem q n) (hs : s.length ≤ 1000000)
    (hroom : Ret Tryd.prog 41 #[.pointer (some ⟨p, 0, none⟩), .int .i64 ((textN s : Nat) : Int), vR] w fun v w' => ∃ G1 A1 c1 M N, v = .bool (decide (textN s + M.length ≤ q)) ∧ HS w' G1 p A1 c1 M q N ∧ (∀ k, G1 k → G k ∨ w.heap.size ≤ k) ∧ Upd S w w' ∧ X w' M N)
    (hX : ∀ w1 w2 M N, w.heap.size ≤ w1.heap.size → X w1 M N → Upd (fun k => k = p ∨ G k ∨ w.heap.size ≤ k) w1 w2 → X w2 M N) :
    Ret Tryd.prog 12 #[.pointer (some ⟨p, 0, none⟩), .string ⟨s.toArray⟩, vR] w fun v w' => ∃ G' A' c' mem' M N, HS w' G' p A' c' mem' q N ∧ (∀ k, G' k → G k ∨ w.heap.size ≤ k) ∧ Upd (fun k => k = p ∨ G k ∨ S k) w w' ∧ X w' M N ∧
      (textN s + M.length ≤ q → v = .tuple #[.int .u64 ((2 * M.length : Nat) : Int), .int .i64 0] ∧ mem' = M ++ [s.length * 256 + 3] ++ encT s) ∧
      (¬ textN s + M.length ≤ q → v = .tuple #[.int .u64 0, .int .i64 11] ∧ mem' = M) := by
  have hle := hH.le
  have hlp := hH.hd.lt
  have hlG := hH.lt
  have hnG := hH.ne
  refine enterRet (vs := [_, _, _]) (N := 80) Tryd.func12 rfl rfl rfl ?_
  have hU := Upd.refl (fun k => k = p ∨ G k ∨ S k) w
  refine WC.keep [(0, _), (1, _), (2, _)] ⟨rfl, rfl, rfl, trivial⟩ ?_
  refine WC.seq ?_
  refine WC.region ?_
  refine WL.val rfl rfl rfl rfl (r_assign rfl ev_c) ?_
  refine WL.val rfl rfl rfl rfl (r_assign rfl ev_c) ?_
  refine WL.nil ?_
  refine WX.keep [(0, _), (1, _), (2, _)] ⟨rfl, rfl, rfl, trivial⟩ ?_
  refine WX.next ?_
  refine WC.seq ?_
  refine WC.seq ?_
  refine WC.region ?_
  refine WL.val rfl rfl rfl rfl (r_move rfl (ev_t rfl)) ?_
  refine WL.val rfl rfl rfl rfl (r_eqlPtrNil rfl (ev_t rfl) ev_c ptr_26) ?_
  refine WL.nil ?_
  refine WX.keep [(0, _), (1, _), (2, _), (13, _)] ⟨rfl, rfl, rfl, rfl, trivial⟩ ?_
  refine WX.next ?_
  refine WC.cond rfl (ev_t rfl) (fun hc1 => ?_) (fun hc1 => ?_)
  · try (exfalso; first | (simp at hc1; done) | (simp only [decide_eq_true_eq, decide_eq_false_iff_not, Bool.not_eq_true', Bool.not_eq_false', Bool.not_eq_true, Bool.not_eq_false] at hc1; omega) | omega)
  · try (exfalso; first | (simp at hc1; done) | (simp only [decide_eq_true_eq, decide_eq_false_iff_not, Bool.not_eq_true', Bool.not_eq_false', Bool.not_eq_true, Bool.not_eq_false] at hc1; omega) | omega)
    all_goals
     try simp only [decide_eq_true_eq, decide_eq_false_iff_not, Bool.not_eq_true', Bool.not_eq_false', Bool.not_eq_true, Bool.not_eq_false, Option.isNone_none, Option.isNone_some, Option.isSome_none, Option.isSome_some, ne_eq, Decidable.not_not] at hc1
     refine WC.skip ?_
     refine WX.next ?_
     refine WC.seq ?_
     refine WC.seq ?_
     refine WC.region ?_
     refine WL.val rfl rfl rfl rfl (r_move rfl (ev_t rfl)) ?_
     refine WL.val rfl rfl rfl rfl (r_move rfl (ev_t rfl)) ?_
     refine WL.val rfl rfl rfl rfl (r_lenStrL rfl (ev_t rfl) str_9) ?_
     refine WL.cons (SO.call (need_ok (by omega)) rfl body_10 ⟨ev_c, (ev_t rfl), trivial⟩ rfl rfl rfl rfl ?_)
     rintro v w1 ⟨rfl, rfl⟩
     refine WL.val rfl rfl rfl rfl (r_move rfl (ev_t rfl)) ?_
     refine WL.cons (SO.call (hroom) rfl body_41 ⟨(ev_t rfl), (ev_t rfl), (ev_t rfl), trivial⟩ rfl rfl rfl rfl ?_)
     rintro v w2 ⟨G1, A1, c1, M, N, rfl, hH2, hG1, hu2, hXx⟩
     have hs2 := hu2.size
     replace hU := hU.trans hu2 (by (intro k hl hk; first | exact (show False from hk).elim | (simp only [At] at hk; exact .inl hk) | exact .inr (.inr hk) | (have h9 := hG1 k hk; rcases h9 with h | h; exact .inr (.inl h); (exfalso; omega)) | (have h9 := hG2 k hk; rcases h9 with h | h; exact .inr (.inl h); (exfalso; omega))))
     have hXX : XW w p G (fun w => X w M N) w2 := ⟨hXx, (hu2).size, fun w1 w2 h1 h2 h3 => hX w1 w2 M N h1 h2 h3⟩
     clear hroom hX hXx
     have hH := hH2
     have hle1 := hH.le
     refine WL.val rfl rfl rfl rfl (r_not rfl (ev_t rfl)) ?_
     refine WL.nil ?_
     refine WX.keep [(0, _), (1, _), (20, _)] ⟨rfl, rfl, rfl, trivial⟩ ?_
     refine WX.next ?_
     refine WC.cond rfl (ev_t rfl) (fun hc3 => ?_) (fun hc3 => ?_)
     · try (exfalso; first | (simp at hc3; done) | (simp only [decide_eq_true_eq, decide_eq_false_iff_not, Bool.not_eq_true', Bool.not_eq_false', Bool.not_eq_true, Bool.not_eq_false] at hc3; omega) | omega)
       all_goals
        try simp only [decide_eq_true_eq, decide_eq_false_iff_not, Bool.not_eq_true', Bool.not_eq_false', Bool.not_eq_true, Bool.not_eq_false, Option.isNone_none, Option.isNone_some, Option.isSome_none, Option.isSome_some, ne_eq, Decidable.not_not] at hc3
        refine WC.seq ?_
        refine WC.region ?_
        refine WL.val rfl rfl rfl rfl (r_assign rfl ev_c) ?_
        refine WL.val rfl rfl rfl rfl (r_assign rfl ev_c) ?_
        refine WL.nil ?_
        refine WX.keep [(6, _), (7, _)] ⟨rfl, rfl, trivial⟩ ?_
        refine WX.next ?_
        refine WC.ret ?_
        refine WX.thenRet ?_
        refine WX.retE2 rfl rfl rfl ?_
        exact ⟨G1, _, _, M, M, N, hH, fun k hk => hG1 k hk, hU, hXX.ok, fun h => absurd h (by simpa using hc3), fun _ => ⟨rfl, rfl⟩⟩
     · try (exfalso; first | (simp at hc3; done) | (simp only [decide_eq_true_eq, decide_eq_false_iff_not, Bool.not_eq_true', Bool.not_eq_false', Bool.not_eq_true, Bool.not_eq_false] at hc3; omega) | omega)
       all_goals
        try simp only [decide_eq_true_eq, decide_eq_false_iff_not, Bool.not_eq_true', Bool.not_eq_false', Bool.not_eq_true, Bool.not_eq_false, Option.isNone_none, Option.isNone_some, Option.isSome_none, Option.isSome_some, ne_eq, Decidable.not_not] at hc3
        have hfit : textN s + M.length ≤ q := by simpa using hc3
        have hfit2 : 1 + (s.length + 7) / 8 + M.length ≤ q := hfit
        refine WC.skip ?_
        refine WX.next ?_
        refine WC.seq ?_
        refine WC.region ?_
        refine WL.val rfl rfl rfl rfl (r_move rfl (ev_t rfl)) ?_
        refine WL.val rfl rfl rfl rfl (r_nilCheck rfl (ev_t rfl)) ?_
        refine WL.val rfl rfl rfl rfl (r_field0 rfl (ev_t rfl) fld_79_0) ?_
        refine WL.val rfl rfl rfl rfl (r_load rfl (ev_t rfl) flat_30 (Blk.cell hH.hd rfl)) ?_
        refine WL.val rfl rfl rfl rfl (r_lenSlice (ts := #[]) rfl (ev_t rfl) elem_30) ?_
        refine WL.val rfl rfl rfl rfl (r_assign rfl (ev_t rfl)) ?_
        refine WL.nil ?_
        refine WX.keep [(0, _), (1, _), (8, _)] ⟨rfl, rfl, rfl, trivial⟩ ?_
        refine WX.next ?_
        -- cut r6: live [0, 1, 8]
        refine WC.cut (fun E wB => ∃ (A2 : Option Addr) (c2 : Nat) (G2 : Nat → Prop), Upd (fun k => k = p ∨ G k ∨ S k) w wB ∧ XW w p G (fun w => X w M N) wB ∧ HS wB G2 p A2 c2 (M ++ [s.length * 256 + 3]) q N ∧ (∀ k, G2 k → G k ∨ w.heap.size ≤ k) ∧ E = [(0, .pointer (some ⟨p, 0, none⟩)), (1, .string ⟨s.toArray⟩), (8, .int .i64 (M.length : Int))]) ?_ ?_
        · obtain ⟨hhd, how, hne, hlt, hle2, hcn⟩ := hH
          refine WC.draws' (fun u0_ u1_ => Upd (fun k => k = p ∨ G1 k) u0_ u1_) (fun j => [0, 0, 0, 0, 2, 0, 0, 2, 2, 2, 0, 0, 2].getD j 0) (.calm 0 (.calm 1 (.calm 2 (.calm 3 (.calm 5 (.calm 6 (.two 4 7 (.one 7 (.one 8 (.one 9 (.calm 10 (.calm 11 (.one 12 (.done))))))) (.two 4 8 (.one 8 (.one 9 (.calm 10 (.calm 11 (.one 12 (.done)))))) (.one 4 (.one 9 (.calm 10 (.calm 11 (.one 12 (.done)))))))))))))) mixed (by kernel_rfl) (by repeat (first | with_reducible exact Deaf.body | with_reducible apply Deaf.then)) ?_
          intro w3 hu3
          have hz3 := congrArg Array.size hu3.2.2.2
          replace hu3 := Upd.of_draw hu3
          have hs3 := hu3.size
          replace hU := hU.trans hu3 (by exact (fun _ _ h => h.elim))
          replace hXX := hXX.upd hu3 (fun k hl hk => by exact (show False from hk).elim)
          replace hhd := hhd.upd hu3 (fun hS => by exact (show False from hS))
          replace how := how.upd hu3 (fun k hk hl hS => by exact (show False from hS).elim)
          refine WN.calm _ rfl rfl rfl rfl rfl (fun _ => r_move rfl (ev_t rfl)) ?_
          refine WN.calm _ rfl rfl rfl rfl rfl (fun _ => r_move rfl (ev_t rfl)) ?_
          refine WN.calm _ rfl rfl rfl rfl rfl (fun _ => r_nilCheck rfl (ev_t rfl)) ?_
          refine WN.calm _ rfl rfl rfl rfl rfl (fun _ => r_field0 rfl (ev_t rfl) fld_79_0) ?_
          refine WN.calm _ rfl rfl rfl rfl rfl (fun _ => r_move rfl (ev_t rfl)) ?_
          refine WN.calm _ rfl rfl rfl rfl rfl (fun _ => r_lenStrL rfl (ev_t rfl) str_9) ?_
          refine WN.fork _ _ rfl rfl ?_ ?_
          · refine SO.val rfl rfl rfl rfl (r_load rfl (ev_t rfl) flat_30 (Blk.cell hhd rfl)) ?_
            refine ⟨trivial, ?_⟩
            refine WN.step _ rfl (SO.call (head_ok (by omega)) rfl body_42 ⟨ev_c, (ev_t rfl), trivial⟩ rfl rfl rfl rfl ?_)
            rintro v w4 ⟨rfl, rfl⟩
            refine ⟨trivial, ?_⟩
            refine WN.step _ rfl (SO.alloc rfl rfl rfl rfl (r_buildSlice1 (vs := [_]) rfl ⟨(ev_t rfl), trivial⟩ rfl row_30 rfl rfl) ?_)
            intro w5 hu5 hB5 hz5
            have hs5 := hu5.size
            replace hU := hU.trans hu5 (by exact (fun _ _ h => h.elim))
            replace hXX := hXX.upd hu5 (fun k hl hk => by exact (show False from hk).elim)
            replace hhd := hhd.upd hu5 (fun hS => by exact (show False from hS))
            replace how := how.upd hu5 (fun k hk hl hS => by exact (show False from hS).elim)
            refine ⟨trivial, ?_⟩
            refine WN.step _ rfl (SO.append how (show Rd _ _ _ 1 1 [Wd (s.length * 256 + 3)] from Rd.of_blk (F := At _) (n := 1) (sz := 1) hB5 rfl rfl (by omega)) row_30 (fun u hu => by simp at hu; subst hu; rfl) (le_maxLen (by omega)) (by omega) rfl (ev_t rfl) (ev_t rfl) rfl rfl rfl rfl ?_)
            intro v6 w6 how hu6
            have hs6 := hu6.size
            replace hU := hU.trans hu6 (by (intro k hl hk; first | exact (show False from hk).elim | (simp only [At] at hk; exact .inl hk) | exact .inr (.inr hk) | (have h9 := hG1 k hk; rcases h9 with h | h; exact .inr (.inl h); (exfalso; omega)) | (have h9 := hG2 k hk; rcases h9 with h | h; exact .inr (.inl h); (exfalso; omega))))
            replace hXX := hXX.upd hu6 (fun k hl hk => by (have h9 := hG1 k hk; rcases h9 with h | h; exact .inr (.inl h); exact .inr (.inr h)))
            replace hhd := hhd.upd hu6 (fun hS => by exact hne hS)
            refine ⟨trivial, ?_⟩
            obtain ⟨A6, c6, rfl, hc6⟩ := Own.form how
            refine WN.calm _ rfl rfl rfl rfl rfl (fun _ => r_nilCheck rfl (ev_t rfl)) ?_
            refine WN.calm _ rfl rfl rfl rfl rfl (fun _ => r_field0 rfl (ev_t rfl) fld_79_0) ?_
            refine WN.step _ rfl (SO.store rfl (ev_t rfl) (ev_t rfl) size_30 hhd rfl rfl rfl rfl rfl ?_)
            intro w7 hu7 hhd hz7
            have hs7 := hu7.size
            replace hU := hU.trans hu7 (by (intro k hl hk; (try simp only [At, New, Grow, From, No] at hk ⊢); omega))
            replace hXX := hXX.upd hu7 (fun k hl hk => by (simp only [At] at hk; exact .inl hk))
            replace how := how.upd hu7 (fun k hk hl hS => by (simp only [At] at hS; subst hS; first | exact hne hk | (rcases hk with hk | hk; exact hne hk; omega) | (have := hlt _ hk; omega)))
            refine ⟨trivial, ?_⟩
            refine WN.done ?_
            refine WX.keep [(0, _), (1, _), (8, _)] ⟨rfl, rfl, rfl, trivial⟩ ?_
            refine WX.meet [(0, _), (1, _), (8, _)] ⟨rfl, rfl, rfl, trivial⟩ ?_
            have eL : M.length + 1 = (M ++ [s.length * 256 + 3]).length := by simp
            have eM : M.map Wd ++ [Wd (s.length * 256 + 3)] = (M ++ [s.length * 256 + 3]).map Wd := by simp
            rw [eM] at how
            rw [eL] at how hhd
            refine ⟨_, _, _, hU, hXX, ⟨hhd, how, fun h => ?_, fun k hk => ?_, ⟨by rw [← eL]; omega, hle2.2⟩, hcn⟩, fun k hk => ?_, rfl⟩
            · rcases h with h | h
              · exact hne h
              · omega
            · rcases hk with hk | hk
              · have := hlt k hk; omega
              · omega
            · rcases hk with hk | hk
              · exact hG1 k hk
              · exact .inr (by omega)
          · refine SO.call (head_ok (by omega)) rfl body_42 ⟨ev_c, (ev_t rfl), trivial⟩ rfl rfl rfl rfl ?_
            rintro v w8 ⟨rfl, rfl⟩
            refine ⟨trivial, ?_⟩
            refine WN.fork _ _ rfl rfl ?_ ?_
            · refine SO.val rfl rfl rfl rfl (r_load rfl (ev_t rfl) flat_30 (Blk.cell hhd rfl)) ?_
              refine ⟨trivial, ?_⟩
              refine WN.step _ rfl (SO.alloc rfl rfl rfl rfl (r_buildSlice1 (vs := [_]) rfl ⟨(ev_t rfl), trivial⟩ rfl row_30 rfl rfl) ?_)
              intro w9 hu9 hB9 hz9
              have hs9 := hu9.size
              replace hU := hU.trans hu9 (by exact (fun _ _ h => h.elim))
              replace hXX := hXX.upd hu9 (fun k hl hk => by exact (show False from hk).elim)
              replace hhd := hhd.upd hu9 (fun hS => by exact (show False from hS))
              replace how := how.upd hu9 (fun k hk hl hS => by exact (show False from hS).elim)
              refine ⟨trivial, ?_⟩
              refine WN.step _ rfl (SO.append how (show Rd _ _ _ 1 1 [Wd (s.length * 256 + 3)] from Rd.of_blk (F := At _) (n := 1) (sz := 1) hB9 rfl rfl (by omega)) row_30 (fun u hu => by simp at hu; subst hu; rfl) (le_maxLen (by omega)) (by omega) rfl (ev_t rfl) (ev_t rfl) rfl rfl rfl rfl ?_)
              intro v10 w10 how hu10
              have hs10 := hu10.size
              replace hU := hU.trans hu10 (by (intro k hl hk; first | exact (show False from hk).elim | (simp only [At] at hk; exact .inl hk) | exact .inr (.inr hk) | (have h9 := hG1 k hk; rcases h9 with h | h; exact .inr (.inl h); (exfalso; omega)) | (have h9 := hG2 k hk; rcases h9 with h | h; exact .inr (.inl h); (exfalso; omega))))
              replace hXX := hXX.upd hu10 (fun k hl hk => by (have h9 := hG1 k hk; rcases h9 with h | h; exact .inr (.inl h); exact .inr (.inr h)))
              replace hhd := hhd.upd hu10 (fun hS => by exact hne hS)
              refine ⟨trivial, ?_⟩
              obtain ⟨A10, c10, rfl, hc10⟩ := Own.form how
              refine WN.calm _ rfl rfl rfl rfl rfl (fun _ => r_nilCheck rfl (ev_t rfl)) ?_
              refine WN.calm _ rfl rfl rfl rfl rfl (fun _ => r_field0 rfl (ev_t rfl) fld_79_0) ?_
              refine WN.step _ rfl (SO.store rfl (ev_t rfl) (ev_t rfl) size_30 hhd rfl rfl rfl rfl rfl ?_)
              intro w11 hu11 hhd hz11
              have hs11 := hu11.size
              replace hU := hU.trans hu11 (by (intro k hl hk; (try simp only [At, New, Grow, From, No] at hk ⊢); omega))
              replace hXX := hXX.upd hu11 (fun k hl hk => by (simp only [At] at hk; exact .inl hk))
              replace how := how.upd hu11 (fun k hk hl hS => by (simp only [At] at hS; subst hS; first | exact hne hk | (rcases hk with hk | hk; exact hne hk; omega) | (have := hlt _ hk; omega)))
              refine ⟨trivial, ?_⟩
              refine WN.done ?_
              refine WX.keep [(0, _), (1, _), (8, _)] ⟨rfl, rfl, rfl, trivial⟩ ?_
              refine WX.meet [(0, _), (1, _), (8, _)] ⟨rfl, rfl, rfl, trivial⟩ ?_
              have eL : M.length + 1 = (M ++ [s.length * 256 + 3]).length := by simp
              have eM : M.map Wd ++ [Wd (s.length * 256 + 3)] = (M ++ [s.length * 256 + 3]).map Wd := by simp
              rw [eM] at how
              rw [eL] at how hhd
              refine ⟨_, _, _, hU, hXX, ⟨hhd, how, fun h => ?_, fun k hk => ?_, ⟨by rw [← eL]; omega, hle2.2⟩, hcn⟩, fun k hk => ?_, rfl⟩
              · rcases h with h | h
                · exact hne h
                · omega
              · rcases hk with hk | hk
                · have := hlt k hk; omega
                · omega
              · rcases hk with hk | hk
                · exact hG1 k hk
                · exact .inr (by omega)
            · refine SO.alloc rfl rfl rfl rfl (r_buildSlice1 (vs := [_]) rfl ⟨(ev_t rfl), trivial⟩ rfl row_30 rfl rfl) ?_
              intro w12 hu12 hB12 hz12
              have hs12 := hu12.size
              replace hU := hU.trans hu12 (by exact (fun _ _ h => h.elim))
              replace hXX := hXX.upd hu12 (fun k hl hk => by exact (show False from hk).elim)
              replace hhd := hhd.upd hu12 (fun hS => by exact (show False from hS))
              replace how := how.upd hu12 (fun k hk hl hS => by exact (show False from hS).elim)
              refine ⟨trivial, ?_⟩
              refine WN.step _ rfl (SO.val rfl rfl rfl rfl (r_load rfl (ev_t rfl) flat_30 (Blk.cell hhd rfl)) ?_)
              refine ⟨trivial, ?_⟩
              refine WN.step _ rfl (SO.append how (show Rd _ _ _ 1 1 [Wd (s.length * 256 + 3)] from Rd.of_blk (F := At _) (n := 1) (sz := 1) hB12 rfl rfl (by omega)) row_30 (fun u hu => by simp at hu; subst hu; rfl) (le_maxLen (by omega)) (by omega) rfl (ev_t rfl) (ev_t rfl) rfl rfl rfl rfl ?_)
              intro v13 w13 how hu13
              have hs13 := hu13.size
              replace hU := hU.trans hu13 (by (intro k hl hk; first | exact (show False from hk).elim | (simp only [At] at hk; exact .inl hk) | exact .inr (.inr hk) | (have h9 := hG1 k hk; rcases h9 with h | h; exact .inr (.inl h); (exfalso; omega)) | (have h9 := hG2 k hk; rcases h9 with h | h; exact .inr (.inl h); (exfalso; omega))))
              replace hXX := hXX.upd hu13 (fun k hl hk => by (have h9 := hG1 k hk; rcases h9 with h | h; exact .inr (.inl h); exact .inr (.inr h)))
              replace hhd := hhd.upd hu13 (fun hS => by exact hne hS)
              refine ⟨trivial, ?_⟩
              obtain ⟨A13, c13, rfl, hc13⟩ := Own.form how
              refine WN.calm _ rfl rfl rfl rfl rfl (fun _ => r_nilCheck rfl (ev_t rfl)) ?_
              refine WN.calm _ rfl rfl rfl rfl rfl (fun _ => r_field0 rfl (ev_t rfl) fld_79_0) ?_
              refine WN.step _ rfl (SO.store rfl (ev_t rfl) (ev_t rfl) size_30 hhd rfl rfl rfl rfl rfl ?_)
              intro w14 hu14 hhd hz14
              have hs14 := hu14.size
              replace hU := hU.trans hu14 (by (intro k hl hk; (try simp only [At, New, Grow, From, No] at hk ⊢); omega))
              replace hXX := hXX.upd hu14 (fun k hl hk => by (simp only [At] at hk; exact .inl hk))
              replace how := how.upd hu14 (fun k hk hl hS => by (simp only [At] at hS; subst hS; first | exact hne hk | (rcases hk with hk | hk; exact hne hk; omega) | (have := hlt _ hk; omega)))
              refine ⟨trivial, ?_⟩
              refine WN.done ?_
              refine WX.keep [(0, _), (1, _), (8, _)] ⟨rfl, rfl, rfl, trivial⟩ ?_
              refine WX.meet [(0, _), (1, _), (8, _)] ⟨rfl, rfl, rfl, trivial⟩ ?_
              have eL : M.length + 1 = (M ++ [s.length * 256 + 3]).length := by simp
              have eM : M.map Wd ++ [Wd (s.length * 256 + 3)] = (M ++ [s.length * 256 + 3]).map Wd := by simp
              rw [eM] at how
              rw [eL] at how hhd
              refine ⟨_, _, _, hU, hXX, ⟨hhd, how, fun h => ?_, fun k hk => ?_, ⟨by rw [← eL]; omega, hle2.2⟩, hcn⟩, fun k hk => ?_, rfl⟩
              · rcases h with h | h
                · exact hne h
                · omega
              · rcases hk with hk | hk
                · have := hlt k hk; omega
                · omega
              · rcases hk with hk | hk
                · exact hG1 k hk
                · exact .inr (by omega)
        · clear hU hXX
          rintro E wB ⟨A2, c2, G2, hU, hXX, hH, hG2, rfl⟩
          refine WC.seq ?_
          refine WC.seq ?_
          refine WC.region ?_
          refine WL.val rfl rfl rfl rfl (r_assign rfl ev_c) ?_
          refine WL.nil ?_
          refine WX.keep [(0, _), (1, _), (8, _), (9, _)] ⟨rfl, rfl, rfl, rfl, trivial⟩ ?_
          refine WX.next ?_
          refine WC.block ?_
          -- loop 1: live [0, 1, 8, 9]
          refine WC.keep [(0, _), (1, _), (8, _), (9, _)] ⟨rfl, rfl, rfl, rfl, trivial⟩ ?_
          refine WC.loop (fun qq E wC => ∃ (j : Nat) (A2 : Option Addr) (c2 : Nat) (G2 : Nat → Prop), j ≤ (s.length + 7) / 8 ∧ qq = (s.length + 7) / 8 - j ∧ Upd (fun k => k = p ∨ G k ∨ S k) w wC ∧ XW w p G (fun w => X w M N) wC ∧ HS wC G2 p A2 c2 (M ++ [s.length * 256 + 3] ++ (encT s).take j) q N ∧ (∀ k, G2 k → G k ∨ w.heap.size ≤ k) ∧ E = [(0, .pointer (some ⟨p, 0, none⟩)), (1, .string ⟨s.toArray⟩), (8, .int .i64 (M.length : Int)), (9, .int .i64 ((8 * j : Nat) : Int))]) ((s.length + 7) / 8) ?_ ?_
          · exact ⟨0, A2, c2, G2, by omega, by omega, hU, hXX, by simpa using hH, hG2, rfl⟩
          · clear hU hXX hH hG2
            rintro qq E wC ⟨j, A2, c2, G2, hj, rfl, hU, hXX, hH, hG2, rfl⟩
            have hUs := hU.size
            refine WC.seq ?_
            refine WC.seq ?_
            refine WC.region ?_
            refine WL.val rfl rfl rfl rfl (r_move rfl (ev_t rfl)) ?_
            refine WL.val rfl rfl rfl rfl (r_move rfl (ev_t rfl)) ?_
            refine WL.val rfl rfl rfl rfl (r_lenStrL rfl (ev_t rfl) str_9) ?_
            refine WL.val rfl rfl rfl rfl (r_lss rfl (ev_t rfl) (ev_t rfl)) ?_
            refine WL.nil ?_
            refine WX.keep [(0, _), (1, _), (8, _), (9, _), (41, _)] ⟨rfl, rfl, rfl, rfl, rfl, trivial⟩ ?_
            refine WX.next ?_
            refine WC.cond rfl (ev_t rfl) (fun hc8 => ?_) (fun hc8 => ?_)
            · try (exfalso; first | (simp at hc8; done) | (simp only [decide_eq_true_eq, decide_eq_false_iff_not, Bool.not_eq_true', Bool.not_eq_false', Bool.not_eq_true, Bool.not_eq_false] at hc8; omega) | omega)
              all_goals
               try simp only [decide_eq_true_eq, decide_eq_false_iff_not, Bool.not_eq_true', Bool.not_eq_false', Bool.not_eq_true, Bool.not_eq_false, Option.isNone_none, Option.isNone_some, Option.isSome_none, Option.isSome_some, ne_eq, Decidable.not_not] at hc8
               refine WC.skip ?_
               refine WX.next ?_
               refine WC.seq ?_
               refine WC.block ?_
               refine WC.seq ?_
               refine WC.region ?_
               refine WL.val rfl rfl rfl rfl (r_assign rfl ev_c) ?_
               refine WL.nil ?_
               refine WX.keep [(0, _), (1, _), (8, _), (9, _), (10, _)] ⟨rfl, rfl, rfl, rfl, rfl, trivial⟩ ?_
               refine WX.next ?_
               refine WC.seq ?_
               refine WC.seq ?_
               refine WC.region ?_
               refine WL.val rfl rfl rfl rfl (r_assign rfl ev_c) ?_
               refine WL.nil ?_
               refine WX.keep [(0, _), (1, _), (8, _), (9, _), (10, _), (11, _)] ⟨rfl, rfl, rfl, rfl, rfl, rfl, trivial⟩ ?_
               refine WX.next ?_
               refine WC.block ?_
               -- loop 2: live [0, 1, 8, 9, 10, 11]
               refine WC.keep [(0, _), (1, _), (8, _), (9, _), (10, _), (11, _)] ⟨rfl, rfl, rfl, rfl, rfl, rfl, trivial⟩ ?_
               refine WC.loop (fun qq E wD => ∃ (k : Nat), k ≤ 8 ∧ 8 * j + k ≤ s.length ∧ qq = 8 - k ∧ wC = wD ∧ E = [(0, .pointer (some ⟨p, 0, none⟩)), (1, .string ⟨s.toArray⟩), (8, .int .i64 (M.length : Int)), (9, .int .i64 ((8 * j : Nat) : Int)), (10, .int .u64 ((leW ((s.drop (8 * j)).take k) : Nat) : Int)), (11, .int .i64 (k : Int))]) (8) ?_ ?_
               · exact ⟨0, by omega, by omega, by omega, rfl, rfl⟩
               · rintro qq E wD ⟨k, hk8, hks, rfl, rfl, rfl⟩
                 refine WC.seq ?_
                 refine WC.seq ?_
                 refine WC.region ?_
                 refine WL.val rfl rfl rfl rfl (r_move rfl (ev_t rfl)) ?_
                 refine WL.val rfl rfl rfl rfl (r_lss rfl (ev_t rfl) ev_c) ?_
                 refine WL.val rfl rfl rfl rfl (r_move rfl (ev_t rfl)) ?_
                 refine WL.cases 46 rfl (fun hb12_2 => ?_) (fun hb12_2 => ?_)
                 · try (exfalso; first | (simp at hb12_2; done) | (simp only [decide_eq_true_eq, decide_eq_false_iff_not, Bool.not_eq_true', Bool.not_eq_false', Bool.not_eq_true, Bool.not_eq_false] at hb12_2; omega) | omega)
                   all_goals
                    try simp only [decide_eq_true_eq, decide_eq_false_iff_not, Bool.not_eq_true', Bool.not_eq_false', Bool.not_eq_true, Bool.not_eq_false, Option.isNone_none, Option.isNone_some, Option.isSome_none, Option.isSome_some, ne_eq, Decidable.not_not] at hb12_2
                    refine WL.val rfl rfl rfl rfl (r_move rfl (ev_t rfl)) ?_
                    refine WL.val rfl rfl rfl rfl (r_move rfl (ev_t rfl)) ?_
                    refine WL.val rfl rfl rfl rfl (r_addN rfl (ev_t rfl) (ev_t rfl) (by simp only [inK]; omega)) ?_
                    refine WL.val rfl rfl rfl rfl (r_move rfl (ev_t rfl)) ?_
                    refine WL.val rfl rfl rfl rfl (r_lenStrL rfl (ev_t rfl) str_9) ?_
                    refine WL.val rfl rfl rfl rfl (r_lss rfl (ev_t rfl) (ev_t rfl)) ?_
                    refine WL.val rfl rfl rfl rfl (r_pickT rfl (ev_t rfl) (ev_t rfl)) ?_
                    refine WL.nil ?_
                    refine WX.keep [(0, _), (1, _), (8, _), (9, _), (10, _), (11, _), (53, _)] ⟨rfl, rfl, rfl, rfl, rfl, rfl, rfl, trivial⟩ ?_
                    refine WX.next ?_
                    refine WC.cond rfl (ev_t rfl) (fun hc12 => ?_) (fun hc12 => ?_)
                    · try (exfalso; first | (simp at hc12; done) | (simp only [decide_eq_true_eq, decide_eq_false_iff_not, Bool.not_eq_true', Bool.not_eq_false', Bool.not_eq_true, Bool.not_eq_false] at hc12; omega) | omega)
                      all_goals
                       try simp only [decide_eq_true_eq, decide_eq_false_iff_not, Bool.not_eq_true', Bool.not_eq_false', Bool.not_eq_true, Bool.not_eq_false, Option.isNone_none, Option.isNone_some, Option.isSome_none, Option.isSome_some, ne_eq, Decidable.not_not] at hc12
                       have hk9 : k < 8 ∧ 8 * j + k < s.length := by simp_all; omega
                       have hbi : s[8 * j + k]? = some s[8 * j + k] := List.getElem?_eq_getElem hk9.2
                       generalize s[8 * j + k] = b at *
                       have htk : (s.drop (8 * j)).take (k + 1) = (s.drop (8 * j)).take k ++ [b] := take_get (by rw [List.getElem?_drop]; exact hbi)
                       have hpb := put_byte (l := (s.drop (8 * j)).take k) (k := k) (b := b) (by simp; omega) hk9.1
                       rw [← htk] at hpb
                       refine WC.skip ?_
                       refine WX.next ?_
                       refine WC.seq ?_
                       refine WC.block ?_
                       refine WC.region ?_
                       refine WL.val rfl rfl rfl rfl (r_move rfl (ev_t rfl)) ?_
                       refine WL.val rfl rfl rfl rfl (r_move rfl (ev_t rfl)) ?_
                       refine WL.val rfl rfl rfl rfl (r_move rfl (ev_t rfl)) ?_
                       refine WL.val rfl rfl rfl rfl (r_move rfl (ev_t rfl)) ?_
                       refine WL.val rfl rfl rfl rfl (r_addN rfl (ev_t rfl) (ev_t rfl) (by simp only [inK]; omega)) ?_
                       refine WL.val rfl rfl rfl rfl (r_indexStr (j := 8 * j + k) (c := b) rfl (ev_t rfl) (ev_t rfl) Tryd.underlying9 (by omega) (by simpa using hbi)) ?_
                       refine WL.val rfl rfl rfl rfl (r_conv rfl (ev_t rfl) some_5 int_32) ?_
                       refine WL.val rfl rfl rfl rfl (r_move rfl (ev_t rfl)) ?_
                       refine WL.val rfl rfl rfl rfl (r_mulN rfl ev_c (ev_t rfl) (by simp only [inK]; omega)) ?_
                       refine WL.val rfl rfl rfl rfl (r_shl rfl (ev_t rfl) (ev_t rfl) (by omega) (by simp only [IntKind.bits]; omega)) ?_
                       refine WL.val rfl rfl rfl rfl (r_or rfl (ev_t rfl) (ev_t rfl)) ?_
                       refine WL.val rfl rfl rfl rfl (r_assign rfl (ev_t rfl)) ?_
                       refine WL.nil ?_
                       refine WX.keep [(0, _), (1, _), (8, _), (9, _), (10, _), (11, _)] ⟨rfl, rfl, rfl, rfl, rfl, rfl, trivial⟩ ?_
                       refine WX.blockNormal ?_
                       refine WX.next ?_
                       refine WC.region ?_
                       refine WL.val rfl rfl rfl rfl (r_move rfl (ev_t rfl)) ?_
                       refine WL.val rfl rfl rfl rfl (r_addN rfl (ev_t rfl) ev_c (by simp only [inK]; omega)) ?_
                       refine WL.val rfl rfl rfl rfl (r_assign rfl (ev_t rfl)) ?_
                       refine WL.nil ?_
                       refine WX.keep [(0, _), (1, _), (8, _), (9, _), (10, _), (11, _)] ⟨rfl, rfl, rfl, rfl, rfl, rfl, trivial⟩ ?_
                       refine WX.meet [(0, _), (1, _), (8, _), (9, _), (10, _), (11, _)] ⟨rfl, rfl, rfl, rfl, rfl, rfl, trivial⟩ ?_
                       refine ⟨8 - (k + 1), by omega, k + 1, by omega, by omega, rfl, rfl, ?_⟩
                       rw [← hpb]
                       have hb8 : IntKind.u64.wrap (b.toNat : Int) = (b.toNat : Int) := by rw [wrap_u64]; have := b.toNat_lt; omega
                       have hk8' : (8 * (k : Int)).toNat = 8 * k := by omega
                       rw [hb8, hk8']
                       simp
                    · try (exfalso; first | (simp at hc12; done) | (simp only [decide_eq_true_eq, decide_eq_false_iff_not, Bool.not_eq_true', Bool.not_eq_false', Bool.not_eq_true, Bool.not_eq_false] at hc12; omega) | omega)
                      all_goals
                       try simp only [decide_eq_true_eq, decide_eq_false_iff_not, Bool.not_eq_true', Bool.not_eq_false', Bool.not_eq_true, Bool.not_eq_false, Option.isNone_none, Option.isNone_some, Option.isSome_none, Option.isSome_some, ne_eq, Decidable.not_not] at hc12
                       refine WC.exit ?_
                       refine WX.thenExit ?_
                       refine WX.thenExit ?_
                       refine WX.blockHere ?_
                       refine WX.next ?_
                       have hfull : (s.drop (8 * j)).take k = (s.drop (8 * j)).take 8 := by
                         rcases Nat.lt_or_ge k 8 with h | h
                         · have : 8 * j + k = s.length := by simp_all; omega
                           rw [List.take_of_length_le (by simp; omega), List.take_of_length_le (by simp; omega)]
                         · rw [show k = 8 by omega]
                       rw [hfull]
                       obtain ⟨hhd, how, hne, hlt, hle2, hcn⟩ := hH
                       have hlp2 := hhd.lt
                       refine WC.region ?_
                       refine WL.val rfl rfl rfl rfl (r_move rfl (ev_t rfl)) ?_
                       refine WL.val rfl rfl rfl rfl (r_move rfl (ev_t rfl)) ?_
                       refine WL.val rfl rfl rfl rfl (r_nilCheck rfl (ev_t rfl)) ?_
                       refine WL.val rfl rfl rfl rfl (r_field0 rfl (ev_t rfl) fld_79_0) ?_
                       refine WL.val rfl rfl rfl rfl (r_load rfl (ev_t rfl) flat_30 (Blk.cell hhd rfl)) ?_
                       refine WL.val rfl rfl rfl rfl (r_move rfl (ev_t rfl)) ?_
                       refine WL.cons (SO.alloc rfl rfl rfl rfl (r_buildSlice1 (vs := [_]) rfl ⟨(ev_t rfl), trivial⟩ rfl row_30 rfl rfl) ?_)
                       intro w15 hu15 hB15 hz15
                       have hs15 := hu15.size
                       replace hU := hU.trans hu15 (by exact (fun _ _ h => h.elim))
                       replace hXX := hXX.upd hu15 (fun k hl hk => by exact (show False from hk).elim)
                       replace hhd := hhd.upd hu15 (fun hS => by exact (show False from hS))
                       replace how := how.upd hu15 (fun k hk hl hS => by exact (show False from hS).elim)
                       refine WL.cons (SO.append how (show Rd _ _ _ 1 1 [Wd (leW ((s.drop (8 * j)).take 8))] from Rd.of_blk (F := At _) (n := 1) (sz := 1) hB15 rfl rfl (by omega)) row_30 (fun u hu => by simp at hu; subst hu; rfl) (le_maxLen (by omega)) (by omega) rfl (ev_t rfl) (ev_t rfl) rfl rfl rfl rfl ?_)
                       intro v16 w16 how hu16
                       have hs16 := hu16.size
                       replace hU := hU.trans hu16 (by (intro k hl hk; first | exact (show False from hk).elim | (simp only [At] at hk; exact .inl hk) | exact .inr (.inr hk) | (have h9 := hG1 k hk; rcases h9 with h | h; exact .inr (.inl h); (exfalso; omega)) | (have h9 := hG2 k hk; rcases h9 with h | h; exact .inr (.inl h); (exfalso; omega))))
                       replace hXX := hXX.upd hu16 (fun k hl hk => by (have h9 := hG2 k hk; rcases h9 with h | h; exact .inr (.inl h); exact .inr (.inr h)))
                       replace hhd := hhd.upd hu16 (fun hS => by exact hne hS)
                       obtain ⟨A16, c16, rfl, hc16⟩ := Own.form how
                       refine WL.val rfl rfl rfl rfl (r_nilCheck rfl (ev_t rfl)) ?_
                       refine WL.val rfl rfl rfl rfl (r_field0 rfl (ev_t rfl) fld_79_0) ?_
                       refine WL.cons (SO.store rfl (ev_t rfl) (ev_t rfl) size_30 hhd rfl rfl rfl rfl rfl ?_)
                       intro w17 hu17 hhd hz17
                       have hs17 := hu17.size
                       replace hU := hU.trans hu17 (by (intro k hl hk; (try simp only [At, New, Grow, From, No] at hk ⊢); omega))
                       replace hXX := hXX.upd hu17 (fun k hl hk => by (simp only [At] at hk; exact .inl hk))
                       replace how := how.upd hu17 (fun k hk hl hS => by (simp only [At] at hS; subst hS; first | exact hne hk | (rcases hk with hk | hk; exact hne hk; omega) | (have := hlt _ hk; omega)))
                       refine WL.nil ?_
                       refine WX.keep [(0, _), (1, _), (8, _), (9, _)] ⟨rfl, rfl, rfl, rfl, trivial⟩ ?_
                       refine WX.blockNormal ?_
                       refine WX.next ?_
                       refine WC.region ?_
                       refine WL.val rfl rfl rfl rfl (r_move rfl (ev_t rfl)) ?_
                       refine WL.val rfl rfl rfl rfl (r_addN rfl (ev_t rfl) ev_c (by simp only [inK]; omega)) ?_
                       refine WL.val rfl rfl rfl rfl (r_assign rfl (ev_t rfl)) ?_
                       refine WL.nil ?_
                       refine WX.keep [(0, _), (1, _), (8, _), (9, _)] ⟨rfl, rfl, rfl, rfl, trivial⟩ ?_
                       refine WX.meet [(0, _), (1, _), (8, _), (9, _)] ⟨rfl, rfl, rfl, rfl, trivial⟩ ?_
                       have hjl : j < (s.length + 7) / 8 := by omega
                       have e5 : (M ++ [s.length * 256 + 3] ++ (encT s).take j) ++ [leW ((s.drop (8 * j)).take 8)] = M ++ [s.length * 256 + 3] ++ (encT s).take (j + 1) := by rw [take_get (encT_get hjl)]; simp
                       have eL : (M ++ [s.length * 256 + 3] ++ (encT s).take j).length + 1 = (M ++ [s.length * 256 + 3] ++ (encT s).take (j + 1)).length := by rw [← e5]; simp; omega
                       have eM : (M ++ [s.length * 256 + 3] ++ (encT s).take j).map Wd ++ [Wd (leW ((s.drop (8 * j)).take 8))] = (M ++ [s.length * 256 + 3] ++ (encT s).take (j + 1)).map Wd := by rw [← e5]; simp
                       rw [eM] at how
                       rw [eL] at how hhd
                       have eN : (M ++ [s.length * 256 + 3] ++ (encT s).take (j + 1)).length = M.length + 1 + (j + 1) := by simp [encT_len]; omega
                       refine ⟨(s.length + 7) / 8 - (j + 1), by omega, j + 1, _, _, _, by omega, rfl, hU, hXX, ⟨hhd, how, fun h => ?_, fun k hk => ?_, ⟨by rw [eN]; omega, hle2.2⟩, hcn⟩, fun k hk => ?_, by simp; omega⟩
                       · rcases h with h | h
                         · exact hne h
                         · omega
                       · rcases hk with hk | hk
                         · have := hlt k hk; omega
                         · omega
                       · rcases hk with hk | hk
                         · exact hG2 k hk
                         · exact .inr (by omega)
                 · try (exfalso; first | (simp at hb12_2; done) | (simp only [decide_eq_true_eq, decide_eq_false_iff_not, Bool.not_eq_true', Bool.not_eq_false', Bool.not_eq_true, Bool.not_eq_false] at hb12_2; omega) | omega)
                   all_goals
                    try simp only [decide_eq_true_eq, decide_eq_false_iff_not, Bool.not_eq_true', Bool.not_eq_false', Bool.not_eq_true, Bool.not_eq_false, Option.isNone_none, Option.isNone_some, Option.isSome_none, Option.isSome_some, ne_eq, Decidable.not_not] at hb12_2
                    refine WL.skip rfl rfl rfl ?_
                    refine WL.skip rfl rfl rfl ?_
                    refine WL.skip rfl rfl rfl ?_
                    refine WL.skip rfl rfl rfl ?_
                    refine WL.skip rfl rfl rfl ?_
                    refine WL.skip rfl rfl rfl ?_
                    refine WL.val rfl rfl rfl rfl (r_pickF rfl (ev_t rfl) ev_c) ?_
                    refine WL.nil ?_
                    refine WX.keep [(0, _), (1, _), (8, _), (9, _), (10, _), (11, _), (53, _)] ⟨rfl, rfl, rfl, rfl, rfl, rfl, rfl, trivial⟩ ?_
                    refine WX.next ?_
                    refine WC.cond_false rfl (ev_t rfl) ?_
                    refine WC.exit ?_
                    refine WX.thenExit ?_
                    refine WX.thenExit ?_
                    refine WX.blockHere ?_
                    refine WX.next ?_
                    have hfull : (s.drop (8 * j)).take k = (s.drop (8 * j)).take 8 := by
                      rcases Nat.lt_or_ge k 8 with h | h
                      · have : 8 * j + k = s.length := by simp_all; omega
                        rw [List.take_of_length_le (by simp; omega), List.take_of_length_le (by simp; omega)]
                      · rw [show k = 8 by omega]
                    rw [hfull]
                    obtain ⟨hhd, how, hne, hlt, hle2, hcn⟩ := hH
                    have hlp2 := hhd.lt
                    refine WC.region ?_
                    refine WL.val rfl rfl rfl rfl (r_move rfl (ev_t rfl)) ?_
                    refine WL.val rfl rfl rfl rfl (r_move rfl (ev_t rfl)) ?_
                    refine WL.val rfl rfl rfl rfl (r_nilCheck rfl (ev_t rfl)) ?_
                    refine WL.val rfl rfl rfl rfl (r_field0 rfl (ev_t rfl) fld_79_0) ?_
                    refine WL.val rfl rfl rfl rfl (r_load rfl (ev_t rfl) flat_30 (Blk.cell hhd rfl)) ?_
                    refine WL.val rfl rfl rfl rfl (r_move rfl (ev_t rfl)) ?_
                    refine WL.cons (SO.alloc rfl rfl rfl rfl (r_buildSlice1 (vs := [_]) rfl ⟨(ev_t rfl), trivial⟩ rfl row_30 rfl rfl) ?_)
                    intro w18 hu18 hB18 hz18
                    have hs18 := hu18.size
                    replace hU := hU.trans hu18 (by exact (fun _ _ h => h.elim))
                    replace hXX := hXX.upd hu18 (fun k hl hk => by exact (show False from hk).elim)
                    replace hhd := hhd.upd hu18 (fun hS => by exact (show False from hS))
                    replace how := how.upd hu18 (fun k hk hl hS => by exact (show False from hS).elim)
                    refine WL.cons (SO.append how (show Rd _ _ _ 1 1 [Wd (leW ((s.drop (8 * j)).take 8))] from Rd.of_blk (F := At _) (n := 1) (sz := 1) hB18 rfl rfl (by omega)) row_30 (fun u hu => by simp at hu; subst hu; rfl) (le_maxLen (by omega)) (by omega) rfl (ev_t rfl) (ev_t rfl) rfl rfl rfl rfl ?_)
                    intro v19 w19 how hu19
                    have hs19 := hu19.size
                    replace hU := hU.trans hu19 (by (intro k hl hk; first | exact (show False from hk).elim | (simp only [At] at hk; exact .inl hk) | exact .inr (.inr hk) | (have h9 := hG1 k hk; rcases h9 with h | h; exact .inr (.inl h); (exfalso; omega)) | (have h9 := hG2 k hk; rcases h9 with h | h; exact .inr (.inl h); (exfalso; omega))))
                    replace hXX := hXX.upd hu19 (fun k hl hk => by (have h9 := hG2 k hk; rcases h9 with h | h; exact .inr (.inl h); exact .inr (.inr h)))
                    replace hhd := hhd.upd hu19 (fun hS => by exact hne hS)
                    obtain ⟨A19, c19, rfl, hc19⟩ := Own.form how
                    refine WL.val rfl rfl rfl rfl (r_nilCheck rfl (ev_t rfl)) ?_
                    refine WL.val rfl rfl rfl rfl (r_field0 rfl (ev_t rfl) fld_79_0) ?_
                    refine WL.cons (SO.store rfl (ev_t rfl) (ev_t rfl) size_30 hhd rfl rfl rfl rfl rfl ?_)
                    intro w20 hu20 hhd hz20
                    have hs20 := hu20.size
                    replace hU := hU.trans hu20 (by (intro k hl hk; (try simp only [At, New, Grow, From, No] at hk ⊢); omega))
                    replace hXX := hXX.upd hu20 (fun k hl hk => by (simp only [At] at hk; exact .inl hk))
                    replace how := how.upd hu20 (fun k hk hl hS => by (simp only [At] at hS; subst hS; first | exact hne hk | (rcases hk with hk | hk; exact hne hk; omega) | (have := hlt _ hk; omega)))
                    refine WL.nil ?_
                    refine WX.keep [(0, _), (1, _), (8, _), (9, _)] ⟨rfl, rfl, rfl, rfl, trivial⟩ ?_
                    refine WX.blockNormal ?_
                    refine WX.next ?_
                    refine WC.region ?_
                    refine WL.val rfl rfl rfl rfl (r_move rfl (ev_t rfl)) ?_
                    refine WL.val rfl rfl rfl rfl (r_addN rfl (ev_t rfl) ev_c (by simp only [inK]; omega)) ?_
                    refine WL.val rfl rfl rfl rfl (r_assign rfl (ev_t rfl)) ?_
                    refine WL.nil ?_
                    refine WX.keep [(0, _), (1, _), (8, _), (9, _)] ⟨rfl, rfl, rfl, rfl, trivial⟩ ?_
                    refine WX.meet [(0, _), (1, _), (8, _), (9, _)] ⟨rfl, rfl, rfl, rfl, trivial⟩ ?_
                    have hjl : j < (s.length + 7) / 8 := by omega
                    have e5 : (M ++ [s.length * 256 + 3] ++ (encT s).take j) ++ [leW ((s.drop (8 * j)).take 8)] = M ++ [s.length * 256 + 3] ++ (encT s).take (j + 1) := by rw [take_get (encT_get hjl)]; simp
                    have eL : (M ++ [s.length * 256 + 3] ++ (encT s).take j).length + 1 = (M ++ [s.length * 256 + 3] ++ (encT s).take (j + 1)).length := by rw [← e5]; simp; omega
                    have eM : (M ++ [s.length * 256 + 3] ++ (encT s).take j).map Wd ++ [Wd (leW ((s.drop (8 * j)).take 8))] = (M ++ [s.length * 256 + 3] ++ (encT s).take (j + 1)).map Wd := by rw [← e5]; simp
                    rw [eM] at how
                    rw [eL] at how hhd
                    have eN : (M ++ [s.length * 256 + 3] ++ (encT s).take (j + 1)).length = M.length + 1 + (j + 1) := by simp [encT_len]; omega
                    refine ⟨(s.length + 7) / 8 - (j + 1), by omega, j + 1, _, _, _, by omega, rfl, hU, hXX, ⟨hhd, how, fun h => ?_, fun k hk => ?_, ⟨by rw [eN]; omega, hle2.2⟩, hcn⟩, fun k hk => ?_, by simp; omega⟩
                    · rcases h with h | h
                      · exact hne h
                      · omega
                    · rcases hk with hk | hk
                      · have := hlt k hk; omega
                      · omega
                    · rcases hk with hk | hk
                      · exact hG2 k hk
                      · exact .inr (by omega)
            · try (exfalso; first | (simp at hc8; done) | (simp only [decide_eq_true_eq, decide_eq_false_iff_not, Bool.not_eq_true', Bool.not_eq_false', Bool.not_eq_true, Bool.not_eq_false] at hc8; omega) | omega)
              all_goals
               try simp only [decide_eq_true_eq, decide_eq_false_iff_not, Bool.not_eq_true', Bool.not_eq_false', Bool.not_eq_true, Bool.not_eq_false, Option.isNone_none, Option.isNone_some, Option.isSome_none, Option.isSome_some, ne_eq, Decidable.not_not] at hc8
               refine WC.exit ?_
               refine WX.thenExit ?_
               refine WX.thenExit ?_
               refine WX.blockHere ?_
               refine WX.next ?_
               refine WC.seq ?_
               refine WC.region ?_
               refine WL.val rfl rfl rfl rfl (r_move rfl (ev_t rfl)) ?_
               refine WL.val rfl rfl rfl rfl (r_convN rfl (ev_t rfl) some_3 int_32 (by simp only [inK]; omega)) ?_
               refine WL.val rfl rfl rfl rfl (r_shl rfl (ev_t rfl) ev_c (by omega) (by simp only [IntKind.bits]; omega)) ?_
               refine WL.val rfl rfl rfl rfl (r_assign rfl (ev_t rfl)) ?_
               refine WL.val rfl rfl rfl rfl (r_assign rfl ev_c) ?_
               refine WL.nil ?_
               refine WX.keep [(6, _), (7, _)] ⟨rfl, rfl, trivial⟩ ?_
               refine WX.next ?_
               refine WC.ret ?_
               refine WX.retE2 rfl rfl rfl ?_
               obtain rfl : j = (s.length + 7) / 8 := by omega
               have et : (encT s).take ((s.length + 7) / 8) = encT s := List.take_of_length_le (by rw [encT_len]; omega)
               rw [et] at hH
               refine ⟨G2, _, _, _, M, N, hH, hG2, hU, hXX.ok, fun _ => ⟨?_, rfl⟩, fun h => absurd hfit h⟩
               rw [wrap_u64]
               have e2 : (2 : Int) ^ Int.toNat 1 = 2 := by decide
               rw [e2, show ((M.length : Int) * 2 % 18446744073709551616) = ((2 * M.length : Nat) : Int) by omega]
end Go.Proofs.YtdpnnclkkbfihaaDoor

/-
  heap: collected twice it is as collected once. No program in sight.
-/
namespace Go.Proofs.YtdpnnclkkbfihaaDoor
open Go
set_option linter.unusedSimpArgs false
set_option linter.unusedVariables false

theorem Bfs.pre {old : List Nat} {k : Nat} {ord fin : List Nat} (h : Bfs old k ord fin) : ∃ r, fin = ord ++ r := by
  induction h with
  | done _ => exact ⟨[], by simp⟩
  | @step k a ord fin h r ih =>
    obtain ⟨r1, h1⟩ := ih
    obtain ⟨r2, h2⟩ := come_fold_pre (parts old a) ord
    exact ⟨r2 ++ r1, by rw [h1, h2, List.append_assoc]⟩
theorem plc_map {sz sz' : Nat → Nat} {φ : Nat → Nat} : ∀ {l : List Nat} {a : Nat}, (∀ b ∈ l, sz' (φ b) = sz b) → (∀ b ∈ l, φ b = φ a → b = a) → plc sz' (l.map φ) (φ a) = plc sz l a
  | [], a, _, _ => rfl
  | b :: l, a, h1, h2 => by
    simp only [List.map_cons, plc]
    have ih := plc_map (l := l) (a := a) (fun c hc => h1 c (by simp [hc])) (fun c hc => h2 c (by simp [hc]))
    by_cases e : b = a
    · subst e; rw [if_pos rfl, if_pos rfl]
    · rw [if_neg e, if_neg (fun e2 => e (h2 b (by simp) e2)), ih, h1 b (by simp)]
section
variable {old st fin to mv : List Nat}
theorem plc_one (hn : fin.Nodup) {a b : Nat} (ha : a ∈ fin) (hb : b ∈ fin) (h : plc (szAt old) fin a = plc (szAt old) fin b) : a = b :=
  (plc_inj (sz := szAt old) ha hb (d := 0) (d' := 0) (szAt_pos _ _) (szAt_pos _ _) (by omega)).1
theorem come_sim (hn : fin.Nodup) {ord : List Nat} (hs : ∀ a ∈ ord, a ∈ fin) {x : Nat} (hx : x % 2 = 1 ∨ x / 2 ∈ fin) :
    come (ord.map (plc (szAt old) fin)) (there old fin x) = (come ord x).map (plc (szAt old) fin) ∧ ∀ a ∈ come ord x, a ∈ fin := by
  rcases Nat.mod_two_eq_zero_or_one x with e | e
  · have hm : x / 2 ∈ fin := by rcases hx with h | h; omega; exact h
    have e1 : there old fin x = 2 * plc (szAt old) fin (x / 2) := by unfold there; rw [if_pos ⟨e, hm⟩]
    rw [e1]
    unfold come
    rw [show 2 * plc (szAt old) fin (x / 2) / 2 = plc (szAt old) fin (x / 2) by omega]
    by_cases hm2 : x / 2 ∈ ord
    · rw [if_pos (.inr (List.mem_map.2 ⟨_, hm2, rfl⟩)), if_pos (.inr hm2)]
      exact ⟨rfl, hs⟩
    · rw [if_neg, if_neg]
      · refine ⟨by rw [List.map_append]; rfl, fun a ha => ?_⟩
        rcases List.mem_append.1 ha with ha | ha
        · exact hs a ha
        · simp at ha; subst ha; exact hm
      · intro h; rcases h with h | h; omega; exact hm2 h
      · intro h
        rcases h with h | h
        · omega
        · obtain ⟨b, hb, hbe⟩ := List.mem_map.1 h
          exact hm2 (plc_one hn (hs b hb) hm hbe ▸ hb)
  · have e1 : there old fin x = x := by unfold there; rw [if_neg (by omega)]
    rw [e1]
    unfold come
    rw [if_pos (.inl e), if_pos (.inl e)]
    exact ⟨rfl, hs⟩
theorem come_sims (hn : fin.Nodup) : ∀ {l ord : List Nat}, (∀ a ∈ ord, a ∈ fin) → (∀ x ∈ l, x % 2 = 1 ∨ x / 2 ∈ fin) →
    (l.map (there old fin)).foldl come (ord.map (plc (szAt old) fin)) = (l.foldl come ord).map (plc (szAt old) fin) ∧ ∀ a ∈ l.foldl come ord, a ∈ fin
  | [], ord, hs, _ => ⟨rfl, hs⟩
  | x :: l, ord, hs, hx => by
    obtain ⟨h1, h2⟩ := come_sim (old := old) hn hs (hx x (by simp))
    rw [List.map_cons, List.foldl_cons, List.foldl_cons, h1]
    exact come_sims hn h2 (fun y hy => hx y (by simp [hy]))
theorem PI.sim (hPI : PI old st fin to mv to.length) (hv : Vd old st) {k : Nat} {ord f : List Nat} (h : Bfs old k ord f) : f = fin → Bfs to k (ord.map (plc (Go.Proofs.YtdpnnclkkbfihaaDoor.szAt old) fin)) (fin.map (plc (Go.Proofs.YtdpnnclkkbfihaaDoor.szAt old) fin)) := by
  induction h with
  | done h =>
    intro e
    subst e
    exact Bfs.done (by rw [List.length_map]; exact h)
  | @step k a ord f h r ih =>
    intro e
    have hp := (Bfs.step h r).pre
    obtain ⟨r1, h1⟩ := hp
    have hsub : ∀ b ∈ ord, b ∈ fin := fun b hb => by rw [← e, h1]; exact List.mem_append_left _ hb
    have ha : a ∈ fin := hsub a (List.mem_of_getElem? h)
    obtain ⟨p1, p2⟩ := hPI.partsTo hv ha
    have h2 := (come_sims (old := old) hPI.nd hsub p2).1
    refine Bfs.step (a := plc (Go.Proofs.YtdpnnclkkbfihaaDoor.szAt old) fin a) (by rw [List.getElem?_map, h]; rfl) ?_
    rw [p1, h2]
    exact ih e
theorem PI.plcTo (hPI : PI old st fin to mv to.length) {a : Nat} (ha : a ∈ fin) : plc (Go.Proofs.YtdpnnclkkbfihaaDoor.szAt to) (fin.map (plc (Go.Proofs.YtdpnnclkkbfihaaDoor.szAt old) fin)) (plc (Go.Proofs.YtdpnnclkkbfihaaDoor.szAt old) fin a) = plc (Go.Proofs.YtdpnnclkkbfihaaDoor.szAt old) fin a :=
  plc_map (fun b hb => hPI.szAt hb) (fun b hb h => plc_one hPI.nd hb ha h)
theorem PI.thereTo (hPI : PI old st fin to mv to.length) (y : Nat) : there to (fin.map (plc (Go.Proofs.YtdpnnclkkbfihaaDoor.szAt old) fin)) y = y := by
  unfold there
  split
  · rename_i h
    obtain ⟨a, ha, he⟩ := List.mem_map.1 h.2
    rw [← he, hPI.plcTo ha, he]
    omega
  · rfl
/-- twice as once -/
theorem PI.twice (hPI : PI old st fin to mv to.length) (hv : Vd old st) {xs : List Nat} (hbf : Bfs old 0 (xs.foldl come []) fin) (hx : ∀ x ∈ xs, x % 2 = 1 ∨ x / 2 ∈ fin) {fin2 to2 mv2 : List Nat}
    (hbf2 : Bfs to 0 ((xs.map (there old fin)).foldl come []) fin2) (hPI2 : PI to (fin.map (plc (Go.Proofs.YtdpnnclkkbfihaaDoor.szAt old) fin)) fin2 to2 mv2 to2.length) : fin2 = fin.map (plc (Go.Proofs.YtdpnnclkkbfihaaDoor.szAt old) fin) ∧ to2 = to := by
  have h1 := hPI.sim hv hbf rfl
  have h2 := (come_sims (old := old) hPI.nd (ord := []) (fun _ h => by cases h) hx).1
  rw [List.map_nil] at h2
  rw [← h2] at h1
  have e := hbf2.unique h1
  refine ⟨e, ?_⟩
  subst e
  have hl : to2.length = to.length := by
    rw [hPI2.ltot, hPI.ltot]
    unfold tot
    rw [List.map_map]
    congr 1
    apply List.map_congr_left
    intro a ha
    exact hPI.szAt ha
  apply List.ext_getElem?
  intro m
  rcases Nat.lt_or_ge m to.length with hm | hm
  · have hm2 := hm
    rw [hPI.ltot] at hm2
    obtain ⟨a, ha, d, hd, hpos⟩ := plc_pos hm2
    have hpos := hpos hPI.nd
    have ha2 : plc (Go.Proofs.YtdpnnclkkbfihaaDoor.szAt old) fin a ∈ fin.map (plc (Go.Proofs.YtdpnnclkkbfihaaDoor.szAt old) fin) := List.mem_map.2 ⟨a, ha, rfl⟩
    have hd2 : d < Go.Proofs.YtdpnnclkkbfihaaDoor.szAt to (plc (Go.Proofs.YtdpnnclkkbfihaaDoor.szAt old) fin a) := by rw [hPI.szAt ha]; exact hd
    have key : to2.getD m 0 = to.getD m 0 := by
      by_cases hp : isPart to (plc (Go.Proofs.YtdpnnclkkbfihaaDoor.szAt old) fin a) d
      · have h3 := (hPI2.new_ _ ha2 d hd2 (by rw [hPI.plcTo ha]; omega) hp).1
        rw [hPI.plcTo ha, hPI.thereTo, hpos] at h3
        exact h3
      · have h3 := hPI2.old_ _ ha2 d hd2 (fun e => hp e.2)
        rw [hPI.plcTo ha, hpos] at h3
        exact h3
    rw [getD_lt (by omega), getD_lt hm, key]
  · rw [List.getElem?_eq_none (by omega), List.getElem?_eq_none (by omega)]
end
/-! ### words that are objects -/
structure GoodH (l st : List Nat) : Prop where
  vd : Vd l st
  kd : ∀ a ∈ st, 1 ≤ l.getD a 0 % 256 ∧ l.getD a 0 % 256 ≤ 6
theorem GoodH.n8 {l st : List Nat} (h : GoodH l st) {a : Nat} (ha : a ∈ st) : l.getD a 0 / 256 ≤ 8 * l.length := by
  have h1 := (h.vd.in ha).2
  unfold szAt szO at h1
  split at h1 <;> omega
theorem GoodH.collect {old st fin to mv : List Nat} (hg : GoodH old st) (h : PI old st fin to mv to.length) (hl : old.length ≤ 1048576) : GoodH to (fin.map (plc (szAt old) fin)) := by
  refine ⟨hg.vd.collect h hl, fun a' ha' => ?_⟩
  obtain ⟨a, ha, rfl⟩ := List.mem_map.1 ha'
  rw [h.head ha]
  exact hg.kd a (h.sub a ha)
end Go.Proofs.YtdpnnclkkbfihaaDoor
