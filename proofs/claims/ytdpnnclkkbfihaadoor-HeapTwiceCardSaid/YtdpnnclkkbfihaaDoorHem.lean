/-
  heap: Copy, Words; the law's words, same.
-/
import Derived.Test.YtdpnnclkkbfihaaDoorHeR
namespace Go.Proofs.YtdpnnclkkbfihaaDoor
open Go
set_option linter.unusedSimpArgs false
set_option linter.unusedVariables false

theorem hwords_ok {w : World} {G : Nat → Prop} {p : Nat} {A : Option Addr} {c : Nat} {mem : List Nat} {q n : Nat} (hH : HS w G p A c mem q n) :
    Ret Tryd.prog 22 #[.pointer (some ⟨p, 0, none⟩)] w fun v w' => Own w' (New w w') tWord 1 v mem.length (mem.map Wd) ∧ Upd No w w' := by
  have hle := hH.le
  have hr := hH.ow.rd (by omega)
  refine enterRet (vs := [_]) (N := 10) Tryd.func22 rfl rfl rfl ?_
  have hU := Upd.refl No w
  refine WC.keep [(0, _)] ⟨rfl, trivial⟩ ?_
  refine WC.seq ?_
  refine WC.region ?_
  refine WL.val rfl rfl rfl rfl (r_assign rfl ev_c) ?_
  refine WL.nil ?_
  refine WX.keep [(0, _)] ⟨rfl, trivial⟩ ?_
  refine WX.next ?_
  refine WC.seq ?_
  refine WC.seq ?_
  refine WC.region ?_
  refine WL.val rfl rfl rfl rfl (r_move rfl (ev_t rfl)) ?_
  refine WL.val rfl rfl rfl rfl (r_eqlPtrNil rfl (ev_t rfl) ev_c ptr_26) ?_
  refine WL.nil ?_
  refine WX.keep [(0, _), (4, _)] ⟨rfl, rfl, trivial⟩ ?_
  refine WX.next ?_
  refine WC.cond rfl (ev_t rfl) (fun hc1 => ?_) (fun hc1 => ?_)
  · try (exfalso; first | (simp at hc1; done) | (simp only [decide_eq_true_eq, decide_eq_false_iff_not, Bool.not_eq_true', Bool.not_eq_false', Bool.not_eq_true, Bool.not_eq_false] at hc1; omega) | omega)
    all_goals
     try simp only [decide_eq_true_eq, decide_eq_false_iff_not, Bool.not_eq_true', Bool.not_eq_false', Bool.not_eq_true, Bool.not_eq_false, Option.isNone_none, Option.isNone_some, Option.isSome_none, Option.isSome_some, ne_eq, Decidable.not_not] at hc1
     refine WC.seq ?_
     refine WC.region ?_
     refine WL.val rfl rfl rfl rfl (r_assign rfl ev_c) ?_
     refine WL.nil ?_
     refine WX.keep [(2, _)] ⟨rfl, trivial⟩ ?_
     refine WX.next ?_
     refine WC.ret ?_
     refine WX.thenRet ?_
     refine WX.retE1 rfl rfl ?_
     fail
  · try (exfalso; first | (simp at hc1; done) | (simp only [decide_eq_true_eq, decide_eq_false_iff_not, Bool.not_eq_true', Bool.not_eq_false', Bool.not_eq_true, Bool.not_eq_false] at hc1; omega) | omega)
    all_goals
     try simp only [decide_eq_true_eq, decide_eq_false_iff_not, Bool.not_eq_true', Bool.not_eq_false', Bool.not_eq_true, Bool.not_eq_false, Option.isNone_none, Option.isNone_some, Option.isSome_none, Option.isSome_some, ne_eq, Decidable.not_not] at hc1
     refine WC.skip ?_
     refine WX.next ?_
     refine WC.seq ?_
     refine WC.region ?_
     refine WL.val rfl rfl rfl rfl (r_move rfl (ev_t rfl)) ?_
     refine WL.val rfl rfl rfl rfl (r_nilCheck rfl (ev_t rfl)) ?_
     first | refine WL.val rfl rfl rfl rfl (r_field0 rfl (ev_t rfl) fld_79_0) ?_ | refine WL.val rfl rfl rfl rfl (r_fieldAt rfl (ev_t rfl) fld_79_0) ?_
     refine WL.val rfl rfl rfl rfl (r_load rfl (ev_t rfl) flat_30 (Blk.cell hH.hd rfl)) ?_
     refine WL.cons (SO.append (Own.nil _ No _ _) hr row_30 (fun u hu => by obtain ⟨x, _, rfl⟩ := List.mem_map.1 hu; rfl) (le_maxLen (by omega)) (by omega) rfl ev_c (ev_t rfl) rfl rfl rfl rfl ?_)
     intro v1 w1 how hu1
     have hs1 := hu1.size
     replace hU := hU.transA hu1
     obtain ⟨A1, c1, rfl, hc1⟩ := Own.form how
     refine WL.val rfl rfl rfl rfl (r_assign rfl (ev_t rfl)) ?_
     refine WL.nil ?_
     refine WX.keep [(2, _)] ⟨rfl, trivial⟩ ?_
     refine WX.next ?_
     refine WC.ret ?_
     refine WX.retE1 rfl rfl ?_
     refine ⟨?_, hU⟩
     simp only [Nat.zero_add, List.nil_append] at how ⊢
     exact how.mono (fun k hk => by rcases hk with hk | hk; exact hk.elim; exact hk)
theorem copy_ok {w : World} {G : Nat → Prop} {p : Nat} {A : Option Addr} {c : Nat} {mem : List Nat} {q n : Nat} (hH : HS w G p A c mem q n) :
    Ret Tryd.prog 20 #[.pointer (some ⟨p, 0, none⟩)] w fun v w' => ∃ G' p' A' c', v = .pointer (some ⟨p', 0, none⟩) ∧ HS w' G' p' A' c' mem q n ∧ w.heap.size ≤ p' ∧ (∀ k, G' k → w.heap.size ≤ k) ∧ Upd No w w' := by
  have hle := hH.le
  have hcn := hH.cn
  have hr := hH.ow.rd (by omega)
  refine enterRet (vs := [_]) (N := 20) Tryd.func20 rfl rfl rfl ?_
  have hU := Upd.refl No w
  refine WC.keep [(0, _)] ⟨rfl, trivial⟩ ?_
  refine WC.seq ?_
  refine WC.region ?_
  refine WL.val rfl rfl rfl rfl (r_assign rfl ev_c) ?_
  refine WL.nil ?_
  refine WX.keep [(0, _)] ⟨rfl, trivial⟩ ?_
  refine WX.next ?_
  refine WC.seq ?_
  refine WC.seq ?_
  refine WC.region ?_
  refine WL.val rfl rfl rfl rfl (r_move rfl (ev_t rfl)) ?_
  refine WL.val rfl rfl rfl rfl (r_eqlPtrNil rfl (ev_t rfl) ev_c ptr_26) ?_
  refine WL.nil ?_
  refine WX.keep [(0, _), (4, _)] ⟨rfl, rfl, trivial⟩ ?_
  refine WX.next ?_
  refine WC.cond rfl (ev_t rfl) (fun hc1 => ?_) (fun hc1 => ?_)
  · try (exfalso; first | (simp at hc1; done) | (simp only [decide_eq_true_eq, decide_eq_false_iff_not, Bool.not_eq_true', Bool.not_eq_false', Bool.not_eq_true, Bool.not_eq_false] at hc1; omega) | omega)
    all_goals
     try simp only [decide_eq_true_eq, decide_eq_false_iff_not, Bool.not_eq_true', Bool.not_eq_false', Bool.not_eq_true, Bool.not_eq_false, Option.isNone_none, Option.isNone_some, Option.isSome_none, Option.isSome_some, ne_eq, Decidable.not_not] at hc1
     refine WC.seq ?_
     refine WC.region ?_
     refine WL.val rfl rfl rfl rfl (r_assign rfl ev_c) ?_
     refine WL.nil ?_
     refine WX.keep [(2, _)] ⟨rfl, trivial⟩ ?_
     refine WX.next ?_
     refine WC.ret ?_
     refine WX.thenRet ?_
     refine WX.retE1 rfl rfl ?_
     fail
  · try (exfalso; first | (simp at hc1; done) | (simp only [decide_eq_true_eq, decide_eq_false_iff_not, Bool.not_eq_true', Bool.not_eq_false', Bool.not_eq_true, Bool.not_eq_false] at hc1; omega) | omega)
    all_goals
     try simp only [decide_eq_true_eq, decide_eq_false_iff_not, Bool.not_eq_true', Bool.not_eq_false', Bool.not_eq_true, Bool.not_eq_false, Option.isNone_none, Option.isNone_some, Option.isSome_none, Option.isSome_some, ne_eq, Decidable.not_not] at hc1
     refine WC.skip ?_
     refine WX.next ?_
     refine WC.seq ?_
     refine WC.draws' (fun u0_ u1_ => Upd No u0_ u1_) (fun j => [0, 0, 0, 0, 1, 0, 0, 0, 0, 0, 0, 0, 0, 0, 2, 0].getD j 0) (.calm 0 (.calm 1 (.calm 2 (.calm 5 (.calm 6 (.calm 7 (.calm 9 (.calm 10 (.calm 11 (.held 3 (.held 8 (.held 12 (.one 4 (.calm 13 (.one 14 (.calm 15 (.done))))))))))))))))) mixed (by kernel_rfl) (by repeat (first | with_reducible exact Deaf.body | with_reducible apply Deaf.then | with_reducible apply Deaf.block)) ?_
     intro w1 hu1
     have hz1 := congrArg Array.size hu1.2.2.2
     replace hu1 := Upd.of_draw hu1
     have hs1 := hu1.size
     replace hU := hU.transA hu1
     replace hH := hH.upd hu1 (fun k hk hl hS => (show False from hS).elim)
     replace hr := hr.upd hu1 (fun k hk hl hS => (show False from hS).elim)
     have hS3 := Upd.refl No w1
     refine WN.calm _ rfl rfl rfl rfl rfl (fun _ => r_move rfl (ev_t rfl)) ?_
     refine WN.calm _ rfl rfl rfl rfl rfl (fun _ => r_nilCheck rfl (ev_t rfl)) ?_
     first | refine WN.calm _ rfl rfl rfl rfl rfl (fun _ => r_field0 rfl (ev_t rfl) fld_79_0) ?_ | refine WN.calm _ rfl rfl rfl rfl rfl (fun _ => r_fieldAt rfl (ev_t rfl) fld_79_0) ?_
     refine WN.calm _ rfl rfl rfl rfl rfl (fun _ => r_move rfl (ev_t rfl)) ?_
     refine WN.calm _ rfl rfl rfl rfl rfl (fun _ => r_nilCheck rfl (ev_t rfl)) ?_
     first | refine WN.calm _ rfl rfl rfl rfl rfl (fun _ => r_field0 rfl (ev_t rfl) fld_79_1) ?_ | refine WN.calm _ rfl rfl rfl rfl rfl (fun _ => r_fieldAt rfl (ev_t rfl) fld_79_1) ?_
     refine WN.calm _ rfl rfl rfl rfl rfl (fun _ => r_move rfl (ev_t rfl)) ?_
     refine WN.calm _ rfl rfl rfl rfl rfl (fun _ => r_nilCheck rfl (ev_t rfl)) ?_
     first | refine WN.calm _ rfl rfl rfl rfl rfl (fun _ => r_field0 rfl (ev_t rfl) fld_79_2) ?_ | refine WN.calm _ rfl rfl rfl rfl rfl (fun _ => r_fieldAt rfl (ev_t rfl) fld_79_2) ?_
     refine WN.held _ rfl rfl rfl rfl rfl hS3 (fun w' hS => r_load rfl (ev_t rfl) flat_30 (Blk.cell (hH.upd hS (fun _ _ _ h => h)).hd rfl)) ?_
     refine WN.held _ rfl rfl rfl rfl rfl hS3 (fun w' hS => r_load rfl (ev_t rfl) flat_3 (Blk.cell (hH.upd hS (fun _ _ _ h => h)).hd rfl)) ?_
     refine WN.held _ rfl rfl rfl rfl rfl hS3 (fun w' hS => r_load rfl (ev_t rfl) flat_3 (Blk.cell (hH.upd hS (fun _ _ _ h => h)).hd rfl)) ?_
     refine WN.step _ rfl (SO.append (Own.nil _ No _ _) hr row_30 (fun u hu => by obtain ⟨x, _, rfl⟩ := List.mem_map.1 hu; rfl) (le_maxLen (by omega)) (by omega) rfl ev_c (ev_t rfl) rfl rfl rfl rfl ?_)
     intro v2 w2 how hu2
     have hs2 := hu2.size
     replace hS3 := Upd.transA hS3 hu2
     replace hU := hU.transA hu2
     replace hH := hH.upd hu2 (fun k hk hl hS => (show False from hS).elim)
     replace hr := hr.upd hu2 (fun k hk hl hS => (show False from hS).elim)
     refine ⟨hS3, ?_⟩
     obtain ⟨A2, c2, rfl, hc2⟩ := Own.form how
     refine WN.calm _ rfl rfl rfl rfl rfl (fun _ => r_build (cs := #[_, _, _]) (vs := [(0, _), (1, _), (2, _)]) rfl ⟨⟨rfl, (ev_t rfl)⟩, ⟨rfl, (ev_t rfl)⟩, ⟨rfl, (ev_t rfl)⟩, trivial⟩ plc_79 zero_79 rfl) ?_
     refine WN.step _ rfl (SO.alloc rfl rfl rfl rfl (r_boxAgg rfl (ev_t rfl)) ?_)
     intro w3 hu3 hB3 hz3
     have hs3 := hu3.size
     try replace hS3 := Upd.transA hS3 hu3
     replace hU := hU.transA hu3
     replace hH := hH.upd hu3 (fun k hk hl hS => (show False from hS).elim)
     replace hr := hr.upd hu3 (fun k hk hl hS => (show False from hS).elim)
     replace how := how.upd hu3 (fun k hk hl hS => (show False from hS).elim)
     refine ⟨trivial, ?_⟩
     refine WN.calm _ rfl rfl rfl rfl rfl (fun _ => r_assign rfl (ev_t rfl)) ?_
     refine WN.done ?_
     refine WX.keep [(2, _)] ⟨rfl, trivial⟩ ?_
     refine WX.next ?_
     refine WC.ret ?_
     refine WX.retE1 rfl rfl ?_
     simp only [Nat.zero_add, List.nil_append] at *
     have hs1 := hU.size
     refine ⟨_, _, _, _, rfl, ⟨hB3, how, ?_, ?_, hle, hcn⟩, ?_, ?_, hU⟩
     · rintro (h | h)
       · exact h
       · omega
     · rintro k (h | h)
       · exact h.elim
       · have := Blk.lt hB3; omega
     · omega
     · rintro k (h | h)
       · exact h.elim
       · omega
theorem lwords_ok {w : World} {F : Nat → Prop} {v : Value} {l : List Nat} (hr : Rd w F v l.length 1 (l.map Wd)) (hn : l.length ≤ 1000000000) :
    Ret Tryd.prog 21 #[v] w fun v' w' => Own w' (New w w') 31 1 v' l.length (l.map Wd) ∧ Upd No w w' := by
  replace hr := hr.bound
  obtain ⟨A, c, rfl, hc⟩ := hr.slice_form
  generalize hF : (fun k => F k ∧ k < w.heap.size) = F' at hr
  have hFl : ∀ k, F' k → k < w.heap.size := by subst hF; exact fun k h => h.2
  refine enterRet (vs := [_]) (N := 19) Tryd.func21 rfl rfl rfl ?_
  have hU := Upd.refl No w
  refine WC.keep [(0, _)] ⟨rfl, trivial⟩ ?_
  refine WC.seq ?_
  refine WC.region ?_
  refine WL.val rfl rfl rfl rfl (r_assign rfl ev_c) ?_
  refine WL.nil ?_
  refine WX.keep [(0, _)] ⟨rfl, trivial⟩ ?_
  refine WX.next ?_
  refine WC.seq ?_
  refine WC.region ?_
  refine WL.val rfl rfl rfl rfl (r_assign rfl ev_c) ?_
  refine WL.nil ?_
  refine WX.keep [(0, _), (3, _)] ⟨rfl, rfl, trivial⟩ ?_
  refine WX.next ?_
  refine WC.seq ?_
  refine WC.seq ?_
  refine WC.region ?_
  refine WL.val rfl rfl rfl rfl (r_assign rfl ev_c) ?_
  refine WL.nil ?_
  refine WX.keep [(0, _), (3, _), (4, _)] ⟨rfl, rfl, rfl, trivial⟩ ?_
  refine WX.next ?_
  refine WC.block ?_
  -- loop 1: live [0, 3, 4]
  refine WC.keep [(0, _), (3, _), (4, _)] ⟨rfl, rfl, rfl, trivial⟩ ?_
  refine WC.loop (fun qq E wC => ∃ (j : Nat) (v1 : Value), j ≤ l.length ∧ qq = l.length - j ∧ Upd No w wC ∧ Rd wC F' (.slice A l.length c) l.length 1 (l.map Wd) ∧ Own wC (New w wC) 31 1 v1 j ((l.take j).map Wd) ∧ E = [(0, .slice A l.length c), (3, v1), (4, .int .i64 (j : Int))]) (l.length) ?_ ?_
  · exact ⟨0, _, by omega, by omega, hU, hr, by simpa using Own.nil _ _ _ _, rfl⟩
  · clear hU hr
    rintro qq E wC ⟨j, v1, hj, rfl, hU, hr, how, rfl⟩
    have hUs := hU.size
    refine WC.seq ?_
    refine WC.seq ?_
    refine WC.region ?_
    refine WL.val rfl rfl rfl rfl (r_move rfl (ev_t rfl)) ?_
    refine WL.val rfl rfl rfl rfl (r_move rfl (ev_t rfl)) ?_
    refine WL.val rfl rfl rfl rfl (r_lenSlice (ts := #[]) rfl (ev_t rfl) elem_30) ?_
    refine WL.val rfl rfl rfl rfl (r_lss rfl (ev_t rfl) (ev_t rfl)) ?_
    refine WL.nil ?_
    refine WX.keep [(0, _), (3, _), (4, _), (8, _)] ⟨rfl, rfl, rfl, rfl, trivial⟩ ?_
    refine WX.next ?_
    refine WC.cond rfl (ev_t rfl) (fun hc3 => ?_) (fun hc3 => ?_)
    · try (exfalso; first | (simp at hc3; done) | (simp only [decide_eq_true_eq, decide_eq_false_iff_not, Bool.not_eq_true', Bool.not_eq_false', Bool.not_eq_true, Bool.not_eq_false] at hc3; omega) | omega)
      all_goals
       try simp only [decide_eq_true_eq, decide_eq_false_iff_not, Bool.not_eq_true', Bool.not_eq_false', Bool.not_eq_true, Bool.not_eq_false, Option.isNone_none, Option.isNone_some, Option.isSome_none, Option.isSome_some, ne_eq, Decidable.not_not] at hc3
       have hjl : j < l.length := by simpa using hc3
       obtain ⟨b0, off, rfl, _⟩ := hr.open (by omega)
       refine WC.skip ?_
       refine WX.next ?_
       refine WC.seq ?_
       refine WC.block ?_
       refine WC.region ?_
       refine WL.val rfl rfl rfl rfl (r_move rfl (ev_t rfl)) ?_
       refine WL.val rfl rfl rfl rfl (r_move rfl (ev_t rfl)) ?_
       refine WL.val rfl rfl rfl rfl (r_move rfl (ev_t rfl)) ?_
       refine WL.val rfl rfl rfl rfl (r_indexAddr rfl (ev_t rfl) (ev_t rfl) elem_30 size_32 (by omega) (by omega)) ?_
       refine WL.val rfl rfl rfl rfl (r_load rfl (ev_t rfl) flat_32 (hr.cell (j := j) (u := Wd l[j]) (by omega) (by rw [List.getElem?_map, List.getElem?_eq_getElem hjl]; rfl))) ?_
       refine WL.cons (SO.alloc rfl rfl rfl rfl (r_buildSlice1 (vs := [_]) rfl ⟨(ev_t rfl), trivial⟩ rfl row_46 rfl rfl) ?_)
       intro w1 hu1 hB1 hz1
       have hs1 := hu1.size
       replace hU := hU.trans hu1 (by first | exact (fun _ _ h => h) | exact (fun _ _ h => h.elim) | (intro k hl hk; (try simp only [At, New, Grow, From, No] at hk ⊢); omega) | (intro k hl hk; first | exact (show False from hk).elim | (have h2 := hk.1; omega)))
       replace hr := hr.upd hu1 (fun k hk hl hS => by first | exact (show False from hS).elim | (have h1 := hFl k hk; have h2 := hS.1; omega))
       replace how := how.upd hu1 (fun k hk hl hS => (show False from hS).elim)
       refine WL.cons (SO.append how (show Rd _ _ _ 1 1 [Wd l[j]] from Rd.of_blk (F := At _) (n := 1) (sz := 1) hB1 rfl rfl (by omega)) row_46 (fun u hu => by simp at hu; subst hu; rfl) (le_maxLen (by omega)) (by omega) rfl (ev_t rfl) (ev_t rfl) rfl rfl rfl rfl ?_)
       intro v2 w2 how hu2
       have hs2 := hu2.size
       replace hU := hU.trans hu2 (by first | exact (fun _ _ h => h) | exact (fun _ _ h => h.elim) | (intro k hl hk; (try simp only [At, New, Grow, From, No] at hk ⊢); omega) | (intro k hl hk; first | exact (show False from hk).elim | (have h2 := hk.1; omega)))
       replace hr := hr.upd hu2 (fun k hk hl hS => by first | exact (show False from hS).elim | (have h1 := hFl k hk; have h2 := hS.1; omega))
       obtain ⟨A2, c2, rfl, hc2⟩ := Own.form how
       refine WL.val rfl rfl rfl rfl (r_assign rfl (ev_t rfl)) ?_
       refine WL.nil ?_
       refine WX.keep [(0, _), (3, _), (4, _)] ⟨rfl, rfl, rfl, trivial⟩ ?_
       refine WX.blockNormal ?_
       refine WX.next ?_
       refine WC.region ?_
       refine WL.val rfl rfl rfl rfl (r_move rfl (ev_t rfl)) ?_
       first | refine WL.val rfl rfl rfl rfl (r_addN rfl (ev_t rfl) ev_c (by simp only [inK]; omega)) ?_ | refine WL.val rfl rfl rfl rfl (r_add rfl (ev_t rfl) ev_c) ?_
       refine WL.val rfl rfl rfl rfl (r_assign rfl (ev_t rfl)) ?_
       refine WL.nil ?_
       refine WX.keep [(0, _), (3, _), (4, _)] ⟨rfl, rfl, rfl, trivial⟩ ?_
       refine WX.meet [(0, _), (3, _), (4, _)] ⟨rfl, rfl, rfl, trivial⟩ ?_
       refine ⟨l.length - (j + 1), by omega, j + 1, _, by omega, rfl, hU, hr, ?_, rfl⟩
       have e1 : (l.take j).map Wd ++ [Wd l[j]] = (l.take (j + 1)).map Wd := by rw [take_get (List.getElem?_eq_getElem hjl), List.map_append]; rfl
       rw [e1] at how
       have hUt := hU.size
       refine how.mono (fun k hk => ?_)
       simp only [Grow, New] at hk ⊢
       have hs9 := (hu2).size
       omega
    · try (exfalso; first | (simp at hc3; done) | (simp only [decide_eq_true_eq, decide_eq_false_iff_not, Bool.not_eq_true', Bool.not_eq_false', Bool.not_eq_true, Bool.not_eq_false] at hc3; omega) | omega)
      all_goals
       try simp only [decide_eq_true_eq, decide_eq_false_iff_not, Bool.not_eq_true', Bool.not_eq_false', Bool.not_eq_true, Bool.not_eq_false, Option.isNone_none, Option.isNone_some, Option.isSome_none, Option.isSome_some, ne_eq, Decidable.not_not] at hc3
       refine WC.exit ?_
       refine WX.thenExit ?_
       refine WX.thenExit ?_
       refine WX.blockHere ?_
       refine WX.next ?_
       refine WC.seq ?_
       refine WC.region ?_
       refine WL.val rfl rfl rfl rfl (r_move rfl (ev_t rfl)) ?_
       refine WL.val rfl rfl rfl rfl (r_assign rfl (ev_t rfl)) ?_
       refine WL.nil ?_
       refine WX.keep [(2, _)] ⟨rfl, trivial⟩ ?_
       refine WX.next ?_
       refine WC.ret ?_
       refine WX.retE1 rfl rfl ?_
       obtain rfl : j = l.length := by
         have : ¬ j < l.length := by simpa using hc3
         omega
       rw [List.take_length] at how
       exact ⟨how, hU⟩
theorem same_ok {w : World} {F F2 : Nat → Prop} {v v2 : Value} {l : List Nat} (hr : Rd w F v l.length 1 (l.map Wd)) (hr2 : Rd w F2 v2 l.length 1 (l.map Wd)) (hn : l.length ≤ 1000000000) :
    Ret Tryd.prog 24 #[v, v2] w fun v' w' => v' = .bool true ∧ Upd No w w' := by
  obtain ⟨A, c, rfl, hc⟩ := hr.slice_form
  obtain ⟨A2, c2, rfl, hc2⟩ := hr2.slice_form
  refine enterRet (vs := [_, _]) (N := 26) Tryd.func24 rfl rfl rfl ?_
  have hU := Upd.refl No w
  refine WC.keep [(0, _), (1, _)] ⟨rfl, rfl, trivial⟩ ?_
  refine WC.seq ?_
  refine WC.region ?_
  refine WL.val rfl rfl rfl rfl (r_assign rfl ev_c) ?_
  refine WL.nil ?_
  refine WX.keep [(0, _), (1, _)] ⟨rfl, rfl, trivial⟩ ?_
  refine WX.next ?_
  refine WC.seq ?_
  refine WC.seq ?_
  refine WC.region ?_
  refine WL.val rfl rfl rfl rfl (r_move rfl (ev_t rfl)) ?_
  refine WL.val rfl rfl rfl rfl (r_lenSlice (ts := #[]) rfl (ev_t rfl) elem_46) ?_
  refine WL.val rfl rfl rfl rfl (r_move rfl (ev_t rfl)) ?_
  refine WL.val rfl rfl rfl rfl (r_lenSlice (ts := #[]) rfl (ev_t rfl) elem_46) ?_
  refine WL.val rfl rfl rfl rfl (r_neq rfl (ev_t rfl) (ev_t rfl)) ?_
  refine WL.nil ?_
  refine WX.keep [(0, _), (1, _), (10, _)] ⟨rfl, rfl, rfl, trivial⟩ ?_
  refine WX.next ?_
  refine WC.cond rfl (ev_t rfl) (fun hc1 => ?_) (fun hc1 => ?_)
  · try (exfalso; first | (simp at hc1; done) | (simp only [decide_eq_true_eq, decide_eq_false_iff_not, Bool.not_eq_true', Bool.not_eq_false', Bool.not_eq_true, Bool.not_eq_false] at hc1; omega) | omega)
    all_goals
     try simp only [decide_eq_true_eq, decide_eq_false_iff_not, Bool.not_eq_true', Bool.not_eq_false', Bool.not_eq_true, Bool.not_eq_false, Option.isNone_none, Option.isNone_some, Option.isSome_none, Option.isSome_some, ne_eq, Decidable.not_not] at hc1
     refine WC.seq ?_
     refine WC.region ?_
     refine WL.val rfl rfl rfl rfl (r_assign rfl ev_c) ?_
     refine WL.nil ?_
     refine WX.keep [(4, _)] ⟨rfl, trivial⟩ ?_
     refine WX.next ?_
     refine WC.ret ?_
     refine WX.thenRet ?_
     refine WX.retE1 rfl rfl ?_
     fail
  · try (exfalso; first | (simp at hc1; done) | (simp only [decide_eq_true_eq, decide_eq_false_iff_not, Bool.not_eq_true', Bool.not_eq_false', Bool.not_eq_true, Bool.not_eq_false] at hc1; omega) | omega)
    all_goals
     try simp only [decide_eq_true_eq, decide_eq_false_iff_not, Bool.not_eq_true', Bool.not_eq_false', Bool.not_eq_true, Bool.not_eq_false, Option.isNone_none, Option.isNone_some, Option.isSome_none, Option.isSome_some, ne_eq, Decidable.not_not] at hc1
     refine WC.skip ?_
     refine WX.next ?_
     refine WC.seq ?_
     refine WC.seq ?_
     refine WC.region ?_
     refine WL.val rfl rfl rfl rfl (r_assign rfl ev_c) ?_
     refine WL.nil ?_
     refine WX.keep [(0, _), (1, _), (5, _)] ⟨rfl, rfl, rfl, trivial⟩ ?_
     refine WX.next ?_
     refine WC.block ?_
     -- loop 1: live [0, 1, 5]
     refine WC.keep [(0, _), (1, _), (5, _)] ⟨rfl, rfl, rfl, trivial⟩ ?_
     refine WC.loop (fun qq E wC => ∃ (j : Nat), j ≤ l.length ∧ qq = l.length - j ∧ Upd No w wC ∧ Rd wC F (.slice A l.length c) l.length 1 (l.map Wd) ∧ Rd wC F2 (.slice A2 l.length c2) l.length 1 (l.map Wd) ∧ E = [(0, .slice A l.length c), (1, .slice A2 l.length c2), (5, .int .i64 (j : Int))]) (l.length) ?_ ?_
     · exact ⟨0, by omega, by omega, hU, hr, hr2, rfl⟩
     · clear hU hr hr2
       rintro qq E wC ⟨j, hj, rfl, hU, hr, hr2, rfl⟩
       refine WC.seq ?_
       refine WC.seq ?_
       refine WC.region ?_
       refine WL.val rfl rfl rfl rfl (r_move rfl (ev_t rfl)) ?_
       refine WL.val rfl rfl rfl rfl (r_move rfl (ev_t rfl)) ?_
       refine WL.val rfl rfl rfl rfl (r_lenSlice (ts := #[]) rfl (ev_t rfl) elem_46) ?_
       refine WL.val rfl rfl rfl rfl (r_lss rfl (ev_t rfl) (ev_t rfl)) ?_
       refine WL.nil ?_
       refine WX.keep [(0, _), (1, _), (5, _), (14, _)] ⟨rfl, rfl, rfl, rfl, trivial⟩ ?_
       refine WX.next ?_
       refine WC.cond rfl (ev_t rfl) (fun hc4 => ?_) (fun hc4 => ?_)
       · try (exfalso; first | (simp at hc4; done) | (simp only [decide_eq_true_eq, decide_eq_false_iff_not, Bool.not_eq_true', Bool.not_eq_false', Bool.not_eq_true, Bool.not_eq_false] at hc4; omega) | omega)
         all_goals
          try simp only [decide_eq_true_eq, decide_eq_false_iff_not, Bool.not_eq_true', Bool.not_eq_false', Bool.not_eq_true, Bool.not_eq_false, Option.isNone_none, Option.isNone_some, Option.isSome_none, Option.isSome_some, ne_eq, Decidable.not_not] at hc4
          have hjl : j < l.length := by simpa using hc4
          obtain ⟨b0, off, rfl, _⟩ := hr.open (by omega)
          obtain ⟨b1, off1, rfl, _⟩ := hr2.open (by omega)
          refine WC.skip ?_
          refine WX.next ?_
          refine WC.seq ?_
          refine WC.block ?_
          refine WC.seq ?_
          refine WC.draws' (fun u0_ u1_ => Upd No u0_ u1_) (fun j => [0, 0, 0, 0, 0, 0, 0, 1, 0].getD j 0) (.calm 0 (.calm 1 (.calm 2 (.calm 4 (.calm 5 (.calm 6 (.held 3 (.one 7 (.calm 8 (.done)))))))))) mixed (by kernel_rfl) (by repeat (first | with_reducible exact Deaf.body | with_reducible apply Deaf.then | with_reducible apply Deaf.block)) ?_
          intro w1 hu1
          have hz1 := congrArg Array.size hu1.2.2.2
          replace hu1 := Upd.of_draw hu1
          have hs1 := hu1.size
          replace hU := hU.transA hu1
          replace hr := hr.upd hu1 (fun k hk hl hS => (show False from hS).elim)
          replace hr2 := hr2.upd hu1 (fun k hk hl hS => (show False from hS).elim)
          have hS6 := Upd.refl No w1
          refine WN.calm _ rfl rfl rfl rfl rfl (fun _ => r_move rfl (ev_t rfl)) ?_
          refine WN.calm _ rfl rfl rfl rfl rfl (fun _ => r_move rfl (ev_t rfl)) ?_
          refine WN.calm _ rfl rfl rfl rfl rfl (fun _ => r_indexAddr rfl (ev_t rfl) (ev_t rfl) elem_46 size_31 (by omega) (by omega)) ?_
          refine WN.calm _ rfl rfl rfl rfl rfl (fun _ => r_move rfl (ev_t rfl)) ?_
          refine WN.calm _ rfl rfl rfl rfl rfl (fun _ => r_move rfl (ev_t rfl)) ?_
          refine WN.calm _ rfl rfl rfl rfl rfl (fun _ => r_indexAddr rfl (ev_t rfl) (ev_t rfl) elem_46 size_31 (by omega) (by omega)) ?_
          refine WN.held _ rfl rfl rfl rfl rfl hS6 (fun w' hS => r_load rfl (ev_t rfl) flat_31 ((hr.upd hS (fun _ _ _ h => h)).cell (j := j) (u := Wd l[j]) (show off + (j : Int).toNat * 1 = off + j by omega) (by rw [List.getElem?_map, List.getElem?_eq_getElem hjl]; rfl))) ?_
          refine WN.step _ rfl (SO.val rfl rfl rfl rfl (r_load rfl (ev_t rfl) flat_31 (hr2.cell (j := j) (u := Wd l[j]) (show off1 + (j : Int).toNat * 1 = off1 + j by omega) (by rw [List.getElem?_map, List.getElem?_eq_getElem hjl]; rfl))) ?_)
          refine ⟨hS6, ?_⟩
          refine WN.calm _ rfl rfl rfl rfl rfl (fun _ => r_neq rfl (ev_t rfl) (ev_t rfl)) ?_
          refine WN.done ?_
          refine WX.keep [(0, _), (1, _), (5, _), (25, _)] ⟨rfl, rfl, rfl, rfl, trivial⟩ ?_
          refine WX.next ?_
          refine WC.cond rfl (ev_t rfl) (fun hc6 => ?_) (fun hc6 => ?_)
          · try (exfalso; first | (simp at hc6; done) | (simp only [decide_eq_true_eq, decide_eq_false_iff_not, Bool.not_eq_true', Bool.not_eq_false', Bool.not_eq_true, Bool.not_eq_false] at hc6; omega) | omega)
            all_goals
             try simp only [decide_eq_true_eq, decide_eq_false_iff_not, Bool.not_eq_true', Bool.not_eq_false', Bool.not_eq_true, Bool.not_eq_false, Option.isNone_none, Option.isNone_some, Option.isSome_none, Option.isSome_some, ne_eq, Decidable.not_not] at hc6
             refine WC.seq ?_
             refine WC.region ?_
             refine WL.val rfl rfl rfl rfl (r_assign rfl ev_c) ?_
             refine WL.nil ?_
             refine WX.keep [(4, _)] ⟨rfl, trivial⟩ ?_
             refine WX.next ?_
             refine WC.ret ?_
             refine WX.blockRet ?_
             refine WX.thenRet ?_
             refine WX.thenRet ?_
             refine WX.blockRet ?_
             refine WX.thenRet ?_
             refine WX.retE1 rfl rfl ?_
             fail
          · try (exfalso; first | (simp at hc6; done) | (simp only [decide_eq_true_eq, decide_eq_false_iff_not, Bool.not_eq_true', Bool.not_eq_false', Bool.not_eq_true, Bool.not_eq_false] at hc6; omega) | omega)
            all_goals
             try simp only [decide_eq_true_eq, decide_eq_false_iff_not, Bool.not_eq_true', Bool.not_eq_false', Bool.not_eq_true, Bool.not_eq_false, Option.isNone_none, Option.isNone_some, Option.isSome_none, Option.isSome_some, ne_eq, Decidable.not_not] at hc6
             refine WC.skip ?_
             refine WX.blockNormal ?_
             refine WX.next ?_
             refine WC.region ?_
             refine WL.val rfl rfl rfl rfl (r_move rfl (ev_t rfl)) ?_
             first | refine WL.val rfl rfl rfl rfl (r_addN rfl (ev_t rfl) ev_c (by simp only [inK]; omega)) ?_ | refine WL.val rfl rfl rfl rfl (r_add rfl (ev_t rfl) ev_c) ?_
             refine WL.val rfl rfl rfl rfl (r_assign rfl (ev_t rfl)) ?_
             refine WL.nil ?_
             refine WX.keep [(0, _), (1, _), (5, _)] ⟨rfl, rfl, rfl, trivial⟩ ?_
             refine WX.meet [(0, _), (1, _), (5, _)] ⟨rfl, rfl, rfl, trivial⟩ ?_
             exact ⟨l.length - (j + 1), by omega, j + 1, by omega, rfl, hU, hr, hr2, rfl⟩
       · try (exfalso; first | (simp at hc4; done) | (simp only [decide_eq_true_eq, decide_eq_false_iff_not, Bool.not_eq_true', Bool.not_eq_false', Bool.not_eq_true, Bool.not_eq_false] at hc4; omega) | omega)
         all_goals
          try simp only [decide_eq_true_eq, decide_eq_false_iff_not, Bool.not_eq_true', Bool.not_eq_false', Bool.not_eq_true, Bool.not_eq_false, Option.isNone_none, Option.isNone_some, Option.isSome_none, Option.isSome_some, ne_eq, Decidable.not_not] at hc4
          refine WC.exit ?_
          refine WX.thenExit ?_
          refine WX.thenExit ?_
          refine WX.blockHere ?_
          refine WX.next ?_
          refine WC.seq ?_
          refine WC.region ?_
          refine WL.val rfl rfl rfl rfl (r_assign rfl ev_c) ?_
          refine WL.nil ?_
          refine WX.keep [(4, _)] ⟨rfl, trivial⟩ ?_
          refine WX.next ?_
          refine WC.ret ?_
          refine WX.retE1 rfl rfl ?_
          exact ⟨rfl, hU⟩
end Go.Proofs.YtdpnnclkkbfihaaDoor
