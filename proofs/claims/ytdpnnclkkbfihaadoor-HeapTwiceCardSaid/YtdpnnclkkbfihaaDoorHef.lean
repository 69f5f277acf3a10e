/-
  heap: PutText with no roots.
-/
import Derived.Test.YtdpnnclkkbfihaaDoorHee
import Derived.Test.YtdpnnclkkbfihaaDoorHeQ
namespace Go.Proofs.YtdpnnclkkbfihaaDoor
open Go
set_option linter.unusedSimpArgs false
set_option linter.unusedVariables false

def textN (s : List UInt8) : Nat := 1 + (s.length + 7) / 8
theorem encT_get {s : List UInt8} {j : Nat} (hj : j < (s.length + 7) / 8) : (encT s)[j]? = some (leW ((s.drop (8 * j)).take 8)) := by
  unfold encT
  rw [List.getElem?_map, List.getElem?_range hj]
  rfl
theorem take_get {α : Type} {l : List α} {j : Nat} {x : α} (h : l[j]? = some x) : l.take (j + 1) = l.take j ++ [x] := by
  have hj : j < l.length := (List.getElem?_eq_some_iff.1 h).1
  rw [List.take_succ_eq_append_getElem hj]
  rw [List.getElem?_eq_getElem hj] at h
  injection h with h
  rw [h]
set_option maxHeartbeats 2000000 in
theorem puttext_ok {w : World} {G : Nat → Prop} {p : Nat} {A : Option Addr} {c : Nat} {mem : List Nat} {q n : Nat} {s : List UInt8} (hH : HS w G p A c mem q n) (hn : n + 1 ≤ 1000000000) (hs : s.length ≤ 1000000) :
    Ret Tryd.prog 12 #[.pointer (some ⟨p, 0, none⟩), .string ⟨s.toArray⟩, .slice none 0 0] w fun v w' => ∃ G' A' c' mem', HS w' G' p A' c' mem' q (leftN q (textN s) mem n) ∧ (∀ k, G' k → G k ∨ w.heap.size ≤ k) ∧ Upd (fun k => k = p ∨ G k) w w' ∧
      (textN s + (leftM q (textN s) mem).length ≤ q → v = .tuple #[.int .u64 ((2 * (leftM q (textN s) mem).length : Nat) : Int), .int .i64 0] ∧ mem' = leftM q (textN s) mem ++ [s.length * 256 + 3] ++ encT s) ∧
      (¬ textN s + (leftM q (textN s) mem).length ≤ q → v = .tuple #[.int .u64 0, .int .i64 11] ∧ mem' = leftM q (textN s) mem) := by
  have hle := hH.le
  have hlp := hH.hd.lt
  have hlG := hH.lt
  have hnG := hH.ne
  generalize hM : leftM q (textN s) mem = M at *
  generalize hN : leftN q (textN s) mem n = N at *
  refine enterRet (vs := [_, _, _]) (N := 80) Tryd.func12 rfl rfl rfl ?_
  have hU := Upd.refl (fun k => k = p ∨ G k) w
  refine WC.keep [(0, _), (1, _), (2, _)] ⟨rfl, rfl, rfl, trivial⟩ ?_
  refine WC.seq ?_
  refine WC.region ?_
  refine WL.val rfl rfl rfl rfl (r_assign rfl ev_c) ?_
  refine WL.val rfl rfl rfl rfl (r_assign rfl ev_c) ?_
  refine WL.nil ?_
  refine WX.keep [(0, _), (1, _), (2, _)] ⟨rfl, rfl, rfl, trivial⟩ ?_
  refine WX.next ?_
  refine WC.seq ?_
  refine WC.seq ?_
  refine WC.region ?_
  refine WL.val rfl rfl rfl rfl (r_move rfl (ev_t rfl)) ?_
  refine WL.val rfl rfl rfl rfl (r_eqlPtrNil rfl (ev_t rfl) ev_c ptr_26) ?_
  refine WL.nil ?_
  refine WX.keep [(0, _), (1, _), (2, _), (13, _)] ⟨rfl, rfl, rfl, rfl, trivial⟩ ?_
  refine WX.next ?_
  refine WC.cond rfl (ev_t rfl) (fun hc1 => ?_) (fun hc1 => ?_)
  · try (exfalso; first | (simp at hc1; done) | (simp only [decide_eq_true_eq, decide_eq_false_iff_not, Bool.not_eq_true', Bool.not_eq_false', Bool.not_eq_true, Bool.not_eq_false] at hc1; omega) | omega)
    all_goals
     try simp only [decide_eq_true_eq, decide_eq_false_iff_not, Bool.not_eq_true', Bool.not_eq_false', Bool.not_eq_true, Bool.not_eq_false, Option.isNone_none, Option.isNone_some, Option.isSome_none, Option.isSome_some, ne_eq, Decidable.not_not] at hc1
     refine WC.seq ?_
     refine WC.region ?_
     refine WL.val rfl rfl rfl rfl (r_assign rfl ev_c) ?_
     refine WL.val rfl rfl rfl rfl (r_assign rfl ev_c) ?_
     refine WL.nil ?_
     refine WX.keep [(6, _), (7, _)] ⟨rfl, rfl, trivial⟩ ?_
     refine WX.next ?_
     refine WC.ret ?_
     refine WX.thenRet ?_
     refine WX.retE2 rfl rfl rfl ?_
     obtain rfl : j = (s.length + 7) / 8 := by omega
     have et : (encT s).take ((s.length + 7) / 8) = encT s := List.take_of_length_le (by rw [encT_len]; omega)
     rw [et] at hH
     refine ⟨G2, _, _, _, hH, hG2, hU, fun _ => ⟨?_, rfl⟩, fun h => absurd hfit h⟩
     rw [wrap_u64]
     have e2 : (2 : Int) ^ Int.toNat 1 = 2 := by decide
     rw [e2, show ((M.length : Int) * 2 % 18446744073709551616) = ((2 * M.length : Nat) : Int) by omega]
  · try (exfalso; first | (simp at hc1; done) | (simp only [decide_eq_true_eq, decide_eq_false_iff_not, Bool.not_eq_true', Bool.not_eq_false', Bool.not_eq_true, Bool.not_eq_false] at hc1; omega) | omega)
    all_goals
     try simp only [decide_eq_true_eq, decide_eq_false_iff_not, Bool.not_eq_true', Bool.not_eq_false', Bool.not_eq_true, Bool.not_eq_false, Option.isNone_none, Option.isNone_some, Option.isSome_none, Option.isSome_some, ne_eq, Decidable.not_not] at hc1
     refine WC.skip ?_
     refine WX.next ?_
     refine WC.seq ?_
     refine WC.seq ?_
     refine WC.region ?_
     refine WL.val rfl rfl rfl rfl (r_move rfl (ev_t rfl)) ?_
     refine WL.val rfl rfl rfl rfl (r_move rfl (ev_t rfl)) ?_
     refine WL.val rfl rfl rfl rfl (r_lenStrL rfl (ev_t rfl) str_9) ?_
     refine WL.cons (SO.call (need_ok (by omega)) rfl body_10 ⟨ev_c, (ev_t rfl), trivial⟩ rfl rfl rfl rfl ?_)
     rintro v w1 ⟨rfl, rfl⟩
     refine WL.val rfl rfl rfl rfl (r_move rfl (ev_t rfl)) ?_
     refine WL.cons (SO.call (room_ok hH hn (by omega)) rfl body_41 ⟨(ev_t rfl), (ev_t rfl), (ev_t rfl), trivial⟩ rfl rfl rfl rfl ?_)
     rw [show (1 + (s.length + 7) / 8) = textN s from rfl, hM, hN]
     rintro v w2 ⟨G1, A1, c1, rfl, hH2, hG1, hu2⟩
     have hs2 := hu2.size
     replace hU := hU.trans hu2 (by first | exact (fun _ _ h => h) | exact (fun _ _ h => h.elim) | (intro k hl hk; (try simp only [At, New, Grow, From, No] at hk ⊢); omega) | (intro k hl hk; first | exact (show False from hk).elim | (simp only [At] at hk; exact .inl hk) | (have h9 := hG1 k hk; rcases h9 with h | h; exact .inr h; (exfalso; omega)) | (have h9 := hG2 k hk; rcases h9 with h | h; exact .inr h; (exfalso; omega))))
     have hH := hH2
     have hle1 := hH.le
     refine WL.val rfl rfl rfl rfl (r_not rfl (ev_t rfl)) ?_
     refine WL.nil ?_
     refine WX.keep [(0, _), (1, _), (20, _)] ⟨rfl, rfl, rfl, trivial⟩ ?_
     refine WX.next ?_
     refine WC.cond rfl (ev_t rfl) (fun hc3 => ?_) (fun hc3 => ?_)
     · try (exfalso; first | (simp at hc3; done) | (simp only [decide_eq_true_eq, decide_eq_false_iff_not, Bool.not_eq_true', Bool.not_eq_false', Bool.not_eq_true, Bool.not_eq_false] at hc3; omega) | omega)
       all_goals
        try simp only [decide_eq_true_eq, decide_eq_false_iff_not, Bool.not_eq_true', Bool.not_eq_false', Bool.not_eq_true, Bool.not_eq_false, Option.isNone_none, Option.isNone_some, Option.isSome_none, Option.isSome_some, ne_eq, Decidable.not_not] at hc3
        refine WC.seq ?_
        refine WC.region ?_
        refine WL.val rfl rfl rfl rfl (r_assign rfl ev_c) ?_
        refine WL.val rfl rfl rfl rfl (r_assign rfl ev_c) ?_
        refine WL.nil ?_
        refine WX.keep [(6, _), (7, _)] ⟨rfl, rfl, trivial⟩ ?_
        refine WX.next ?_
        refine WC.ret ?_
        refine WX.thenRet ?_
        refine WX.retE2 rfl rfl rfl ?_
        exact ⟨G1, _, _, M, hH, fun k hk => hG1 k hk, hU, fun h => absurd h (by simpa using hc3), fun _ => ⟨rfl, rfl⟩⟩
     · try (exfalso; first | (simp at hc3; done) | (simp only [decide_eq_true_eq, decide_eq_false_iff_not, Bool.not_eq_true', Bool.not_eq_false', Bool.not_eq_true, Bool.not_eq_false] at hc3; omega) | omega)
       all_goals
        try simp only [decide_eq_true_eq, decide_eq_false_iff_not, Bool.not_eq_true', Bool.not_eq_false', Bool.not_eq_true, Bool.not_eq_false, Option.isNone_none, Option.isNone_some, Option.isSome_none, Option.isSome_some, ne_eq, Decidable.not_not] at hc3
        have hfit : textN s + M.length ≤ q := by simpa using hc3
        have hfit2 : 1 + (s.length + 7) / 8 + M.length ≤ q := hfit
        refine WC.skip ?_
        refine WX.next ?_
        refine WC.seq ?_
        refine WC.region ?_
        refine WL.val rfl rfl rfl rfl (r_move rfl (ev_t rfl)) ?_
        refine WL.val rfl rfl rfl rfl (r_nilCheck rfl (ev_t rfl)) ?_
        first | refine WL.val rfl rfl rfl rfl (r_field0 rfl (ev_t rfl) fld_79_0) ?_ | refine WL.val rfl rfl rfl rfl (r_fieldAt rfl (ev_t rfl) fld_79_0) ?_
        refine WL.val rfl rfl rfl rfl (r_load rfl (ev_t rfl) flat_30 (Blk.cell hH.hd rfl)) ?_
        refine WL.val rfl rfl rfl rfl (r_lenSlice (ts := #[]) rfl (ev_t rfl) elem_30) ?_
        refine WL.val rfl rfl rfl rfl (r_assign rfl (ev_t rfl)) ?_
        refine WL.nil ?_
        refine WX.keep [(0, _), (1, _), (8, _)] ⟨rfl, rfl, rfl, trivial⟩ ?_
        refine WX.next ?_
        -- cut r6: live [0, 1, 8]
        refine WC.cut (fun E wB => ∃ (A2 : Option Addr) (c2 : Nat) (G2 : Nat → Prop), Upd (fun k => k = p ∨ G k) w wB ∧ HS wB G2 p A2 c2 (M ++ [s.length * 256 + 3]) q N ∧ (∀ k, G2 k → G k ∨ w.heap.size ≤ k) ∧ E = [(0, .pointer (some ⟨p, 0, none⟩)), (1, .string ⟨s.toArray⟩), (8, .int .i64 (M.length : Int))]) ?_ ?_
        · obtain ⟨hhd, how, hne, hlt, hle2, hcn⟩ := hH
          refine WC.draws' (fun u0_ u1_ => Upd (fun k => k = p ∨ G1 k) u0_ u1_) (fun j => [0, 0, 0, 0, 2, 0, 0, 2, 2, 2, 0, 0, 2].getD j 0) (.calm 0 (.calm 1 (.calm 2 (.calm 3 (.calm 5 (.calm 6 (.two 4 7 (.one 7 (.one 8 (.one 9 (.calm 10 (.calm 11 (.one 12 (.done))))))) (.two 4 8 (.one 8 (.one 9 (.calm 10 (.calm 11 (.one 12 (.done)))))) (.one 4 (.one 9 (.calm 10 (.calm 11 (.one 12 (.done)))))))))))))) mixed (by kernel_rfl) (by repeat (first | with_reducible exact Deaf.body | with_reducible apply Deaf.then | with_reducible apply Deaf.block)) ?_
          intro w3 hu3
          have hz3 := congrArg Array.size hu3.2.2.2
          replace hu3 := Upd.of_draw hu3
          have hs3 := hu3.size
          replace hU := hU.trans hu3 (by first | exact (fun _ _ h => h) | exact (fun _ _ h => h.elim) | (intro k hl hk; (try simp only [At, New, Grow, From, No] at hk ⊢); omega) | (intro k hl hk; first | exact (show False from hk).elim | (simp only [At] at hk; exact .inl hk) | (have h9 := hG1 k hk; rcases h9 with h | h; exact .inr h; (exfalso; omega)) | (have h9 := hG2 k hk; rcases h9 with h | h; exact .inr h; (exfalso; omega))))
          replace hhd := hhd.upd hu3 (fun hS => by first | exact (show False from hS) | (simp only [At] at hS; omega) | exact hne hS)
          replace how := how.upd hu3 (fun k hk hl hS => by first | exact (show False from hS).elim | (simp only [At] at hS; subst hS; first | exact hne hk | (rcases hk with hk | hk; exact hne hk; omega) | (have := hlt _ hk; omega)))
          refine WN.calm _ rfl rfl rfl rfl rfl (fun _ => r_move rfl (ev_t rfl)) ?_
          refine WN.calm _ rfl rfl rfl rfl rfl (fun _ => r_move rfl (ev_t rfl)) ?_
          refine WN.calm _ rfl rfl rfl rfl rfl (fun _ => r_nilCheck rfl (ev_t rfl)) ?_
          first | refine WN.calm _ rfl rfl rfl rfl rfl (fun _ => r_field0 rfl (ev_t rfl) fld_79_0) ?_ | refine WN.calm _ rfl rfl rfl rfl rfl (fun _ => r_fieldAt rfl (ev_t rfl) fld_79_0) ?_
          refine WN.calm _ rfl rfl rfl rfl rfl (fun _ => r_move rfl (ev_t rfl)) ?_
          refine WN.calm _ rfl rfl rfl rfl rfl (fun _ => r_lenStrL rfl (ev_t rfl) str_9) ?_
          refine WN.fork _ _ rfl rfl ?_ ?_
          · refine SO.val rfl rfl rfl rfl (r_load rfl (ev_t rfl) flat_30 (Blk.cell hhd rfl)) ?_
            refine ⟨trivial, ?_⟩
            refine WN.step _ rfl (SO.call (head_ok (by omega)) rfl body_42 ⟨ev_c, (ev_t rfl), trivial⟩ rfl rfl rfl rfl ?_)
            rintro v w4 ⟨rfl, rfl⟩
            refine ⟨trivial, ?_⟩
            refine WN.step _ rfl (SO.alloc rfl rfl rfl rfl (r_buildSlice1 (vs := [_]) rfl ⟨(ev_t rfl), trivial⟩ rfl row_30 rfl rfl) ?_)
            intro w5 hu5 hB5 hz5
            have hs5 := hu5.size
            replace hU := hU.trans hu5 (by first | exact (fun _ _ h => h) | exact (fun _ _ h => h.elim) | (intro k hl hk; (try simp only [At, New, Grow, From, No] at hk ⊢); omega) | (intro k hl hk; first | exact (show False from hk).elim | (simp only [At] at hk; exact .inl hk) | (have h9 := hG1 k hk; rcases h9 with h | h; exact .inr h; (exfalso; omega)) | (have h9 := hG2 k hk; rcases h9 with h | h; exact .inr h; (exfalso; omega))))
            replace hhd := hhd.upd hu5 (fun hS => by first | exact (show False from hS) | (simp only [At] at hS; omega) | exact hne hS)
            replace how := how.upd hu5 (fun k hk hl hS => by first | exact (show False from hS).elim | (simp only [At] at hS; subst hS; first | exact hne hk | (rcases hk with hk | hk; exact hne hk; omega) | (have := hlt _ hk; omega)))
            refine ⟨trivial, ?_⟩
            refine WN.step _ rfl (SO.append how (show Rd _ _ _ 1 1 [Wd (s.length * 256 + 3)] from Rd.of_blk (F := At _) (n := 1) (sz := 1) hB5 rfl rfl (by omega)) row_30 (fun u hu => by simp at hu; subst hu; rfl) (le_maxLen (by omega)) (by omega) rfl (ev_t rfl) (ev_t rfl) rfl rfl rfl rfl ?_)
            intro v6 w6 how hu6
            have hs6 := hu6.size
            replace hU := hU.trans hu6 (by first | exact (fun _ _ h => h) | exact (fun _ _ h => h.elim) | (intro k hl hk; (try simp only [At, New, Grow, From, No] at hk ⊢); omega) | (intro k hl hk; first | exact (show False from hk).elim | (simp only [At] at hk; exact .inl hk) | (have h9 := hG1 k hk; rcases h9 with h | h; exact .inr h; (exfalso; omega)) | (have h9 := hG2 k hk; rcases h9 with h | h; exact .inr h; (exfalso; omega))))
            replace hhd := hhd.upd hu6 (fun hS => by first | exact (show False from hS) | (simp only [At] at hS; omega) | exact hne hS)
            refine ⟨trivial, ?_⟩
            obtain ⟨A6, c6, rfl, hc6⟩ := Own.form how
            refine WN.calm _ rfl rfl rfl rfl rfl (fun _ => r_nilCheck rfl (ev_t rfl)) ?_
            first | refine WN.calm _ rfl rfl rfl rfl rfl (fun _ => r_field0 rfl (ev_t rfl) fld_79_0) ?_ | refine WN.calm _ rfl rfl rfl rfl rfl (fun _ => r_fieldAt rfl (ev_t rfl) fld_79_0) ?_
            refine WN.step _ rfl (SO.store rfl (ev_t rfl) (ev_t rfl) size_30 hhd rfl rfl rfl rfl rfl ?_)
            intro w7 hu7 hhd hz7
            have hs7 := hu7.size
            replace hU := hU.trans hu7 (by first | exact (fun _ _ h => h) | exact (fun _ _ h => h.elim) | (intro k hl hk; (try simp only [At, New, Grow, From, No] at hk ⊢); omega) | (intro k hl hk; first | exact (show False from hk).elim | (simp only [At] at hk; exact .inl hk) | (have h9 := hG1 k hk; rcases h9 with h | h; exact .inr h; (exfalso; omega)) | (have h9 := hG2 k hk; rcases h9 with h | h; exact .inr h; (exfalso; omega))))
            replace how := how.upd hu7 (fun k hk hl hS => by first | exact (show False from hS).elim | (simp only [At] at hS; subst hS; first | exact hne hk | (rcases hk with hk | hk; exact hne hk; omega) | (have := hlt _ hk; omega)))
            refine ⟨trivial, ?_⟩
            refine WN.done ?_
            refine WX.keep [(0, _), (1, _), (8, _)] ⟨rfl, rfl, rfl, trivial⟩ ?_
            refine WX.meet [(0, _), (1, _), (8, _)] ⟨rfl, rfl, rfl, trivial⟩ ?_
            have eL : M.length + 1 = (M ++ [s.length * 256 + 3]).length := by simp
            have eM : M.map Wd ++ [Wd (s.length * 256 + 3)] = (M ++ [s.length * 256 + 3]).map Wd := by simp
            rw [eM] at how
            rw [eL] at how hhd
            refine ⟨_, _, _, hU, ⟨hhd, how, fun h => ?_, fun k hk => ?_, ⟨by rw [← eL]; omega, hle2.2⟩, hcn⟩, fun k hk => ?_, rfl⟩
            · rcases h with h | h
              · exact hne h
              · omega
            · rcases hk with hk | hk
              · have := hlt k hk; omega
              · omega
            · rcases hk with hk | hk
              · exact hG1 k hk
              · exact .inr (by omega)
          · refine SO.call (head_ok (by omega)) rfl body_42 ⟨ev_c, (ev_t rfl), trivial⟩ rfl rfl rfl rfl ?_
            rintro v w8 ⟨rfl, rfl⟩
            refine ⟨trivial, ?_⟩
            refine WN.fork _ _ rfl rfl ?_ ?_
            · refine SO.val rfl rfl rfl rfl (r_load rfl (ev_t rfl) flat_30 (Blk.cell hhd rfl)) ?_
              refine ⟨trivial, ?_⟩
              refine WN.step _ rfl (SO.alloc rfl rfl rfl rfl (r_buildSlice1 (vs := [_]) rfl ⟨(ev_t rfl), trivial⟩ rfl row_30 rfl rfl) ?_)
              intro w9 hu9 hB9 hz9
              have hs9 := hu9.size
              replace hU := hU.trans hu9 (by first | exact (fun _ _ h => h) | exact (fun _ _ h => h.elim) | (intro k hl hk; (try simp only [At, New, Grow, From, No] at hk ⊢); omega) | (intro k hl hk; first | exact (show False from hk).elim | (simp only [At] at hk; exact .inl hk) | (have h9 := hG1 k hk; rcases h9 with h | h; exact .inr h; (exfalso; omega)) | (have h9 := hG2 k hk; rcases h9 with h | h; exact .inr h; (exfalso; omega))))
              replace hhd := hhd.upd hu9 (fun hS => by first | exact (show False from hS) | (simp only [At] at hS; omega) | exact hne hS)
              replace how := how.upd hu9 (fun k hk hl hS => by first | exact (show False from hS).elim | (simp only [At] at hS; subst hS; first | exact hne hk | (rcases hk with hk | hk; exact hne hk; omega) | (have := hlt _ hk; omega)))
              refine ⟨trivial, ?_⟩
              refine WN.step _ rfl (SO.append how (show Rd _ _ _ 1 1 [Wd (s.length * 256 + 3)] from Rd.of_blk (F := At _) (n := 1) (sz := 1) hB9 rfl rfl (by omega)) row_30 (fun u hu => by simp at hu; subst hu; rfl) (le_maxLen (by omega)) (by omega) rfl (ev_t rfl) (ev_t rfl) rfl rfl rfl rfl ?_)
              intro v10 w10 how hu10
              have hs10 := hu10.size
              replace hU := hU.trans hu10 (by first | exact (fun _ _ h => h) | exact (fun _ _ h => h.elim) | (intro k hl hk; (try simp only [At, New, Grow, From, No] at hk ⊢); omega) | (intro k hl hk; first | exact (show False from hk).elim | (simp only [At] at hk; exact .inl hk) | (have h9 := hG1 k hk; rcases h9 with h | h; exact .inr h; (exfalso; omega)) | (have h9 := hG2 k hk; rcases h9 with h | h; exact .inr h; (exfalso; omega))))
              replace hhd := hhd.upd hu10 (fun hS => by first | exact (show False from hS) | (simp only [At] at hS; omega) | exact hne hS)
              refine ⟨trivial, ?_⟩
              obtain ⟨A10, c10, rfl, hc10⟩ := Own.form how
              refine WN.calm _ rfl rfl rfl rfl rfl (fun _ => r_nilCheck rfl (ev_t rfl)) ?_
              first | refine WN.calm _ rfl rfl rfl rfl rfl (fun _ => r_field0 rfl (ev_t rfl) fld_79_0) ?_ | refine WN.calm _ rfl rfl rfl rfl rfl (fun _ => r_fieldAt rfl (ev_t rfl) fld_79_0) ?_
              refine WN.step _ rfl (SO.store rfl (ev_t rfl) (ev_t rfl) size_30 hhd rfl rfl rfl rfl rfl ?_)
              intro w11 hu11 hhd hz11
              have hs11 := hu11.size
              replace hU := hU.trans hu11 (by first | exact (fun _ _ h => h) | exact (fun _ _ h => h.elim) | (intro k hl hk; (try simp only [At, New, Grow, From, No] at hk ⊢); omega) | (intro k hl hk; first | exact (show False from hk).elim | (simp only [At] at hk; exact .inl hk) | (have h9 := hG1 k hk; rcases h9 with h | h; exact .inr h; (exfalso; omega)) | (have h9 := hG2 k hk; rcases h9 with h | h; exact .inr h; (exfalso; omega))))
              replace how := how.upd hu11 (fun k hk hl hS => by first | exact (show False from hS).elim | (simp only [At] at hS; subst hS; first | exact hne hk | (rcases hk with hk | hk; exact hne hk; omega) | (have := hlt _ hk; omega)))
              refine ⟨trivial, ?_⟩
              refine WN.done ?_
              refine WX.keep [(0, _), (1, _), (8, _)] ⟨rfl, rfl, rfl, trivial⟩ ?_
              refine WX.meet [(0, _), (1, _), (8, _)] ⟨rfl, rfl, rfl, trivial⟩ ?_
              have eL : M.length + 1 = (M ++ [s.length * 256 + 3]).length := by simp
              have eM : M.map Wd ++ [Wd (s.length * 256 + 3)] = (M ++ [s.length * 256 + 3]).map Wd := by simp
              rw [eM] at how
              rw [eL] at how hhd
              refine ⟨_, _, _, hU, ⟨hhd, how, fun h => ?_, fun k hk => ?_, ⟨by rw [← eL]; omega, hle2.2⟩, hcn⟩, fun k hk => ?_, rfl⟩
              · rcases h with h | h
                · exact hne h
                · omega
              · rcases hk with hk | hk
                · have := hlt k hk; omega
                · omega
              · rcases hk with hk | hk
                · exact hG1 k hk
                · exact .inr (by omega)
            · refine SO.alloc rfl rfl rfl rfl (r_buildSlice1 (vs := [_]) rfl ⟨(ev_t rfl), trivial⟩ rfl row_30 rfl rfl) ?_
              intro w12 hu12 hB12 hz12
              have hs12 := hu12.size
              replace hU := hU.trans hu12 (by first | exact (fun _ _ h => h) | exact (fun _ _ h => h.elim) | (intro k hl hk; (try simp only [At, New, Grow, From, No] at hk ⊢); omega) | (intro k hl hk; first | exact (show False from hk).elim | (simp only [At] at hk; exact .inl hk) | (have h9 := hG1 k hk; rcases h9 with h | h; exact .inr h; (exfalso; omega)) | (have h9 := hG2 k hk; rcases h9 with h | h; exact .inr h; (exfalso; omega))))
              replace hhd := hhd.upd hu12 (fun hS => by first | exact (show False from hS) | (simp only [At] at hS; omega) | exact hne hS)
              replace how := how.upd hu12 (fun k hk hl hS => by first | exact (show False from hS).elim | (simp only [At] at hS; subst hS; first | exact hne hk | (rcases hk with hk | hk; exact hne hk; omega) | (have := hlt _ hk; omega)))
              refine ⟨trivial, ?_⟩
              refine WN.step _ rfl (SO.val rfl rfl rfl rfl (r_load rfl (ev_t rfl) flat_30 (Blk.cell hhd rfl)) ?_)
              refine ⟨trivial, ?_⟩
              refine WN.step _ rfl (SO.append how (show Rd _ _ _ 1 1 [Wd (s.length * 256 + 3)] from Rd.of_blk (F := At _) (n := 1) (sz := 1) hB12 rfl rfl (by omega)) row_30 (fun u hu => by simp at hu; subst hu; rfl) (le_maxLen (by omega)) (by omega) rfl (ev_t rfl) (ev_t rfl) rfl rfl rfl rfl ?_)
              intro v13 w13 how hu13
              have hs13 := hu13.size
              replace hU := hU.trans hu13 (by first | exact (fun _ _ h => h) | exact (fun _ _ h => h.elim) | (intro k hl hk; (try simp only [At, New, Grow, From, No] at hk ⊢); omega) | (intro k hl hk; first | exact (show False from hk).elim | (simp only [At] at hk; exact .inl hk) | (have h9 := hG1 k hk; rcases h9 with h | h; exact .inr h; (exfalso; omega)) | (have h9 := hG2 k hk; rcases h9 with h | h; exact .inr h; (exfalso; omega))))
              replace hhd := hhd.upd hu13 (fun hS => by first | exact (show False from hS) | (simp only [At] at hS; omega) | exact hne hS)
              refine ⟨trivial, ?_⟩
              obtain ⟨A13, c13, rfl, hc13⟩ := Own.form how
              refine WN.calm _ rfl rfl rfl rfl rfl (fun _ => r_nilCheck rfl (ev_t rfl)) ?_
              first | refine WN.calm _ rfl rfl rfl rfl rfl (fun _ => r_field0 rfl (ev_t rfl) fld_79_0) ?_ | refine WN.calm _ rfl rfl rfl rfl rfl (fun _ => r_fieldAt rfl (ev_t rfl) fld_79_0) ?_
              refine WN.step _ rfl (SO.store rfl (ev_t rfl) (ev_t rfl) size_30 hhd rfl rfl rfl rfl rfl ?_)
              intro w14 hu14 hhd hz14
              have hs14 := hu14.size
              replace hU := hU.trans hu14 (by first | exact (fun _ _ h => h) | exact (fun _ _ h => h.elim) | (intro k hl hk; (try simp only [At, New, Grow, From, No] at hk ⊢); omega) | (intro k hl hk; first | exact (show False from hk).elim | (simp only [At] at hk; exact .inl hk) | (have h9 := hG1 k hk; rcases h9 with h | h; exact .inr h; (exfalso; omega)) | (have h9 := hG2 k hk; rcases h9 with h | h; exact .inr h; (exfalso; omega))))
              replace how := how.upd hu14 (fun k hk hl hS => by first | exact (show False from hS).elim | (simp only [At] at hS; subst hS; first | exact hne hk | (rcases hk with hk | hk; exact hne hk; omega) | (have := hlt _ hk; omega)))
              refine ⟨trivial, ?_⟩
              refine WN.done ?_
              refine WX.keep [(0, _), (1, _), (8, _)] ⟨rfl, rfl, rfl, trivial⟩ ?_
              refine WX.meet [(0, _), (1, _), (8, _)] ⟨rfl, rfl, rfl, trivial⟩ ?_
              have eL : M.length + 1 = (M ++ [s.length * 256 + 3]).length := by simp
              have eM : M.map Wd ++ [Wd (s.length * 256 + 3)] = (M ++ [s.length * 256 + 3]).map Wd := by simp
              rw [eM] at how
              rw [eL] at how hhd
              refine ⟨_, _, _, hU, ⟨hhd, how, fun h => ?_, fun k hk => ?_, ⟨by rw [← eL]; omega, hle2.2⟩, hcn⟩, fun k hk => ?_, rfl⟩
              · rcases h with h | h
                · exact hne h
                · omega
              · rcases hk with hk | hk
                · have := hlt k hk; omega
                · omega
              · rcases hk with hk | hk
                · exact hG1 k hk
                · exact .inr (by omega)
        · clear hU
          rintro E wB ⟨A2, c2, G2, hU, hH, hG2, rfl⟩
          refine WC.seq ?_
          refine WC.seq ?_
          refine WC.region ?_
          refine WL.val rfl rfl rfl rfl (r_assign rfl ev_c) ?_
          refine WL.nil ?_
          refine WX.keep [(0, _), (1, _), (8, _), (9, _)] ⟨rfl, rfl, rfl, rfl, trivial⟩ ?_
          refine WX.next ?_
          refine WC.block ?_
          -- loop 1: live [0, 1, 8, 9]
          refine WC.keep [(0, _), (1, _), (8, _), (9, _)] ⟨rfl, rfl, rfl, rfl, trivial⟩ ?_
          refine WC.loop (fun qq E wC => ∃ (j : Nat) (A2 : Option Addr) (c2 : Nat) (G2 : Nat → Prop), j ≤ (s.length + 7) / 8 ∧ qq = (s.length + 7) / 8 - j ∧ Upd (fun k => k = p ∨ G k) w wC ∧ HS wC G2 p A2 c2 (M ++ [s.length * 256 + 3] ++ (encT s).take j) q N ∧ (∀ k, G2 k → G k ∨ w.heap.size ≤ k) ∧ E = [(0, .pointer (some ⟨p, 0, none⟩)), (1, .string ⟨s.toArray⟩), (8, .int .i64 (M.length : Int)), (9, .int .i64 ((8 * j : Nat) : Int))]) ((s.length + 7) / 8) ?_ ?_
          · exact ⟨0, A2, c2, G2, by omega, by omega, hU, by simpa using hH, hG2, rfl⟩
          · clear hU hH hG2
            rintro qq E wC ⟨j, A2, c2, G2, hj, rfl, hU, hH, hG2, rfl⟩
            have hUs := hU.size
            refine WC.seq ?_
            refine WC.seq ?_
            refine WC.region ?_
            refine WL.val rfl rfl rfl rfl (r_move rfl (ev_t rfl)) ?_
            refine WL.val rfl rfl rfl rfl (r_move rfl (ev_t rfl)) ?_
            refine WL.val rfl rfl rfl rfl (r_lenStrL rfl (ev_t rfl) str_9) ?_
            refine WL.val rfl rfl rfl rfl (r_lss rfl (ev_t rfl) (ev_t rfl)) ?_
            refine WL.nil ?_
            refine WX.keep [(0, _), (1, _), (8, _), (9, _), (41, _)] ⟨rfl, rfl, rfl, rfl, rfl, trivial⟩ ?_
            refine WX.next ?_
            refine WC.cond rfl (ev_t rfl) (fun hc8 => ?_) (fun hc8 => ?_)
            · try (exfalso; first | (simp at hc8; done) | (simp only [decide_eq_true_eq, decide_eq_false_iff_not, Bool.not_eq_true', Bool.not_eq_false', Bool.not_eq_true, Bool.not_eq_false] at hc8; omega) | omega)
              all_goals
               try simp only [decide_eq_true_eq, decide_eq_false_iff_not, Bool.not_eq_true', Bool.not_eq_false', Bool.not_eq_true, Bool.not_eq_false, Option.isNone_none, Option.isNone_some, Option.isSome_none, Option.isSome_some, ne_eq, Decidable.not_not] at hc8
               refine WC.skip ?_
               refine WX.next ?_
               refine WC.seq ?_
               refine WC.block ?_
               refine WC.seq ?_
               refine WC.region ?_
               refine WL.val rfl rfl rfl rfl (r_assign rfl ev_c) ?_
               refine WL.nil ?_
               refine WX.keep [(0, _), (1, _), (8, _), (9, _), (10, _)] ⟨rfl, rfl, rfl, rfl, rfl, trivial⟩ ?_
               refine WX.next ?_
               refine WC.seq ?_
               refine WC.seq ?_
               refine WC.region ?_
               refine WL.val rfl rfl rfl rfl (r_assign rfl ev_c) ?_
               refine WL.nil ?_
               refine WX.keep [(0, _), (1, _), (8, _), (9, _), (10, _), (11, _)] ⟨rfl, rfl, rfl, rfl, rfl, rfl, trivial⟩ ?_
               refine WX.next ?_
               refine WC.block ?_
               -- loop 2: live [0, 1, 8, 9, 10, 11]
               refine WC.keep [(0, _), (1, _), (8, _), (9, _), (10, _), (11, _)] ⟨rfl, rfl, rfl, rfl, rfl, rfl, trivial⟩ ?_
               refine WC.loop (fun qq E wD => ∃ (k : Nat), k ≤ 8 ∧ 8 * j + k ≤ s.length ∧ qq = 8 - k ∧ wC = wD ∧ E = [(0, .pointer (some ⟨p, 0, none⟩)), (1, .string ⟨s.toArray⟩), (8, .int .i64 (M.length : Int)), (9, .int .i64 ((8 * j : Nat) : Int)), (10, .int .u64 ((leW ((s.drop (8 * j)).take k) : Nat) : Int)), (11, .int .i64 (k : Int))]) (8) ?_ ?_
               · exact ⟨0, by omega, by omega, by omega, rfl, rfl⟩
               · rintro qq E wD ⟨k, hk8, hks, rfl, rfl, rfl⟩
                 refine WC.seq ?_
                 refine WC.seq ?_
                 refine WC.region ?_
                 refine WL.val rfl rfl rfl rfl (r_move rfl (ev_t rfl)) ?_
                 refine WL.val rfl rfl rfl rfl (r_lss rfl (ev_t rfl) ev_c) ?_
                 refine WL.val rfl rfl rfl rfl (r_move rfl (ev_t rfl)) ?_
                 refine WL.cases 46 rfl (fun hb12_2 => ?_) (fun hb12_2 => ?_)
                 · try (exfalso; first | (simp at hb12_2; done) | (simp only [decide_eq_true_eq, decide_eq_false_iff_not, Bool.not_eq_true', Bool.not_eq_false', Bool.not_eq_true, Bool.not_eq_false] at hb12_2; omega) | omega)
                   all_goals
                    try simp only [decide_eq_true_eq, decide_eq_false_iff_not, Bool.not_eq_true', Bool.not_eq_false', Bool.not_eq_true, Bool.not_eq_false, Option.isNone_none, Option.isNone_some, Option.isSome_none, Option.isSome_some, ne_eq, Decidable.not_not] at hb12_2
                    refine WL.val rfl rfl rfl rfl (r_move rfl (ev_t rfl)) ?_
                    refine WL.val rfl rfl rfl rfl (r_move rfl (ev_t rfl)) ?_
                    first | refine WL.val rfl rfl rfl rfl (r_addN rfl (ev_t rfl) (ev_t rfl) (by simp only [inK]; omega)) ?_ | refine WL.val rfl rfl rfl rfl (r_add rfl (ev_t rfl) (ev_t rfl)) ?_
                    refine WL.val rfl rfl rfl rfl (r_move rfl (ev_t rfl)) ?_
                    refine WL.val rfl rfl rfl rfl (r_lenStrL rfl (ev_t rfl) str_9) ?_
                    refine WL.val rfl rfl rfl rfl (r_lss rfl (ev_t rfl) (ev_t rfl)) ?_
                    refine WL.val rfl rfl rfl rfl (r_pickT rfl (ev_t rfl) (ev_t rfl)) ?_
                    refine WL.nil ?_
                    refine WX.keep [(0, _), (1, _), (8, _), (9, _), (10, _), (11, _), (53, _)] ⟨rfl, rfl, rfl, rfl, rfl, rfl, rfl, trivial⟩ ?_
                    refine WX.next ?_
                    refine WC.cond rfl (ev_t rfl) (fun hc12 => ?_) (fun hc12 => ?_)
                    · try (exfalso; first | (simp at hc12; done) | (simp only [decide_eq_true_eq, decide_eq_false_iff_not, Bool.not_eq_true', Bool.not_eq_false', Bool.not_eq_true, Bool.not_eq_false] at hc12; omega) | omega)
                      all_goals
                       try simp only [decide_eq_true_eq, decide_eq_false_iff_not, Bool.not_eq_true', Bool.not_eq_false', Bool.not_eq_true, Bool.not_eq_false, Option.isNone_none, Option.isNone_some, Option.isSome_none, Option.isSome_some, ne_eq, Decidable.not_not] at hc12
                       have hk9 : k < 8 ∧ 8 * j + k < s.length := by simp_all; omega
                       have hbi : s[8 * j + k]? = some s[8 * j + k] := List.getElem?_eq_getElem hk9.2
                       generalize s[8 * j + k] = b at *
                       have htk : (s.drop (8 * j)).take (k + 1) = (s.drop (8 * j)).take k ++ [b] := take_get (by rw [List.getElem?_drop]; exact hbi)
                       have hpb := put_byte (l := (s.drop (8 * j)).take k) (k := k) (b := b) (by simp; omega) hk9.1
                       rw [← htk] at hpb
                       refine WC.skip ?_
                       refine WX.next ?_
                       refine WC.seq ?_
                       refine WC.block ?_
                       refine WC.region ?_
                       refine WL.val rfl rfl rfl rfl (r_move rfl (ev_t rfl)) ?_
                       refine WL.val rfl rfl rfl rfl (r_move rfl (ev_t rfl)) ?_
                       refine WL.val rfl rfl rfl rfl (r_move rfl (ev_t rfl)) ?_
                       refine WL.val rfl rfl rfl rfl (r_move rfl (ev_t rfl)) ?_
                       first | refine WL.val rfl rfl rfl rfl (r_addN rfl (ev_t rfl) (ev_t rfl) (by simp only [inK]; omega)) ?_ | refine WL.val rfl rfl rfl rfl (r_add rfl (ev_t rfl) (ev_t rfl)) ?_
                       refine WL.val rfl rfl rfl rfl (r_indexStr (j := 8 * j + k) (c := b) rfl (ev_t rfl) (ev_t rfl) Tryd.underlying9 (by omega) (by simpa using hbi)) ?_
                       first | refine WL.val rfl rfl rfl rfl (r_convN rfl (ev_t rfl) some_5 int_32 (by simp only [inK]; omega)) ?_ | refine WL.val rfl rfl rfl rfl (r_conv rfl (ev_t rfl) some_5 int_32) ?_
                       refine WL.val rfl rfl rfl rfl (r_move rfl (ev_t rfl)) ?_
                       first | refine WL.val rfl rfl rfl rfl (r_mulN rfl ev_c (ev_t rfl) (by simp only [inK]; omega)) ?_ | refine WL.val rfl rfl rfl rfl (r_mul rfl ev_c (ev_t rfl)) ?_
                       refine WL.val rfl rfl rfl rfl (r_shl rfl (ev_t rfl) (ev_t rfl) (by omega) (by simp only [IntKind.bits]; omega)) ?_
                       refine WL.val rfl rfl rfl rfl (r_or rfl (ev_t rfl) (ev_t rfl)) ?_
                       refine WL.val rfl rfl rfl rfl (r_assign rfl (ev_t rfl)) ?_
                       refine WL.nil ?_
                       refine WX.keep [(0, _), (1, _), (8, _), (9, _), (10, _), (11, _)] ⟨rfl, rfl, rfl, rfl, rfl, rfl, trivial⟩ ?_
                       refine WX.blockNormal ?_
                       refine WX.next ?_
                       refine WC.region ?_
                       refine WL.val rfl rfl rfl rfl (r_move rfl (ev_t rfl)) ?_
                       first | refine WL.val rfl rfl rfl rfl (r_addN rfl (ev_t rfl) ev_c (by simp only [inK]; omega)) ?_ | refine WL.val rfl rfl rfl rfl (r_add rfl (ev_t rfl) ev_c) ?_
                       refine WL.val rfl rfl rfl rfl (r_assign rfl (ev_t rfl)) ?_
                       refine WL.nil ?_
                       refine WX.keep [(0, _), (1, _), (8, _), (9, _), (10, _), (11, _)] ⟨rfl, rfl, rfl, rfl, rfl, rfl, trivial⟩ ?_
                       refine WX.meet [(0, _), (1, _), (8, _), (9, _), (10, _), (11, _)] ⟨rfl, rfl, rfl, rfl, rfl, rfl, trivial⟩ ?_
                       refine ⟨8 - (k + 1), by omega, k + 1, by omega, by omega, rfl, rfl, ?_⟩
                       rw [← hpb]
                       have hb8 : IntKind.u64.wrap (b.toNat : Int) = (b.toNat : Int) := by rw [wrap_u64]; have := b.toNat_lt; omega
                       have hk8' : (8 * (k : Int)).toNat = 8 * k := by omega
                       rw [hb8, hk8']
                       simp
                    · try (exfalso; first | (simp at hc12; done) | (simp only [decide_eq_true_eq, decide_eq_false_iff_not, Bool.not_eq_true', Bool.not_eq_false', Bool.not_eq_true, Bool.not_eq_false] at hc12; omega) | omega)
                      all_goals
                       try simp only [decide_eq_true_eq, decide_eq_false_iff_not, Bool.not_eq_true', Bool.not_eq_false', Bool.not_eq_true, Bool.not_eq_false, Option.isNone_none, Option.isNone_some, Option.isSome_none, Option.isSome_some, ne_eq, Decidable.not_not] at hc12
                       refine WC.exit ?_
                       refine WX.thenExit ?_
                       refine WX.thenExit ?_
                       refine WX.blockHere ?_
                       refine WX.next ?_
                       have hfull : (s.drop (8 * j)).take k = (s.drop (8 * j)).take 8 := by
                         rcases Nat.lt_or_ge k 8 with h | h
                         · have : 8 * j + k = s.length := by simp_all; omega
                           rw [List.take_of_length_le (by simp; omega), List.take_of_length_le (by simp; omega)]
                         · rw [show k = 8 by omega]
                       rw [hfull]
                       obtain ⟨hhd, how, hne, hlt, hle2, hcn⟩ := hH
                       have hlp2 := hhd.lt
                       refine WC.region ?_
                       refine WL.val rfl rfl rfl rfl (r_move rfl (ev_t rfl)) ?_
                       refine WL.val rfl rfl rfl rfl (r_move rfl (ev_t rfl)) ?_
                       refine WL.val rfl rfl rfl rfl (r_nilCheck rfl (ev_t rfl)) ?_
                       first | refine WL.val rfl rfl rfl rfl (r_field0 rfl (ev_t rfl) fld_79_0) ?_ | refine WL.val rfl rfl rfl rfl (r_fieldAt rfl (ev_t rfl) fld_79_0) ?_
                       refine WL.val rfl rfl rfl rfl (r_load rfl (ev_t rfl) flat_30 (Blk.cell hhd rfl)) ?_
                       refine WL.val rfl rfl rfl rfl (r_move rfl (ev_t rfl)) ?_
                       refine WL.cons (SO.alloc rfl rfl rfl rfl (r_buildSlice1 (vs := [_]) rfl ⟨(ev_t rfl), trivial⟩ rfl row_30 rfl rfl) ?_)
                       intro w15 hu15 hB15 hz15
                       have hs15 := hu15.size
                       replace hU := hU.trans hu15 (by first | exact (fun _ _ h => h) | exact (fun _ _ h => h.elim) | (intro k hl hk; (try simp only [At, New, Grow, From, No] at hk ⊢); omega) | (intro k hl hk; first | exact (show False from hk).elim | (simp only [At] at hk; exact .inl hk) | (have h9 := hG1 k hk; rcases h9 with h | h; exact .inr h; (exfalso; omega)) | (have h9 := hG2 k hk; rcases h9 with h | h; exact .inr h; (exfalso; omega))))
                       replace hhd := hhd.upd hu15 (fun hS => by first | exact (show False from hS) | (simp only [At] at hS; omega) | exact hne hS)
                       replace how := how.upd hu15 (fun k hk hl hS => by first | exact (show False from hS).elim | (simp only [At] at hS; subst hS; first | exact hne hk | (rcases hk with hk | hk; exact hne hk; omega) | (have := hlt _ hk; omega)))
                       refine WL.cons (SO.append how (show Rd _ _ _ 1 1 [Wd (leW ((s.drop (8 * j)).take 8))] from Rd.of_blk (F := At _) (n := 1) (sz := 1) hB15 rfl rfl (by omega)) row_30 (fun u hu => by simp at hu; subst hu; rfl) (le_maxLen (by omega)) (by omega) rfl (ev_t rfl) (ev_t rfl) rfl rfl rfl rfl ?_)
                       intro v16 w16 how hu16
                       have hs16 := hu16.size
                       replace hU := hU.trans hu16 (by first | exact (fun _ _ h => h) | exact (fun _ _ h => h.elim) | (intro k hl hk; (try simp only [At, New, Grow, From, No] at hk ⊢); omega) | (intro k hl hk; first | exact (show False from hk).elim | (simp only [At] at hk; exact .inl hk) | (have h9 := hG1 k hk; rcases h9 with h | h; exact .inr h; (exfalso; omega)) | (have h9 := hG2 k hk; rcases h9 with h | h; exact .inr h; (exfalso; omega))))
                       replace hhd := hhd.upd hu16 (fun hS => by first | exact (show False from hS) | (simp only [At] at hS; omega) | exact hne hS)
                       obtain ⟨A16, c16, rfl, hc16⟩ := Own.form how
                       refine WL.val rfl rfl rfl rfl (r_nilCheck rfl (ev_t rfl)) ?_
                       first | refine WL.val rfl rfl rfl rfl (r_field0 rfl (ev_t rfl) fld_79_0) ?_ | refine WL.val rfl rfl rfl rfl (r_fieldAt rfl (ev_t rfl) fld_79_0) ?_
                       refine WL.cons (SO.store rfl (ev_t rfl) (ev_t rfl) size_30 hhd rfl rfl rfl rfl rfl ?_)
                       intro w17 hu17 hhd hz17
                       have hs17 := hu17.size
                       replace hU := hU.trans hu17 (by first | exact (fun _ _ h => h) | exact (fun _ _ h => h.elim) | (intro k hl hk; (try simp only [At, New, Grow, From, No] at hk ⊢); omega) | (intro k hl hk; first | exact (show False from hk).elim | (simp only [At] at hk; exact .inl hk) | (have h9 := hG1 k hk; rcases h9 with h | h; exact .inr h; (exfalso; omega)) | (have h9 := hG2 k hk; rcases h9 with h | h; exact .inr h; (exfalso; omega))))
                       replace how := how.upd hu17 (fun k hk hl hS => by first | exact (show False from hS).elim | (simp only [At] at hS; subst hS; first | exact hne hk | (rcases hk with hk | hk; exact hne hk; omega) | (have := hlt _ hk; omega)))
                       refine WL.nil ?_
                       refine WX.keep [(0, _), (1, _), (8, _), (9, _)] ⟨rfl, rfl, rfl, rfl, trivial⟩ ?_
                       refine WX.blockNormal ?_
                       refine WX.next ?_
                       refine WC.region ?_
                       refine WL.val rfl rfl rfl rfl (r_move rfl (ev_t rfl)) ?_
                       first | refine WL.val rfl rfl rfl rfl (r_addN rfl (ev_t rfl) ev_c (by simp only [inK]; omega)) ?_ | refine WL.val rfl rfl rfl rfl (r_add rfl (ev_t rfl) ev_c) ?_
                       refine WL.val rfl rfl rfl rfl (r_assign rfl (ev_t rfl)) ?_
                       refine WL.nil ?_
                       refine WX.keep [(0, _), (1, _), (8, _), (9, _)] ⟨rfl, rfl, rfl, rfl, trivial⟩ ?_
                       refine WX.meet [(0, _), (1, _), (8, _), (9, _)] ⟨rfl, rfl, rfl, rfl, trivial⟩ ?_
                       have hjl : j < (s.length + 7) / 8 := by omega
                       have e5 : (M ++ [s.length * 256 + 3] ++ (encT s).take j) ++ [leW ((s.drop (8 * j)).take 8)] = M ++ [s.length * 256 + 3] ++ (encT s).take (j + 1) := by rw [take_get (encT_get hjl)]; simp
                       have eL : (M ++ [s.length * 256 + 3] ++ (encT s).take j).length + 1 = (M ++ [s.length * 256 + 3] ++ (encT s).take (j + 1)).length := by rw [← e5]; simp; omega
                       have eM : (M ++ [s.length * 256 + 3] ++ (encT s).take j).map Wd ++ [Wd (leW ((s.drop (8 * j)).take 8))] = (M ++ [s.length * 256 + 3] ++ (encT s).take (j + 1)).map Wd := by rw [← e5]; simp
                       rw [eM] at how
                       rw [eL] at how hhd
                       have eN : (M ++ [s.length * 256 + 3] ++ (encT s).take (j + 1)).length = M.length + 1 + (j + 1) := by simp [encT_len]; omega
                       refine ⟨(s.length + 7) / 8 - (j + 1), by omega, j + 1, _, _, _, by omega, rfl, hU, ⟨hhd, how, fun h => ?_, fun k hk => ?_, ⟨by rw [eN]; omega, hle2.2⟩, hcn⟩, fun k hk => ?_, by simp; omega⟩
                       · rcases h with h | h
                         · exact hne h
                         · omega
                       · rcases hk with hk | hk
                         · have := hlt k hk; omega
                         · omega
                       · rcases hk with hk | hk
                         · exact hG2 k hk
                         · exact .inr (by omega)
                 · try (exfalso; first | (simp at hb12_2; done) | (simp only [decide_eq_true_eq, decide_eq_false_iff_not, Bool.not_eq_true', Bool.not_eq_false', Bool.not_eq_true, Bool.not_eq_false] at hb12_2; omega) | omega)
                   all_goals
                    try simp only [decide_eq_true_eq, decide_eq_false_iff_not, Bool.not_eq_true', Bool.not_eq_false', Bool.not_eq_true, Bool.not_eq_false, Option.isNone_none, Option.isNone_some, Option.isSome_none, Option.isSome_some, ne_eq, Decidable.not_not] at hb12_2
                    refine WL.skip rfl rfl rfl ?_
                    refine WL.skip rfl rfl rfl ?_
                    refine WL.skip rfl rfl rfl ?_
                    refine WL.skip rfl rfl rfl ?_
                    refine WL.skip rfl rfl rfl ?_
                    refine WL.skip rfl rfl rfl ?_
                    refine WL.val rfl rfl rfl rfl (r_pickF rfl (ev_t rfl) ev_c) ?_
                    refine WL.nil ?_
                    refine WX.keep [(0, _), (1, _), (8, _), (9, _), (10, _), (11, _), (53, _)] ⟨rfl, rfl, rfl, rfl, rfl, rfl, rfl, trivial⟩ ?_
                    refine WX.next ?_
                    refine WC.cond_false rfl (ev_t rfl) ?_
                    refine WC.exit ?_
                    refine WX.thenExit ?_
                    refine WX.thenExit ?_
                    refine WX.blockHere ?_
                    refine WX.next ?_
                    have hfull : (s.drop (8 * j)).take k = (s.drop (8 * j)).take 8 := by
                      rcases Nat.lt_or_ge k 8 with h | h
                      · have : 8 * j + k = s.length := by simp_all; omega
                        rw [List.take_of_length_le (by simp; omega), List.take_of_length_le (by simp; omega)]
                      · rw [show k = 8 by omega]
                    rw [hfull]
                    obtain ⟨hhd, how, hne, hlt, hle2, hcn⟩ := hH
                    have hlp2 := hhd.lt
                    refine WC.region ?_
                    refine WL.val rfl rfl rfl rfl (r_move rfl (ev_t rfl)) ?_
                    refine WL.val rfl rfl rfl rfl (r_move rfl (ev_t rfl)) ?_
                    refine WL.val rfl rfl rfl rfl (r_nilCheck rfl (ev_t rfl)) ?_
                    first | refine WL.val rfl rfl rfl rfl (r_field0 rfl (ev_t rfl) fld_79_0) ?_ | refine WL.val rfl rfl rfl rfl (r_fieldAt rfl (ev_t rfl) fld_79_0) ?_
                    refine WL.val rfl rfl rfl rfl (r_load rfl (ev_t rfl) flat_30 (Blk.cell hhd rfl)) ?_
                    refine WL.val rfl rfl rfl rfl (r_move rfl (ev_t rfl)) ?_
                    refine WL.cons (SO.alloc rfl rfl rfl rfl (r_buildSlice1 (vs := [_]) rfl ⟨(ev_t rfl), trivial⟩ rfl row_30 rfl rfl) ?_)
                    intro w18 hu18 hB18 hz18
                    have hs18 := hu18.size
                    replace hU := hU.trans hu18 (by first | exact (fun _ _ h => h) | exact (fun _ _ h => h.elim) | (intro k hl hk; (try simp only [At, New, Grow, From, No] at hk ⊢); omega) | (intro k hl hk; first | exact (show False from hk).elim | (simp only [At] at hk; exact .inl hk) | (have h9 := hG1 k hk; rcases h9 with h | h; exact .inr h; (exfalso; omega)) | (have h9 := hG2 k hk; rcases h9 with h | h; exact .inr h; (exfalso; omega))))
                    replace hhd := hhd.upd hu18 (fun hS => by first | exact (show False from hS) | (simp only [At] at hS; omega) | exact hne hS)
                    replace how := how.upd hu18 (fun k hk hl hS => by first | exact (show False from hS).elim | (simp only [At] at hS; subst hS; first | exact hne hk | (rcases hk with hk | hk; exact hne hk; omega) | (have := hlt _ hk; omega)))
                    refine WL.cons (SO.append how (show Rd _ _ _ 1 1 [Wd (leW ((s.drop (8 * j)).take 8))] from Rd.of_blk (F := At _) (n := 1) (sz := 1) hB18 rfl rfl (by omega)) row_30 (fun u hu => by simp at hu; subst hu; rfl) (le_maxLen (by omega)) (by omega) rfl (ev_t rfl) (ev_t rfl) rfl rfl rfl rfl ?_)
                    intro v19 w19 how hu19
                    have hs19 := hu19.size
                    replace hU := hU.trans hu19 (by first | exact (fun _ _ h => h) | exact (fun _ _ h => h.elim) | (intro k hl hk; (try simp only [At, New, Grow, From, No] at hk ⊢); omega) | (intro k hl hk; first | exact (show False from hk).elim | (simp only [At] at hk; exact .inl hk) | (have h9 := hG1 k hk; rcases h9 with h | h; exact .inr h; (exfalso; omega)) | (have h9 := hG2 k hk; rcases h9 with h | h; exact .inr h; (exfalso; omega))))
                    replace hhd := hhd.upd hu19 (fun hS => by first | exact (show False from hS) | (simp only [At] at hS; omega) | exact hne hS)
                    obtain ⟨A19, c19, rfl, hc19⟩ := Own.form how
                    refine WL.val rfl rfl rfl rfl (r_nilCheck rfl (ev_t rfl)) ?_
                    first | refine WL.val rfl rfl rfl rfl (r_field0 rfl (ev_t rfl) fld_79_0) ?_ | refine WL.val rfl rfl rfl rfl (r_fieldAt rfl (ev_t rfl) fld_79_0) ?_
                    refine WL.cons (SO.store rfl (ev_t rfl) (ev_t rfl) size_30 hhd rfl rfl rfl rfl rfl ?_)
                    intro w20 hu20 hhd hz20
                    have hs20 := hu20.size
                    replace hU := hU.trans hu20 (by first | exact (fun _ _ h => h) | exact (fun _ _ h => h.elim) | (intro k hl hk; (try simp only [At, New, Grow, From, No] at hk ⊢); omega) | (intro k hl hk; first | exact (show False from hk).elim | (simp only [At] at hk; exact .inl hk) | (have h9 := hG1 k hk; rcases h9 with h | h; exact .inr h; (exfalso; omega)) | (have h9 := hG2 k hk; rcases h9 with h | h; exact .inr h; (exfalso; omega))))
                    replace how := how.upd hu20 (fun k hk hl hS => by first | exact (show False from hS).elim | (simp only [At] at hS; subst hS; first | exact hne hk | (rcases hk with hk | hk; exact hne hk; omega) | (have := hlt _ hk; omega)))
                    refine WL.nil ?_
                    refine WX.keep [(0, _), (1, _), (8, _), (9, _)] ⟨rfl, rfl, rfl, rfl, trivial⟩ ?_
                    refine WX.blockNormal ?_
                    refine WX.next ?_
                    refine WC.region ?_
                    refine WL.val rfl rfl rfl rfl (r_move rfl (ev_t rfl)) ?_
                    first | refine WL.val rfl rfl rfl rfl (r_addN rfl (ev_t rfl) ev_c (by simp only [inK]; omega)) ?_ | refine WL.val rfl rfl rfl rfl (r_add rfl (ev_t rfl) ev_c) ?_
                    refine WL.val rfl rfl rfl rfl (r_assign rfl (ev_t rfl)) ?_
                    refine WL.nil ?_
                    refine WX.keep [(0, _), (1, _), (8, _), (9, _)] ⟨rfl, rfl, rfl, rfl, trivial⟩ ?_
                    refine WX.meet [(0, _), (1, _), (8, _), (9, _)] ⟨rfl, rfl, rfl, rfl, trivial⟩ ?_
                    have hjl : j < (s.length + 7) / 8 := by omega
                    have e5 : (M ++ [s.length * 256 + 3] ++ (encT s).take j) ++ [leW ((s.drop (8 * j)).take 8)] = M ++ [s.length * 256 + 3] ++ (encT s).take (j + 1) := by rw [take_get (encT_get hjl)]; simp
                    have eL : (M ++ [s.length * 256 + 3] ++ (encT s).take j).length + 1 = (M ++ [s.length * 256 + 3] ++ (encT s).take (j + 1)).length := by rw [← e5]; simp; omega
                    have eM : (M ++ [s.length * 256 + 3] ++ (encT s).take j).map Wd ++ [Wd (leW ((s.drop (8 * j)).take 8))] = (M ++ [s.length * 256 + 3] ++ (encT s).take (j + 1)).map Wd := by rw [← e5]; simp
                    rw [eM] at how
                    rw [eL] at how hhd
                    have eN : (M ++ [s.length * 256 + 3] ++ (encT s).take (j + 1)).length = M.length + 1 + (j + 1) := by simp [encT_len]; omega
                    refine ⟨(s.length + 7) / 8 - (j + 1), by omega, j + 1, _, _, _, by omega, rfl, hU, ⟨hhd, how, fun h => ?_, fun k hk => ?_, ⟨by rw [eN]; omega, hle2.2⟩, hcn⟩, fun k hk => ?_, by simp; omega⟩
                    · rcases h with h | h
                      · exact hne h
                      · omega
                    · rcases hk with hk | hk
                      · have := hlt k hk; omega
                      · omega
                    · rcases hk with hk | hk
                      · exact hG2 k hk
                      · exact .inr (by omega)
            · try (exfalso; first | (simp at hc8; done) | (simp only [decide_eq_true_eq, decide_eq_false_iff_not, Bool.not_eq_true', Bool.not_eq_false', Bool.not_eq_true, Bool.not_eq_false] at hc8; omega) | omega)
              all_goals
               try simp only [decide_eq_true_eq, decide_eq_false_iff_not, Bool.not_eq_true', Bool.not_eq_false', Bool.not_eq_true, Bool.not_eq_false, Option.isNone_none, Option.isNone_some, Option.isSome_none, Option.isSome_some, ne_eq, Decidable.not_not] at hc8
               refine WC.exit ?_
               refine WX.thenExit ?_
               refine WX.thenExit ?_
               refine WX.blockHere ?_
               refine WX.next ?_
               refine WC.seq ?_
               refine WC.region ?_
               refine WL.val rfl rfl rfl rfl (r_move rfl (ev_t rfl)) ?_
               first | refine WL.val rfl rfl rfl rfl (r_convN rfl (ev_t rfl) some_3 int_32 (by simp only [inK]; omega)) ?_ | refine WL.val rfl rfl rfl rfl (r_conv rfl (ev_t rfl) some_3 int_32) ?_
               refine WL.val rfl rfl rfl rfl (r_shl rfl (ev_t rfl) ev_c (by omega) (by simp only [IntKind.bits]; omega)) ?_
               refine WL.val rfl rfl rfl rfl (r_assign rfl (ev_t rfl)) ?_
               refine WL.val rfl rfl rfl rfl (r_assign rfl ev_c) ?_
               refine WL.nil ?_
               refine WX.keep [(6, _), (7, _)] ⟨rfl, rfl, trivial⟩ ?_
               refine WX.next ?_
               refine WC.ret ?_
               refine WX.retE2 rfl rfl rfl ?_
               obtain rfl : j = (s.length + 7) / 8 := by omega
               have et : (encT s).take ((s.length + 7) / 8) = encT s := List.take_of_length_le (by rw [encT_len]; omega)
               rw [et] at hH
               refine ⟨G2, _, _, _, hH, hG2, hU, fun _ => ⟨?_, rfl⟩, fun h => absurd hfit h⟩
               rw [wrap_u64]
               have e2 : (2 : Int) ^ Int.toNat 1 = 2 := by decide
               rw [e2, show ((M.length : Int) * 2 % 18446744073709551616) = ((2 * M.length : Nat) : Int) by omega]
end Go.Proofs.YtdpnnclkkbfihaaDoor
