/-
  law 15: the example; what is handed in and told; what is too much.
-/
import Derived.Test.YtejlmcdmoghmaaaSw
namespace Go.Proofs.Ytejlmcdmoghmaaa
open Go
set_option linter.unusedSimpArgs false
set_option linter.unusedVariables false

theorem save_calm {M : Int} {D : DS} {T : SS} {x : Sn} (h : Quiet M D T) (h0 : D.armed = 0) (hx : x.ok) (hi : T.s.idx < x.idx) (hM : ((layB x).length : Int) ≤ M) :
    ∃ D' T', SS.save D 1 T x = (D', T', 0) ∧ T'.s = x ∧ Quiet M D' T' ∧ D'.armed = 0 := by
  obtain ⟨_, h1, h2⟩ := save_quiet h hx hi hM
  obtain ⟨h3, h4⟩ := h1 h0
  rcases h2 with ⟨_, h5, h6⟩ | ⟨h5, _⟩
  · exact ⟨_, _, by rw [show SS.save D 1 T x = ((SS.save D 1 T x).1, (SS.save D 1 T x).2.1, (SS.save D 1 T x).2.2) from rfl, h4], h5, h6, h3⟩
  · omega
theorem save_stale {D : DS} {T : SS} {x : Sn} (h : x.idx ≤ T.s.idx) : SS.save D 1 T x = (D, T, 16) := if_pos h
def snA (i t : Nat) : Sn := ⟨i, t, [97]⟩
theorem snA_ok {i t : Nat} (h : i ≤ 100) (h' : t ≤ 100) : (snA i t).ok ∧ (layB (snA i t)).length ≤ 40 := by
  have h1 : (snA i t).ok := ⟨by simp only [snA]; omega, by simp only [snA]; omega, by simp [snA]⟩
  have h2 := layB_len h1
  simp only [snA, List.length_cons, List.length_nil] at h2
  exact ⟨h1, by simp only [snA]; omega⟩

set_option maxHeartbeats 1000000 in
theorem awake15_ok (w : World) : Ret Try.prog 26 #[] w fun v w' => v = .bool true ∧ Upd No w w' := by
  obtain ⟨hx, hxl⟩ := snA_ok (i := 3) (t := 0) (by omega) (by omega)
  refine enterRet (vs := []) (N := 39) Try.func26 rfl rfl rfl ?_
  have hU := Upd.refl No w
  refine WC.keep [] trivial ?_
  refine WC.seq ?_
  refine WC.region ?_
  refine WL.val rfl rfl rfl rfl (r_assign rfl ev_c) ?_
  refine WL.nil ?_
  refine WX.keep [] trivial ?_
  refine WX.next ?_
  refine WC.seq ?_
  refine WC.region ?_
  refine WL.cons (SO.call (open15_ok (most := 2000) (by omega)) rfl body_27 ⟨ev_c, trivial⟩ rfl rfl rfl rfl ?_)
  rintro v w1 ⟨p, t, rfl, hs, hu1⟩
  have hs1 := hu1.size
  replace hU := hU.transA hu1
  refine WL.val rfl rfl rfl rfl (r_move rfl (ev_t rfl)) ?_
  refine WL.val rfl rfl rfl rfl (r_extract rfl (ev_t rfl) rfl) ?_
  refine WL.val rfl rfl rfl rfl (r_extract rfl (ev_t rfl) rfl) ?_
  refine WL.val rfl rfl rfl rfl (r_assign rfl (ev_t rfl)) ?_
  refine WL.val rfl rfl rfl rfl (r_assign rfl (ev_t rfl)) ?_
  refine WL.nil ?_
  refine WX.keep [(2, _)] ⟨rfl, trivial⟩ ?_
  refine WX.next ?_
  refine WC.seq ?_
  refine WC.region ?_
  refine WL.val rfl rfl rfl rfl (r_move rfl (ev_t rfl)) ?_
  refine WL.val rfl rfl rfl rfl (r_neqPtrNil rfl (ev_t rfl) ev_c ptr_44) ?_
  refine WL.val rfl rfl rfl rfl (r_move rfl (ev_t rfl)) ?_
  refine WL.cases 9 rfl (fun hb2_2 => ?_) (fun hb2_2 => ?_)
  · try (exfalso; first | (simp at hb2_2; done) | (simp only [decide_eq_true_eq, decide_eq_false_iff_not, Bool.not_eq_true', Bool.not_eq_false', Bool.not_eq_true, Bool.not_eq_false] at hb2_2; omega) | omega)
    all_goals
     try simp only [decide_eq_true_eq, decide_eq_false_iff_not, Bool.not_eq_true', Bool.not_eq_false', Bool.not_eq_true, Bool.not_eq_false, Option.isNone_none, Option.isNone_some, Option.isSome_none, Option.isSome_some, ne_eq, Decidable.not_not] at hb2_2
     refine WL.val rfl rfl rfl rfl (r_move rfl (ev_t rfl)) ?_
     refine WL.cons (SO.call (snapSt hs) rfl body_30 ⟨(ev_t rfl), trivial⟩ rfl rfl rfl rfl ?_)
     rintro v w2 ⟨As, cs, rfl, hsn, hu2⟩
     have hs2 := hu2.size
     replace hU := hU.transA hu2
     replace hs := hs.upd hu2 (by first | exact (fun _ _ _ h => h) | (intro k hk hl hS; simp only [At, New, Grow, From, No] at *; omega))
     refine WL.val rfl rfl rfl rfl (r_fieldV (n := 0) rfl (ev_t rfl) (by kernel_rfl) rfl) ?_
     refine WL.val rfl rfl rfl rfl (r_eql rfl (ev_t rfl) ev_c) ?_
     refine WL.val rfl rfl rfl rfl (r_pickT rfl (ev_t rfl) (ev_t rfl)) ?_
     refine WL.val rfl rfl rfl rfl (r_move rfl (ev_t rfl)) ?_
     refine WL.cases 15 rfl (fun hb2_8 => ?_) (fun hb2_8 => ?_)
     · try (exfalso; first | (simp at hb2_8; done) | (simp only [decide_eq_true_eq, decide_eq_false_iff_not, Bool.not_eq_true', Bool.not_eq_false', Bool.not_eq_true, Bool.not_eq_false] at hb2_8; omega) | omega)
       all_goals
        try simp only [decide_eq_true_eq, decide_eq_false_iff_not, Bool.not_eq_true', Bool.not_eq_false', Bool.not_eq_true, Bool.not_eq_false, Option.isNone_none, Option.isNone_some, Option.isSome_none, Option.isSome_some, ne_eq, Decidable.not_not] at hb2_8
        refine WL.val rfl rfl rfl rfl (r_move rfl (ev_t rfl)) ?_
        refine WL.cons (SO.alloc rfl rfl rfl rfl (r_buildSlice1 (vs := [_]) rfl ⟨ev_c, trivial⟩ rfl row_22 rfl rfl) ?_)
        intro w3 hu3 hB3 hz3
        have hs3 := hu3.size
        replace hU := hU.transA hu3
        replace hs := hs.upd hu3 (by first | exact (fun _ _ _ h => h) | (intro k hk hl hS; simp only [At, New, Grow, From, No] at *; omega))
        refine WL.cons (SO.convSS rfl (ev_t rfl) elem_22 int_5 hB3 rfl rfl rfl rfl ?_)
        intro w4 z4 hu4 hF4 hz4
        have hs4 := hu4.size
        replace hU := hU.transA hu4
        replace hs := hs.upd hu4 (by first | exact (fun _ _ _ h => h) | (intro k hk hl hS; simp only [At, New, Grow, From, No] at *; omega))
        refine WL.val rfl rfl rfl rfl (r_build (cs := #[_, _, _]) (vs := [(0, _), (2, _)]) rfl ⟨⟨rfl, ev_c⟩, ⟨rfl, (ev_t rfl)⟩, trivial⟩ plc_50 zero_50 rfl) ?_
        refine WL.cons (SO.call (saveSt (x := snA 3 0) (n := 1) hs (Rd.of_heap (F := At w2.heap.size) (n := 1) (sz := 1) (cs := #[.int .u8 97]) hF4 rfl rfl (by omega)) (fun k hk hl hR => by simp only [At, New] at hk hR; omega) hx rfl rfl (by decide) (by decide)) rfl body_28 ⟨(ev_t rfl), (ev_t rfl), trivial⟩ rfl rfl rfl rfl ?_)
        rintro v w5 ⟨rfl, hs, hu5⟩
        obtain ⟨D1, T1, e1, hT1, hq, ha⟩ := save_calm (x := snA 3 0) (Quiet.new (M := 2000)) rfl hx (by decide) (by omega)
        rw [e1] at hs ⊢
        have hs5 := hu5.size
        replace hU := hU.transA hu5
        refine WL.val rfl rfl rfl rfl (r_eql rfl (ev_t rfl) ev_c) ?_
        refine WL.val rfl rfl rfl rfl (r_pickT rfl (ev_t rfl) (ev_t rfl)) ?_
        refine WL.val rfl rfl rfl rfl (r_move rfl (ev_t rfl)) ?_
        refine WL.cases 23 rfl (fun hb2_16 => ?_) (fun hb2_16 => ?_)
        · try (exfalso; first | (simp at hb2_16; done) | (simp only [decide_eq_true_eq, decide_eq_false_iff_not, Bool.not_eq_true', Bool.not_eq_false', Bool.not_eq_true, Bool.not_eq_false] at hb2_16; omega) | omega)
          all_goals
           try simp only [decide_eq_true_eq, decide_eq_false_iff_not, Bool.not_eq_true', Bool.not_eq_false', Bool.not_eq_true, Bool.not_eq_false, Option.isNone_none, Option.isNone_some, Option.isSome_none, Option.isSome_some, ne_eq, Decidable.not_not] at hb2_16
           refine WL.val rfl rfl rfl rfl (r_move rfl (ev_t rfl)) ?_
           refine WL.val rfl rfl rfl rfl (r_build (cs := #[_, _, _]) (vs := [(0, _)]) rfl ⟨⟨rfl, ev_c⟩, trivial⟩ plc_50 zero_50 rfl) ?_
           refine WL.cons (SO.call (saveSt (x := ⟨3, 0, []⟩) (H := No) (n := 0) hs (Rd.nil _ _ _) (fun k hk => hk.elim) ⟨by decide, by decide, by simp⟩ hq.len hq.off hq.side hq.armed) rfl body_28 ⟨(ev_t rfl), (ev_t rfl), trivial⟩ rfl rfl rfl rfl ?_)
           rintro v w6 ⟨rfl, hs, hu6⟩
           rw [save_stale (by rw [hT1]; exact Nat.le_refl _)] at hs ⊢
           have hs6 := hu6.size
           replace hU := hU.transA hu6
           refine WL.val rfl rfl rfl rfl (r_eql rfl (ev_t rfl) ev_c) ?_
           refine WL.val rfl rfl rfl rfl (r_pickT rfl (ev_t rfl) (ev_t rfl)) ?_
           refine WL.val rfl rfl rfl rfl (r_move rfl (ev_t rfl)) ?_
           refine WL.cases 29 rfl (fun hb2_22 => ?_) (fun hb2_22 => ?_)
           · try (exfalso; first | (simp at hb2_22; done) | (simp only [decide_eq_true_eq, decide_eq_false_iff_not, Bool.not_eq_true', Bool.not_eq_false', Bool.not_eq_true, Bool.not_eq_false] at hb2_22; omega) | omega)
             all_goals
              try simp only [decide_eq_true_eq, decide_eq_false_iff_not, Bool.not_eq_true', Bool.not_eq_false', Bool.not_eq_true, Bool.not_eq_false, Option.isNone_none, Option.isNone_some, Option.isSome_none, Option.isSome_some, ne_eq, Decidable.not_not] at hb2_22
              refine WL.val rfl rfl rfl rfl (r_move rfl (ev_t rfl)) ?_
              refine WL.cons (SO.call (snapSt hs) rfl body_30 ⟨(ev_t rfl), trivial⟩ rfl rfl rfl rfl ?_)
              rintro v w7 ⟨As2, cs2, rfl, hsn2, hu7⟩
              rw [hT1] at hsn2 ⊢
              have hs7 := hu7.size
              replace hU := hU.transA hu7
              replace hs := hs.upd hu7 (by first | exact (fun _ _ _ h => h) | (intro k hk hl hS; simp only [At, New, Grow, From, No] at *; omega))
              refine WL.cons (SO.alloc rfl rfl rfl rfl (r_buildSlice1 (vs := [_]) rfl ⟨ev_c, trivial⟩ rfl row_22 rfl rfl) ?_)
              intro w8 hu8 hB8 hz8
              have hs8 := hu8.size
              replace hU := hU.transA hu8
              replace hs := hs.upd hu8 (by first | exact (fun _ _ _ h => h) | (intro k hk hl hS; simp only [At, New, Grow, From, No] at *; omega))
              replace hsn2 := hsn2.upd hu8 (by first | exact (fun _ _ _ h => h) | (intro k hk hl hS; simp only [At, New, Grow, From, No] at *; omega))
              refine WL.cons (SO.convSS rfl (ev_t rfl) elem_22 int_5 hB8 rfl rfl rfl rfl ?_)
              intro w9 z9 hu9 hF9 hz9
              have hs9 := hu9.size
              replace hU := hU.transA hu9
              replace hs := hs.upd hu9 (by first | exact (fun _ _ _ h => h) | (intro k hk hl hS; simp only [At, New, Grow, From, No] at *; omega))
              replace hsn2 := hsn2.upd hu9 (by first | exact (fun _ _ _ h => h) | (intro k hk hl hS; simp only [At, New, Grow, From, No] at *; omega))
              refine WL.val rfl rfl rfl rfl (r_build (cs := #[_, _, _]) (vs := [(0, _), (2, _)]) rfl ⟨⟨rfl, ev_c⟩, ⟨rfl, (ev_t rfl)⟩, trivial⟩ plc_50 zero_50 rfl) ?_
              refine WL.cons (SO.call (same_ok (a := snA 3 0) (b := snA 3 0) (n := 1) (m := 1) (hsn2.rd (by decide)) (Rd.of_heap (F := At _) (n := 1) (sz := 1) (cs := #[.int .u8 97]) hF9 rfl rfl (by omega))) rfl body_29 ⟨(ev_t rfl), (ev_t rfl), trivial⟩ rfl rfl rfl rfl ?_)
              rintro v w10 ⟨rfl, hu10⟩
              have hs10 := hu10.size
              replace hU := hU.transA hu10
              replace hs := hs.upd hu10 (by first | exact (fun _ _ _ h => h) | (intro k hk hl hS; simp only [At, New, Grow, From, No] at *; omega))
              replace hsn2 := hsn2.upd hu10 (by first | exact (fun _ _ _ h => h) | (intro k hk hl hS; simp only [At, New, Grow, From, No] at *; omega))
              refine WL.val rfl rfl rfl rfl (r_pickT rfl (ev_t rfl) (ev_t rfl)) ?_
              refine WL.val rfl rfl rfl rfl (r_move rfl (ev_t rfl)) ?_
              first | refine WL.val rfl rfl rfl rfl (r_pickT rfl (ev_t rfl) ev_c) ?_ | refine WL.val rfl rfl rfl rfl (r_pickF rfl (ev_t rfl) ev_c) ?_
              refine WL.val rfl rfl rfl rfl (r_assign rfl (ev_t rfl)) ?_
              refine WL.nil ?_
              refine WX.keep [(0, _)] ⟨rfl, trivial⟩ ?_
              refine WX.next ?_
              refine WC.ret ?_
              refine WX.retE1 rfl rfl ?_
              exact ⟨by simp, hU⟩
           · try (exfalso; first | (simp at hb2_22; done) | (simp only [decide_eq_true_eq, decide_eq_false_iff_not, Bool.not_eq_true', Bool.not_eq_false', Bool.not_eq_true, Bool.not_eq_false] at hb2_22; omega) | omega)
             all_goals
              try simp only [decide_eq_true_eq, decide_eq_false_iff_not, Bool.not_eq_true', Bool.not_eq_false', Bool.not_eq_true, Bool.not_eq_false, Option.isNone_none, Option.isNone_some, Option.isSome_none, Option.isSome_some, ne_eq, Decidable.not_not] at hb2_22
              refine WL.skip rfl rfl rfl ?_
              refine WL.skip rfl rfl rfl ?_
              refine WL.skip rfl rfl rfl ?_
              refine WL.skip rfl rfl rfl ?_
              refine WL.skip rfl rfl rfl ?_
              refine WL.skip rfl rfl rfl ?_
              refine WL.val rfl rfl rfl rfl (r_pickF rfl (ev_t rfl) ev_c) ?_
              refine WL.val rfl rfl rfl rfl (r_move rfl (ev_t rfl)) ?_
              refine WL.val rfl rfl rfl rfl (r_pickF rfl (ev_t rfl) ev_c) ?_
              refine WL.val rfl rfl rfl rfl (r_assign rfl (ev_t rfl)) ?_
              refine WL.nil ?_
              refine WX.keep [(0, _)] ⟨rfl, trivial⟩ ?_
              refine WX.next ?_
              refine WC.ret ?_
              refine WX.retE1 rfl rfl ?_
              exact ⟨by simp, hU⟩
        · try (exfalso; first | (simp at hb2_16; done) | (simp only [decide_eq_true_eq, decide_eq_false_iff_not, Bool.not_eq_true', Bool.not_eq_false', Bool.not_eq_true, Bool.not_eq_false] at hb2_16; omega) | omega)
          all_goals
           try simp only [decide_eq_true_eq, decide_eq_false_iff_not, Bool.not_eq_true', Bool.not_eq_false', Bool.not_eq_true, Bool.not_eq_false, Option.isNone_none, Option.isNone_some, Option.isSome_none, Option.isSome_some, ne_eq, Decidable.not_not] at hb2_16
           refine WL.skip rfl rfl rfl ?_
           refine WL.skip rfl rfl rfl ?_
           refine WL.skip rfl rfl rfl ?_
           refine WL.skip rfl rfl rfl ?_
           refine WL.val rfl rfl rfl rfl (r_pickF rfl (ev_t rfl) ev_c) ?_
           refine WL.val rfl rfl rfl rfl (r_move rfl (ev_t rfl)) ?_
           refine WL.skip rfl rfl rfl ?_
           refine WL.skip rfl rfl rfl ?_
           refine WL.skip rfl rfl rfl ?_
           refine WL.skip rfl rfl rfl ?_
           refine WL.skip rfl rfl rfl ?_
           refine WL.skip rfl rfl rfl ?_
           refine WL.val rfl rfl rfl rfl (r_pickF rfl (ev_t rfl) ev_c) ?_
           refine WL.val rfl rfl rfl rfl (r_move rfl (ev_t rfl)) ?_
           refine WL.val rfl rfl rfl rfl (r_pickF rfl (ev_t rfl) ev_c) ?_
           refine WL.val rfl rfl rfl rfl (r_assign rfl (ev_t rfl)) ?_
           refine WL.nil ?_
           refine WX.keep [(0, _)] ⟨rfl, trivial⟩ ?_
           refine WX.next ?_
           refine WC.ret ?_
           refine WX.retE1 rfl rfl ?_
           exact ⟨by simp, hU⟩
     · try simp only [decide_eq_true_eq, decide_eq_false_iff_not, Bool.not_eq_true', Bool.not_eq_false', Bool.not_eq_true, Bool.not_eq_false, Option.isNone_none, Option.isNone_some, Option.isSome_none, Option.isSome_some, ne_eq, Decidable.not_not] at hb2_8
       exfalso
       exact hb2_8 rfl
  · try (exfalso; first | (simp at hb2_2; done) | (simp only [decide_eq_true_eq, decide_eq_false_iff_not, Bool.not_eq_true', Bool.not_eq_false', Bool.not_eq_true, Bool.not_eq_false] at hb2_2; omega) | omega)
    all_goals
     try simp only [decide_eq_true_eq, decide_eq_false_iff_not, Bool.not_eq_true', Bool.not_eq_false', Bool.not_eq_true, Bool.not_eq_false, Option.isNone_none, Option.isNone_some, Option.isSome_none, Option.isSome_some, ne_eq, Decidable.not_not] at hb2_2
     refine WL.skip rfl rfl rfl ?_
     refine WL.skip rfl rfl rfl ?_
     refine WL.skip rfl rfl rfl ?_
     refine WL.skip rfl rfl rfl ?_
     refine WL.val rfl rfl rfl rfl (r_pickF rfl (ev_t rfl) ev_c) ?_
     refine WL.val rfl rfl rfl rfl (r_move rfl (ev_t rfl)) ?_
     refine WL.skip rfl rfl rfl ?_
     refine WL.skip rfl rfl rfl ?_
     refine WL.skip rfl rfl rfl ?_
     refine WL.skip rfl rfl rfl ?_
     refine WL.skip rfl rfl rfl ?_
     refine WL.skip rfl rfl rfl ?_
     refine WL.val rfl rfl rfl rfl (r_pickF rfl (ev_t rfl) ev_c) ?_
     refine WL.val rfl rfl rfl rfl (r_move rfl (ev_t rfl)) ?_
     refine WL.skip rfl rfl rfl ?_
     refine WL.skip rfl rfl rfl ?_
     refine WL.skip rfl rfl rfl ?_
     refine WL.skip rfl rfl rfl ?_
     refine WL.val rfl rfl rfl rfl (r_pickF rfl (ev_t rfl) ev_c) ?_
     refine WL.val rfl rfl rfl rfl (r_move rfl (ev_t rfl)) ?_
     refine WL.skip rfl rfl rfl ?_
     refine WL.skip rfl rfl rfl ?_
     refine WL.skip rfl rfl rfl ?_
     refine WL.skip rfl rfl rfl ?_
     refine WL.skip rfl rfl rfl ?_
     refine WL.skip rfl rfl rfl ?_
     refine WL.val rfl rfl rfl rfl (r_pickF rfl (ev_t rfl) ev_c) ?_
     refine WL.val rfl rfl rfl rfl (r_move rfl (ev_t rfl)) ?_
     refine WL.val rfl rfl rfl rfl (r_pickF rfl (ev_t rfl) ev_c) ?_
     refine WL.val rfl rfl rfl rfl (r_assign rfl (ev_t rfl)) ?_
     refine WL.nil ?_
     refine WX.keep [(0, _)] ⟨rfl, trivial⟩ ?_
     refine WX.next ?_
     refine WC.ret ?_
     refine WX.retE1 rfl rfl ?_
     exact ⟨by simp, hU⟩

set_option maxHeartbeats 1000000 in
theorem storeKeeps.walk {w : World} {pv : Value} {p : List UInt8} (hp : Rd w (fun k => k < w.heap.size) pv p.length 1 (p.map U8)) :
    Ret Try.prog 9 #[pv] w fun v w' => v = .bool true ∧ Upd No w w' := by
  obtain ⟨Ap, cp, rfl, hcp⟩ := hp.slice_form
  have hpm := hp.le
  refine enterRet (vs := [_]) (N := 64) Try.func9 rfl rfl rfl ?_
  have hU := Upd.refl No w
  refine WC.keep [(0, _)] ⟨rfl, trivial⟩ ?_
  refine WC.seq ?_
  refine WC.region ?_
  refine WL.val rfl rfl rfl rfl (r_assign rfl ev_c) ?_
  refine WL.nil ?_
  refine WX.keep [(0, _)] ⟨rfl, trivial⟩ ?_
  refine WX.next ?_
  refine WC.seq ?_
  refine WC.seq ?_
  refine WC.region ?_
  refine WL.cons (SO.call (awake15_ok _) rfl body_26 trivial rfl rfl rfl rfl ?_)
  rintro v w1 ⟨rfl, hu1⟩
  have hs1 := hu1.size
  replace hU := hU.trans hu1 (by first | exact (fun _ _ h => h) | exact (fun _ _ h => h.elim) | (intro k hl hk; (try simp only [At, New, Grow, From, No] at hk ⊢); omega) | (intro k hl hk; simp only [At, New, Grow, From, No] at *; omega))
  refine WL.val rfl rfl rfl rfl (r_not rfl (ev_t rfl)) ?_
  refine WL.val rfl rfl rfl rfl (r_move rfl (ev_t rfl)) ?_
  refine WL.cases 9 rfl (fun hb1_2 => ?_) (fun hb1_2 => ?_)
  · try (exfalso; first | (simp at hb1_2; done) | (simp only [decide_eq_true_eq, decide_eq_false_iff_not, Bool.not_eq_true', Bool.not_eq_false', Bool.not_eq_true, Bool.not_eq_false] at hb1_2; omega) | omega)
    all_goals
     try simp only [decide_eq_true_eq, decide_eq_false_iff_not, Bool.not_eq_true', Bool.not_eq_false', Bool.not_eq_true, Bool.not_eq_false, Option.isNone_none, Option.isNone_some, Option.isSome_none, Option.isSome_some, ne_eq, Decidable.not_not] at hb1_2
     refine WL.skip rfl rfl rfl ?_
     refine WL.skip rfl rfl rfl ?_
     refine WL.skip rfl rfl rfl ?_
     refine WL.val rfl rfl rfl rfl (r_pickT rfl (ev_t rfl) ev_c) ?_
     refine WL.val rfl rfl rfl rfl (r_move rfl (ev_t rfl)) ?_
     refine WL.skip rfl rfl rfl ?_
     refine WL.skip rfl rfl rfl ?_
     refine WL.skip rfl rfl rfl ?_
     refine WL.val rfl rfl rfl rfl (r_pickT rfl (ev_t rfl) ev_c) ?_
     refine WL.nil ?_
     refine WX.keep [(0, _), (18, _)] ⟨rfl, rfl, trivial⟩ ?_
     refine WX.next ?_
     refine WC.cond_true rfl (ev_t rfl) ?_
     refine WC.seq ?_
     refine WC.region ?_
     refine WL.cons (SO.call (awake15_ok _) rfl body_26 trivial rfl rfl rfl rfl ?_)
     rintro v w2 ⟨rfl, hu2⟩
     have hs2 := hu2.size
     replace hU := hU.trans hu2 (by first | exact (fun _ _ h => h) | exact (fun _ _ h => h.elim) | (intro k hl hk; (try simp only [At, New, Grow, From, No] at hk ⊢); omega) | (intro k hl hk; simp only [At, New, Grow, From, No] at *; omega))
     refine WL.val rfl rfl rfl rfl (r_assign rfl (ev_t rfl)) ?_
     refine WL.nil ?_
     refine WX.keep [(2, _)] ⟨rfl, trivial⟩ ?_
     refine WX.next ?_
     refine WC.ret ?_
     refine WX.thenRet ?_
     refine WX.retE1 rfl rfl ?_
     first
       | exact ⟨rfl, hU⟩
       | exact ⟨by simp, hU⟩
  · try (exfalso; first | (simp at hb1_2; done) | (simp only [decide_eq_true_eq, decide_eq_false_iff_not, Bool.not_eq_true', Bool.not_eq_false', Bool.not_eq_true, Bool.not_eq_false] at hb1_2; omega) | omega)
    all_goals
     try simp only [decide_eq_true_eq, decide_eq_false_iff_not, Bool.not_eq_true', Bool.not_eq_false', Bool.not_eq_true, Bool.not_eq_false, Option.isNone_none, Option.isNone_some, Option.isSome_none, Option.isSome_some, ne_eq, Decidable.not_not] at hb1_2
     refine WL.val rfl rfl rfl rfl (r_move rfl (ev_t rfl)) ?_
     refine WL.val rfl rfl rfl rfl (r_lenSlice (ts := #[]) rfl (ev_t rfl) elem_22) ?_
     refine WL.val rfl rfl rfl rfl (r_eql rfl (ev_t rfl) ev_c) ?_
     refine WL.val rfl rfl rfl rfl (r_pickF rfl (ev_t rfl) (ev_t rfl)) ?_
     refine WL.val rfl rfl rfl rfl (r_move rfl (ev_t rfl)) ?_
     refine WL.cases 14 rfl (fun hb1_7 => ?_) (fun hb1_7 => ?_)
     · try (exfalso; first | (simp at hb1_7; done) | (simp only [decide_eq_true_eq, decide_eq_false_iff_not, Bool.not_eq_true', Bool.not_eq_false', Bool.not_eq_true, Bool.not_eq_false] at hb1_7; omega) | omega)
       all_goals
        try simp only [decide_eq_true_eq, decide_eq_false_iff_not, Bool.not_eq_true', Bool.not_eq_false', Bool.not_eq_true, Bool.not_eq_false, Option.isNone_none, Option.isNone_some, Option.isSome_none, Option.isSome_some, ne_eq, Decidable.not_not] at hb1_7
        refine WL.skip rfl rfl rfl ?_
        refine WL.skip rfl rfl rfl ?_
        refine WL.skip rfl rfl rfl ?_
        refine WL.val rfl rfl rfl rfl (r_pickT rfl (ev_t rfl) ev_c) ?_
        refine WL.nil ?_
        refine WX.keep [(0, _), (18, _)] ⟨rfl, rfl, trivial⟩ ?_
        refine WX.next ?_
        refine WC.cond_true rfl (ev_t rfl) ?_
        refine WC.seq ?_
        refine WC.region ?_
        refine WL.cons (SO.call (awake15_ok _) rfl body_26 trivial rfl rfl rfl rfl ?_)
        rintro v w3 ⟨rfl, hu3⟩
        have hs3 := hu3.size
        replace hU := hU.trans hu3 (by first | exact (fun _ _ h => h) | exact (fun _ _ h => h.elim) | (intro k hl hk; (try simp only [At, New, Grow, From, No] at hk ⊢); omega) | (intro k hl hk; simp only [At, New, Grow, From, No] at *; omega))
        refine WL.val rfl rfl rfl rfl (r_assign rfl (ev_t rfl)) ?_
        refine WL.nil ?_
        refine WX.keep [(2, _)] ⟨rfl, trivial⟩ ?_
        refine WX.next ?_
        refine WC.ret ?_
        refine WX.thenRet ?_
        refine WX.retE1 rfl rfl ?_
        first
          | exact ⟨rfl, hU⟩
          | exact ⟨by simp, hU⟩
     · try (exfalso; first | (simp at hb1_7; done) | (simp only [decide_eq_true_eq, decide_eq_false_iff_not, Bool.not_eq_true', Bool.not_eq_false', Bool.not_eq_true, Bool.not_eq_false] at hb1_7; omega) | omega)
       all_goals
        try simp only [decide_eq_true_eq, decide_eq_false_iff_not, Bool.not_eq_true', Bool.not_eq_false', Bool.not_eq_true, Bool.not_eq_false, Option.isNone_none, Option.isNone_some, Option.isSome_none, Option.isSome_some, ne_eq, Decidable.not_not] at hb1_7
        obtain ⟨p0, pr, rfl⟩ : ∃ p0 pr, p = p0 :: pr := by
          match p with
          | [] => simp at hb1_7
          | a :: r => exact ⟨a, r, rfl⟩
        refine WL.val rfl rfl rfl rfl (r_move rfl (ev_t rfl)) ?_
        refine WL.val rfl rfl rfl rfl (r_lenSlice (ts := #[]) rfl (ev_t rfl) elem_22) ?_
        refine WL.val rfl rfl rfl rfl (r_gtr rfl (ev_t rfl) ev_c) ?_
        refine WL.val rfl rfl rfl rfl (r_pickF rfl (ev_t rfl) (ev_t rfl)) ?_
        refine WL.nil ?_
        refine WX.keep [(0, _), (18, _)] ⟨rfl, rfl, trivial⟩ ?_
        refine WX.next ?_
        refine WC.cond rfl (ev_t rfl) (fun hc1 => ?_) (fun hc1 => ?_)
        · try (exfalso; first | (simp at hc1; done) | (simp only [decide_eq_true_eq, decide_eq_false_iff_not, Bool.not_eq_true', Bool.not_eq_false', Bool.not_eq_true, Bool.not_eq_false] at hc1; omega) | omega)
          all_goals
           try simp only [decide_eq_true_eq, decide_eq_false_iff_not, Bool.not_eq_true', Bool.not_eq_false', Bool.not_eq_true, Bool.not_eq_false, Option.isNone_none, Option.isNone_some, Option.isSome_none, Option.isSome_some, ne_eq, Decidable.not_not] at hc1
           refine WC.seq ?_
           refine WC.region ?_
           refine WL.cons (SO.call (awake15_ok _) rfl body_26 trivial rfl rfl rfl rfl ?_)
           rintro v w4 ⟨rfl, hu4⟩
           have hs4 := hu4.size
           replace hU := hU.trans hu4 (by first | exact (fun _ _ h => h) | exact (fun _ _ h => h.elim) | (intro k hl hk; (try simp only [At, New, Grow, From, No] at hk ⊢); omega) | (intro k hl hk; simp only [At, New, Grow, From, No] at *; omega))
           refine WL.val rfl rfl rfl rfl (r_assign rfl (ev_t rfl)) ?_
           refine WL.nil ?_
           refine WX.keep [(2, _)] ⟨rfl, trivial⟩ ?_
           refine WX.next ?_
           refine WC.ret ?_
           refine WX.thenRet ?_
           refine WX.retE1 rfl rfl ?_
           first
             | exact ⟨rfl, hU⟩
             | exact ⟨by simp, hU⟩
        · try (exfalso; first | (simp at hc1; done) | (simp only [decide_eq_true_eq, decide_eq_false_iff_not, Bool.not_eq_true', Bool.not_eq_false', Bool.not_eq_true, Bool.not_eq_false] at hc1; omega) | omega)
          all_goals
           try simp only [decide_eq_true_eq, decide_eq_false_iff_not, Bool.not_eq_true', Bool.not_eq_false', Bool.not_eq_true, Bool.not_eq_false, Option.isNone_none, Option.isNone_some, Option.isSome_none, Option.isSome_some, ne_eq, Decidable.not_not] at hc1
           refine WC.skip ?_
           refine WX.next ?_
           refine WC.seq ?_
           refine WC.region ?_
           refine WL.cons (SO.call (open15_ok (most := 5000) (by omega)) rfl body_27 ⟨ev_c, trivial⟩ rfl rfl rfl rfl ?_)
           rintro v w5 ⟨pd, t, rfl, hs, hu5⟩
           have hs5 := hu5.size
           replace hU := hU.trans hu5 (by first | exact (fun _ _ h => h) | exact (fun _ _ h => h.elim) | (intro k hl hk; (try simp only [At, New, Grow, From, No] at hk ⊢); omega) | (intro k hl hk; simp only [At, New, Grow, From, No] at *; omega))
           refine WL.val rfl rfl rfl rfl (r_move rfl (ev_t rfl)) ?_
           refine WL.val rfl rfl rfl rfl (r_extract rfl (ev_t rfl) rfl) ?_
           refine WL.val rfl rfl rfl rfl (r_extract rfl (ev_t rfl) rfl) ?_
           refine WL.val rfl rfl rfl rfl (r_assign rfl (ev_t rfl)) ?_
           refine WL.val rfl rfl rfl rfl (r_assign rfl (ev_t rfl)) ?_
           refine WL.nil ?_
           refine WX.keep [(0, _), (4, _)] ⟨rfl, rfl, trivial⟩ ?_
           refine WX.next ?_
           refine WC.seq ?_
           refine WC.region ?_
           refine WL.val rfl rfl rfl rfl (r_move rfl (ev_t rfl)) ?_
           refine WL.cons (SO.append (Own.nil _ (fun _ => False) _ _) (hp.upd hU (fun _ _ _ h => h)) row_22 (U8_one _) (le_maxLen (by omega)) (by omega) rfl ev_c (ev_t rfl) rfl rfl rfl rfl ?_)
           intro v6 w6 hq hu6
           have hs6 := hu6.size
           replace hU := hU.trans hu6 (by first | exact (fun _ _ h => h) | exact (fun _ _ h => h.elim) | (intro k hl hk; (try simp only [At, New, Grow, From, No] at hk ⊢); omega) | (intro k hl hk; simp only [At, New, Grow, From, No] at *; omega))
           replace hs := hs.upd hu6 (by first | exact (fun _ _ _ h => h) | (intro k hk hl hS; simp only [At, New, Grow, From, No] at *; omega))
           obtain ⟨A6, c6, rfl, hc6⟩ := Own.form hq
           simp only [Nat.zero_add, List.nil_append] at hq ⊢
           replace hq := Own.nilGrow hq
           refine WL.val rfl rfl rfl rfl (r_assign rfl (ev_t rfl)) ?_
           refine WL.nil ?_
           refine WX.keep [(0, _), (4, _), (5, _)] ⟨rfl, rfl, rfl, trivial⟩ ?_
           refine WX.next ?_
           refine WC.seq ?_
           refine WC.seq ?_
           obtain ⟨x, hx⟩ : ∃ x : Sn, x = ⟨1, 0, p0 :: pr⟩ := ⟨_, rfl⟩
           have hxo : x.ok := by rw [hx]; exact ⟨by simp only; omega, by simp only; omega, by simp only; omega⟩
           have hxl := layB_len hxo
           rw [show x.data.length = (p0 :: pr).length by rw [hx]] at hxl
           refine WC.region ?_
           refine WL.val rfl rfl rfl rfl (r_move rfl (ev_t rfl)) ?_
           refine WL.val rfl rfl rfl rfl (r_eqlPtrNil rfl (ev_t rfl) ev_c ptr_44) ?_
           refine WL.val rfl rfl rfl rfl (r_move rfl (ev_t rfl)) ?_
           refine WL.cases 28 rfl (fun hb5_2 => ?_) (fun hb5_2 => ?_)
           · try (exfalso; first | (simp at hb5_2; done) | (simp only [decide_eq_true_eq, decide_eq_false_iff_not, Bool.not_eq_true', Bool.not_eq_false', Bool.not_eq_true, Bool.not_eq_false] at hb5_2; omega) | omega)
             all_goals
              try simp only [decide_eq_true_eq, decide_eq_false_iff_not, Bool.not_eq_true', Bool.not_eq_false', Bool.not_eq_true, Bool.not_eq_false, Option.isNone_none, Option.isNone_some, Option.isSome_none, Option.isSome_some, ne_eq, Decidable.not_not] at hb5_2
              refine WL.skip rfl rfl rfl ?_
              refine WL.skip rfl rfl rfl ?_
              refine WL.skip rfl rfl rfl ?_
              refine WL.skip rfl rfl rfl ?_
              refine WL.skip rfl rfl rfl ?_
              refine WL.val rfl rfl rfl rfl (r_pickT rfl (ev_t rfl) ev_c) ?_
              refine WL.nil ?_
              refine WX.keep [(0, _), (4, _), (5, _), (34, _)] ⟨rfl, rfl, rfl, rfl, trivial⟩ ?_
              refine WX.next ?_
              refine WC.cond_true rfl (ev_t rfl) ?_
              refine WC.seq ?_
              refine WC.region ?_
              refine WL.val rfl rfl rfl rfl (r_assign rfl ev_c) ?_
              refine WL.nil ?_
              refine WX.keep [(2, _)] ⟨rfl, trivial⟩ ?_
              refine WX.next ?_
              refine WC.ret ?_
              refine WX.thenRet ?_
              refine WX.retE1 rfl rfl ?_
              first
                | exact ⟨rfl, hU⟩
                | exact ⟨by simp, hU⟩
           · try (exfalso; first | (simp at hb5_2; done) | (simp only [decide_eq_true_eq, decide_eq_false_iff_not, Bool.not_eq_true', Bool.not_eq_false', Bool.not_eq_true, Bool.not_eq_false] at hb5_2; omega) | omega)
             all_goals
              try simp only [decide_eq_true_eq, decide_eq_false_iff_not, Bool.not_eq_true', Bool.not_eq_false', Bool.not_eq_true, Bool.not_eq_false, Option.isNone_none, Option.isNone_some, Option.isSome_none, Option.isSome_some, ne_eq, Decidable.not_not] at hb5_2
              refine WL.val rfl rfl rfl rfl (r_move rfl (ev_t rfl)) ?_
              refine WL.val rfl rfl rfl rfl (r_move rfl (ev_t rfl)) ?_
              refine WL.val rfl rfl rfl rfl (r_build (cs := #[_, _, _]) (vs := [(0, _), (2, _)]) rfl ⟨⟨rfl, ev_c⟩, ⟨rfl, (ev_t rfl)⟩, trivial⟩ plc_50 zero_50 rfl) ?_
              refine WL.cons (SO.call (saveSt (x := ⟨1, 0, p0 :: pr⟩) hs (hq.rd (by omega)) (fun k hk hl hR => by simp only [New] at hk hR; omega) (by rw [← hx]; exact hxo) rfl rfl (by decide) (by decide)) rfl body_28 ⟨(ev_t rfl), (ev_t rfl), trivial⟩ rfl rfl rfl rfl ?_)
              rintro v w7 ⟨rfl, hs, hu7⟩
              obtain ⟨D1, T1, e1, hT1, hQ, ha⟩ := save_calm (x := x) (Quiet.new (M := 5000)) rfl hxo (by rw [hx]; exact Nat.zero_lt_one) (by omega)
              rw [← hx, e1] at hs ⊢
              have hs7 := hu7.size
              replace hU := hU.trans hu7 (by first | exact (fun _ _ h => h) | exact (fun _ _ h => h.elim) | (intro k hl hk; (try simp only [At, New, Grow, From, No] at hk ⊢); omega) | (intro k hl hk; simp only [At, New, Grow, From, No] at *; omega))
              replace hq := hq.upd hu7 (by first | exact (fun _ _ _ h => h) | (intro k hk hl hS; simp only [At, New, Grow, From, No] at *; omega))
              refine WL.val rfl rfl rfl rfl (r_neq rfl (ev_t rfl) ev_c) ?_
              refine WL.val rfl rfl rfl rfl (r_pickF rfl (ev_t rfl) (ev_t rfl)) ?_
              refine WL.nil ?_
              refine WX.keep [(0, _), (4, _), (5, _), (34, _)] ⟨rfl, rfl, rfl, rfl, trivial⟩ ?_
              refine WX.next ?_
              refine WC.cond rfl (ev_t rfl) (fun hc5 => ?_) (fun hc5 => ?_)
              · try (exfalso; first | (simp at hc5; done) | (simp only [decide_eq_true_eq, decide_eq_false_iff_not, Bool.not_eq_true', Bool.not_eq_false', Bool.not_eq_true, Bool.not_eq_false] at hc5; omega) | omega)
                all_goals
                 try simp only [decide_eq_true_eq, decide_eq_false_iff_not, Bool.not_eq_true', Bool.not_eq_false', Bool.not_eq_true, Bool.not_eq_false, Option.isNone_none, Option.isNone_some, Option.isSome_none, Option.isSome_some, ne_eq, Decidable.not_not] at hc5
                 refine WC.seq ?_
                 refine WC.region ?_
                 refine WL.val rfl rfl rfl rfl (r_assign rfl ev_c) ?_
                 refine WL.nil ?_
                 refine WX.keep [(2, _)] ⟨rfl, trivial⟩ ?_
                 refine WX.next ?_
                 refine WC.ret ?_
                 refine WX.thenRet ?_
                 refine WX.retE1 rfl rfl ?_
                 first
                   | exact ⟨rfl, hU⟩
                   | exact ⟨by simp, hU⟩
              · try (exfalso; first | (simp at hc5; done) | (simp only [decide_eq_true_eq, decide_eq_false_iff_not, Bool.not_eq_true', Bool.not_eq_false', Bool.not_eq_true, Bool.not_eq_false] at hc5; omega) | omega)
                all_goals
                 try simp only [decide_eq_true_eq, decide_eq_false_iff_not, Bool.not_eq_true', Bool.not_eq_false', Bool.not_eq_true, Bool.not_eq_false, Option.isNone_none, Option.isNone_some, Option.isSome_none, Option.isSome_some, ne_eq, Decidable.not_not] at hc5
                 refine WC.skip ?_
                 refine WX.next ?_
                 refine WC.seq ?_
                 obtain ⟨gq, capq, curq, heq, hbq, hgq, hkq, _, hszq, _⟩ := Own.open hq (by simp)
                 injection heq with e1 _ e2
                 subst e1 e2
                 have hq0 := (hq.rd (by omega)).cell (j := 0) (q := 0) (u := U8 p0) (by omega) rfl
                 refine WC.region ?_
                 refine WL.val rfl rfl rfl rfl (r_move rfl (ev_t rfl)) ?_
                 refine WL.val rfl rfl rfl rfl (r_move rfl (ev_t rfl)) ?_
                 refine WL.val rfl rfl rfl rfl (r_indexAddr rfl (ev_t rfl) ev_c elem_22 size_5 (by omega) (by omega)) ?_
                 refine WL.val rfl rfl rfl rfl (r_load rfl (ev_t rfl) flat_5 hq0) ?_
                 refine WL.val rfl rfl rfl rfl (r_xor rfl (ev_t rfl) ev_c) ?_
                 refine WL.val rfl rfl rfl rfl (r_indexAddr rfl (ev_t rfl) ev_c elem_22 size_5 (by omega) (by omega)) ?_
                 refine WL.cons (SO.store rfl (ev_t rfl) (ev_t rfl) size_5 hbq (blt_of (by rw [hszq]; simp; simp at hkq; omega)) rfl rfl rfl rfl ?_)
                 intro w8 hu8 hbq hzq
                 have hs8 := hu8.size
                 replace hU := hU.trans hu8 (by first | exact (fun _ _ h => h) | exact (fun _ _ h => h.elim) | (intro k hl hk; (try simp only [At, New, Grow, From, No] at hk ⊢); omega) | (intro k hl hk; simp only [At, New, Grow, From, No] at *; omega))
                 replace hs := hs.upd hu8 (by first | exact (fun _ _ _ h => h) | (intro k hk hl hS; simp only [At, New, Grow, From, No] at *; omega))
                 refine WL.nil ?_
                 refine WX.keep [(0, _), (4, _)] ⟨rfl, rfl, trivial⟩ ?_
                 refine WX.next ?_
                 refine WC.seq ?_
                 refine WC.region ?_
                 refine WL.val rfl rfl rfl rfl (r_move rfl (ev_t rfl)) ?_
                 refine WL.cons (SO.call (snapSt hs) rfl body_30 ⟨(ev_t rfl), trivial⟩ rfl rfl rfl rfl ?_)
                 rintro v w9 ⟨As, cs, rfl, hsn, hu9⟩
                 rw [hT1, show x.data = p0 :: pr by rw [hx]] at hsn ⊢
                 have hs9 := hu9.size
                 replace hU := hU.trans hu9 (by first | exact (fun _ _ h => h) | exact (fun _ _ h => h.elim) | (intro k hl hk; (try simp only [At, New, Grow, From, No] at hk ⊢); omega) | (intro k hl hk; simp only [At, New, Grow, From, No] at *; omega))
                 replace hs := hs.upd hu9 (by first | exact (fun _ _ _ h => h) | (intro k hk hl hS; simp only [At, New, Grow, From, No] at *; omega))
                 refine WL.cons (SO.alloc rfl rfl rfl rfl (r_alloc rfl zero_50) ?_)
                 intro w10 hu10 hB10 hz10
                 have hs10 := hu10.size
                 replace hU := hU.trans hu10 (by first | exact (fun _ _ h => h) | exact (fun _ _ h => h.elim) | (intro k hl hk; (try simp only [At, New, Grow, From, No] at hk ⊢); omega) | (intro k hl hk; simp only [At, New, Grow, From, No] at *; omega))
                 replace hs := hs.upd hu10 (by first | exact (fun _ _ _ h => h) | (intro k hk hl hS; simp only [At, New, Grow, From, No] at *; omega))
                 replace hsn := hsn.upd hu10 (by first | exact (fun _ _ _ h => h) | (intro k hk hl hS; simp only [At, New, Grow, From, No] at *; omega))
                 refine WL.cons (SO.storeAll (us := [_, _, _]) rfl (ev_t rfl) (ev_t rfl) size_50 hB10 rfl rfl rfl rfl rfl ?_)
                 intro w11 hu11 hB10 hz11
                 have hs11 := hu11.size
                 replace hU := hU.trans hu11 (by first | exact (fun _ _ h => h) | exact (fun _ _ h => h.elim) | (intro k hl hk; (try simp only [At, New, Grow, From, No] at hk ⊢); omega) | (intro k hl hk; simp only [At, New, Grow, From, No] at *; omega))
                 replace hs := hs.upd hu11 (by first | exact (fun _ _ _ h => h) | (intro k hk hl hS; simp only [At, New, Grow, From, No] at *; omega))
                 replace hsn := hsn.upd hu11 (by first | exact (fun _ _ _ h => h) | (intro k hk hl hS; simp only [At, New, Grow, From, No] at *; omega))
                 refine WL.nil ?_
                 refine WX.keep [(0, _), (4, _), (6, _)] ⟨rfl, rfl, rfl, trivial⟩ ?_
                 refine WX.next ?_
                 refine WC.seq ?_
                 refine WC.seq ?_
                 refine WC.region ?_
                 first | refine WL.val rfl rfl rfl rfl (r_field0 rfl (ev_t rfl) fld_50_2) ?_ | refine WL.val rfl rfl rfl rfl (r_fieldAt rfl (ev_t rfl) fld_50_2) ?_
                 refine WL.val rfl rfl rfl rfl (r_load rfl (ev_t rfl) flat_22 (Blk.cell hB10 rfl)) ?_
                 refine WL.val rfl rfl rfl rfl (r_toStr rfl (ev_t rfl) (hsn.rd (by omega)) elem_22 int_5 str_9) ?_
                 refine WL.val rfl rfl rfl rfl (r_move rfl (ev_t rfl)) ?_
                 refine WL.val rfl rfl rfl rfl (r_toStr rfl (ev_t rfl) (hp.upd hU (fun _ _ _ h => h)) elem_22 int_5 str_9) ?_
                 refine WL.val rfl rfl rfl rfl (r_neqStrL rfl (ev_t rfl) (ev_t rfl)) ?_
                 refine WL.nil ?_
                 refine WX.keep [(0, _), (4, _), (6, _), (48, _)] ⟨rfl, rfl, rfl, rfl, trivial⟩ ?_
                 refine WX.next ?_
                 refine WC.cond rfl (ev_t rfl) (fun hc9 => ?_) (fun hc9 => ?_)
                 · try (exfalso; first | (simp at hc9; done) | (simp only [decide_eq_true_eq, decide_eq_false_iff_not, Bool.not_eq_true', Bool.not_eq_false', Bool.not_eq_true, Bool.not_eq_false] at hc9; omega) | omega)
                   all_goals
                    try simp only [decide_eq_true_eq, decide_eq_false_iff_not, Bool.not_eq_true', Bool.not_eq_false', Bool.not_eq_true, Bool.not_eq_false, Option.isNone_none, Option.isNone_some, Option.isSome_none, Option.isSome_some, ne_eq, Decidable.not_not] at hc9
                    refine WC.seq ?_
                    refine WC.region ?_
                    refine WL.val rfl rfl rfl rfl (r_assign rfl ev_c) ?_
                    refine WL.nil ?_
                    refine WX.keep [(2, _)] ⟨rfl, trivial⟩ ?_
                    refine WX.next ?_
                    refine WC.ret ?_
                    refine WX.thenRet ?_
                    refine WX.retE1 rfl rfl ?_
                    first
                      | exact ⟨rfl, hU⟩
                      | exact ⟨by simp, hU⟩
                 · try (exfalso; first | (simp at hc9; done) | (simp only [decide_eq_true_eq, decide_eq_false_iff_not, Bool.not_eq_true', Bool.not_eq_false', Bool.not_eq_true, Bool.not_eq_false] at hc9; omega) | omega)
                   all_goals
                    try simp only [decide_eq_true_eq, decide_eq_false_iff_not, Bool.not_eq_true', Bool.not_eq_false', Bool.not_eq_true, Bool.not_eq_false, Option.isNone_none, Option.isNone_some, Option.isSome_none, Option.isSome_some, ne_eq, Decidable.not_not] at hc9
                    refine WC.skip ?_
                    refine WX.next ?_
                    refine WC.seq ?_
                    obtain ⟨gs, caps, curs, heq, hbs, hgs, hks, _, hszs, _⟩ := Own.open hsn (by simp)
                    injection heq with e1 _ e2
                    subst e1 e2
                    have hq1 := (hsn.rd (by omega)).cell (j := 0) (q := 0) (u := U8 p0) (by omega) rfl
                    refine WC.draws' (fun u0_ u1_ => Upd No u0_ u1_) (fun j => [0, 0, 0, 1, 0, 1, 0, 0, 2].getD j 0) (.calm 0 (.calm 2 (.held 1 (.one 3 (.calm 4 (.one 5 (.calm 6 (.calm 7 (.one 8 (.done)))))))))) mixed (by kernel_rfl) (by repeat (first | with_reducible exact Deaf.body | with_reducible apply Deaf.then | with_reducible apply Deaf.block)) ?_
                    intro w12 hu12
                    have hz12 := congrArg Array.size hu12.2.2.2
                    replace hu12 := Upd.of_draw hu12
                    have hs12 := hu12.size
                    replace hU := hU.trans hu12 (by first | exact (fun _ _ h => h) | exact (fun _ _ h => h.elim) | (intro k hl hk; (try simp only [At, New, Grow, From, No] at hk ⊢); omega) | (intro k hl hk; simp only [At, New, Grow, From, No] at *; omega))
                    replace hs := hs.upd hu12 (by first | exact (fun _ _ _ h => h) | (intro k hk hl hS; simp only [At, New, Grow, From, No] at *; omega))
                    replace hB10 := hB10.updA hu12
                    replace hbs := hbs.upd hu12 (by first | exact (fun h => h) | (intro hS; simp only [At, New, Grow, From, No] at *; omega))
                    have hS11 := Upd.refl No w12
                    first | refine WN.calm _ rfl rfl rfl rfl rfl (fun _ => r_field0 rfl (ev_t rfl) fld_50_2) ?_ | refine WN.calm _ rfl rfl rfl rfl rfl (fun _ => r_fieldAt rfl (ev_t rfl) fld_50_2) ?_
                    first | refine WN.calm _ rfl rfl rfl rfl rfl (fun _ => r_field0 rfl (ev_t rfl) fld_50_2) ?_ | refine WN.calm _ rfl rfl rfl rfl rfl (fun _ => r_fieldAt rfl (ev_t rfl) fld_50_2) ?_
                    refine WN.held _ rfl rfl rfl rfl rfl hS11 (fun w' hS => r_load rfl (ev_t rfl) flat_22 (Blk.cell (hB10.upd hS (fun h => h)) rfl)) ?_
                    refine WN.step _ rfl (SO.val rfl rfl rfl rfl (r_load rfl (ev_t rfl) flat_22 (Blk.cell hB10 rfl)) ?_)
                    refine ⟨hS11, ?_⟩
                    refine WN.calm _ rfl rfl rfl rfl rfl (fun _ => r_indexAddr rfl (ev_t rfl) ev_c elem_22 size_5 (by omega) (by omega)) ?_
                    replace hq1 : w12.cell? ⟨gs, 0, none⟩ = some (U8 p0) := by first | exact hq1 | (rw [cell?_of_eq (hu12.block gs (by have := hbs.lt; have := hu12.size; omega) (fun h => h))]; exact hq1)
                    refine WN.step _ rfl (SO.val rfl rfl rfl rfl (r_load rfl (ev_t rfl) flat_5 hq1) ?_)
                    refine ⟨hS11, ?_⟩
                    refine WN.calm _ rfl rfl rfl rfl rfl (fun _ => r_xor rfl (ev_t rfl) ev_c) ?_
                    refine WN.calm _ rfl rfl rfl rfl rfl (fun _ => r_indexAddr rfl (ev_t rfl) ev_c elem_22 size_5 (by omega) (by omega)) ?_
                    refine WN.step _ rfl (SO.store rfl (ev_t rfl) (ev_t rfl) size_5 hbs (blt_of (by rw [hszs]; simp; simp at hks; omega)) rfl rfl rfl rfl ?_)
                    intro w13 hu13 hbs hzq2
                    have hs13 := hu13.size
                    try replace hS11 := Upd.transA hS11 hu13
                    replace hU := hU.trans hu13 (by first | exact (fun _ _ h => h) | exact (fun _ _ h => h.elim) | (intro k hl hk; (try simp only [At, New, Grow, From, No] at hk ⊢); omega) | (intro k hl hk; simp only [At, New, Grow, From, No] at *; omega))
                    replace hs := hs.upd hu13 (by first | exact (fun _ _ _ h => h) | (intro k hk hl hS; simp only [At, New, Grow, From, No] at *; omega))
                    refine ⟨trivial, ?_⟩
                    refine WN.done ?_
                    refine WX.keep [(0, _), (4, _)] ⟨rfl, rfl, trivial⟩ ?_
                    refine WX.next ?_
                    refine WC.seq ?_
                    refine WC.draws' (fun u0_ u1_ => Upd No u0_ u1_) (fun j => [0, 2, 0, 2, 0, 2, 0, 0].getD j 0) (.calm 0 (.calm 4 (.two 1 5 (.calm 2 (.two 3 5 (.one 5 (.calm 6 (.calm 7 (.done)))) (.one 3 (.calm 6 (.calm 7 (.done)))))) (.one 1 (.calm 2 (.one 3 (.calm 6 (.calm 7 (.done))))))))) mixed (by kernel_rfl) (by repeat (first | with_reducible exact Deaf.body | with_reducible apply Deaf.then | with_reducible apply Deaf.block)) ?_
                    intro w14 hu14
                    have hz14 := congrArg Array.size hu14.2.2.2
                    replace hu14 := Upd.of_draw hu14
                    have hs14 := hu14.size
                    replace hU := hU.trans hu14 (by first | exact (fun _ _ h => h) | exact (fun _ _ h => h.elim) | (intro k hl hk; (try simp only [At, New, Grow, From, No] at hk ⊢); omega) | (intro k hl hk; simp only [At, New, Grow, From, No] at *; omega))
                    replace hs := hs.upd hu14 (by first | exact (fun _ _ _ h => h) | (intro k hk hl hS; simp only [At, New, Grow, From, No] at *; omega))
                    refine WN.calm _ rfl rfl rfl rfl rfl (fun _ => r_move rfl (ev_t rfl)) ?_
                    refine WN.calm _ rfl rfl rfl rfl rfl (fun _ => r_move rfl (ev_t rfl)) ?_
                    refine WN.fork _ _ rfl rfl ?_ ?_
                    · refine SO.call (snapSt hs) rfl body_30 ⟨(ev_t rfl), trivial⟩ rfl rfl rfl rfl ?_
                      rintro v w15 ⟨As2, cs2, rfl, hsn2, hu15⟩
                      rw [hT1, show x.data = p0 :: pr by rw [hx]] at hsn2 ⊢
                      have hs15 := hu15.size
                      replace hU := hU.trans hu15 (by first | exact (fun _ _ h => h) | exact (fun _ _ h => h.elim) | (intro k hl hk; (try simp only [At, New, Grow, From, No] at hk ⊢); omega) | (intro k hl hk; simp only [At, New, Grow, From, No] at *; omega))
                      replace hs := hs.upd hu15 (by first | exact (fun _ _ _ h => h) | (intro k hk hl hS; simp only [At, New, Grow, From, No] at *; omega))
                      refine ⟨trivial, ?_⟩
                      refine WN.calm _ rfl rfl rfl rfl rfl (fun _ => r_fieldV (n := 2) rfl (ev_t rfl) (by kernel_rfl) rfl) ?_
                      refine WN.fork _ _ rfl rfl ?_ ?_
                      · refine SO.val rfl rfl rfl rfl (r_toStr rfl (ev_t rfl) (hsn2.rd (by omega)) elem_22 int_5 str_9) ?_
                        refine ⟨trivial, ?_⟩
                        refine WN.step _ rfl (SO.val rfl rfl rfl rfl (r_toStr rfl (ev_t rfl) (hp.upd hU (fun _ _ _ h => h)) elem_22 int_5 str_9) ?_)
                        refine ⟨trivial, ?_⟩
                        refine WN.calm _ rfl rfl rfl rfl rfl (fun _ => r_eqlStrL rfl (ev_t rfl) (ev_t rfl)) ?_
                        refine WN.calm _ rfl rfl rfl rfl rfl (fun _ => r_assign rfl (ev_t rfl)) ?_
                        refine WN.done ?_
                        refine WX.keep [(2, _)] ⟨rfl, trivial⟩ ?_
                        refine WX.next ?_
                        refine WC.ret ?_
                        refine WX.retE1 rfl rfl ?_
                        first
                          | exact ⟨rfl, hU⟩
                          | exact ⟨by simp, hU⟩
                      · refine SO.val rfl rfl rfl rfl (r_toStr rfl (ev_t rfl) (hp.upd hU (fun _ _ _ h => h)) elem_22 int_5 str_9) ?_
                        refine ⟨trivial, ?_⟩
                        refine WN.step _ rfl (SO.val rfl rfl rfl rfl (r_toStr rfl (ev_t rfl) (hsn2.rd (by omega)) elem_22 int_5 str_9) ?_)
                        refine ⟨trivial, ?_⟩
                        refine WN.calm _ rfl rfl rfl rfl rfl (fun _ => r_eqlStrL rfl (ev_t rfl) (ev_t rfl)) ?_
                        refine WN.calm _ rfl rfl rfl rfl rfl (fun _ => r_assign rfl (ev_t rfl)) ?_
                        refine WN.done ?_
                        refine WX.keep [(2, _)] ⟨rfl, trivial⟩ ?_
                        refine WX.next ?_
                        refine WC.ret ?_
                        refine WX.retE1 rfl rfl ?_
                        first
                          | exact ⟨rfl, hU⟩
                          | exact ⟨by simp, hU⟩
                    · refine SO.val rfl rfl rfl rfl (r_toStr rfl (ev_t rfl) (hp.upd hU (fun _ _ _ h => h)) elem_22 int_5 str_9) ?_
                      refine ⟨trivial, ?_⟩
                      refine WN.step _ rfl (SO.call (snapSt hs) rfl body_30 ⟨(ev_t rfl), trivial⟩ rfl rfl rfl rfl ?_)
                      rintro v w16 ⟨As2, cs2, rfl, hsn2, hu16⟩
                      rw [hT1, show x.data = p0 :: pr by rw [hx]] at hsn2 ⊢
                      have hs16 := hu16.size
                      replace hU := hU.trans hu16 (by first | exact (fun _ _ h => h) | exact (fun _ _ h => h.elim) | (intro k hl hk; (try simp only [At, New, Grow, From, No] at hk ⊢); omega) | (intro k hl hk; simp only [At, New, Grow, From, No] at *; omega))
                      replace hs := hs.upd hu16 (by first | exact (fun _ _ _ h => h) | (intro k hk hl hS; simp only [At, New, Grow, From, No] at *; omega))
                      refine ⟨trivial, ?_⟩
                      refine WN.calm _ rfl rfl rfl rfl rfl (fun _ => r_fieldV (n := 2) rfl (ev_t rfl) (by kernel_rfl) rfl) ?_
                      refine WN.step _ rfl (SO.val rfl rfl rfl rfl (r_toStr rfl (ev_t rfl) (hsn2.rd (by omega)) elem_22 int_5 str_9) ?_)
                      refine ⟨trivial, ?_⟩
                      refine WN.calm _ rfl rfl rfl rfl rfl (fun _ => r_eqlStrL rfl (ev_t rfl) (ev_t rfl)) ?_
                      refine WN.calm _ rfl rfl rfl rfl rfl (fun _ => r_assign rfl (ev_t rfl)) ?_
                      refine WN.done ?_
                      refine WX.keep [(2, _)] ⟨rfl, trivial⟩ ?_
                      refine WX.next ?_
                      refine WC.ret ?_
                      refine WX.retE1 rfl rfl ?_
                      first
                        | exact ⟨rfl, hU⟩
                        | exact ⟨by simp, hU⟩

theorem zero_row (n : Nat) : (rowCells (.int .u8 0) n).toList = (List.replicate n (0 : UInt8)).map U8 := by
  unfold rowCells
  induction n with
  | zero => rfl
  | succ n ih =>
    rw [List.replicate_succ, List.replicate_succ, List.map_cons, List.flatten_cons]
    simp only at ih ⊢
    rw [ih]
    rfl

set_option maxHeartbeats 1000000 in
theorem storeFull.walk {w : World} {pv : Value} {p : List UInt8} {n : Int} (hn : 0 ≤ n ∧ n ≤ 65535) (hp : Rd w (fun k => k < w.heap.size) pv p.length 1 (p.map U8)) :
    Ret Try.prog 8 #[pv, .int .u16 n] w fun v w' => v = .bool true ∧ Upd No w w' := by
  obtain ⟨Ap, cp, rfl, hcp⟩ := hp.slice_form
  have hpm := hp.le
  obtain ⟨hx1, hx1l⟩ := snA_ok (i := 1) (t := 7) (by omega) (by omega)
  refine enterRet (vs := [_, _]) (N := 69) Try.func8 rfl rfl rfl ?_
  have hU := Upd.refl No w
  refine WC.keep [(0, _), (1, _)] ⟨rfl, rfl, trivial⟩ ?_
  refine WC.seq ?_
  refine WC.region ?_
  refine WL.val rfl rfl rfl rfl (r_assign rfl ev_c) ?_
  refine WL.nil ?_
  refine WX.keep [(0, _), (1, _)] ⟨rfl, rfl, trivial⟩ ?_
  refine WX.next ?_
  refine WC.seq ?_
  refine WC.seq ?_
  refine WC.region ?_
  refine WL.cons (SO.call (awake15_ok _) rfl body_26 trivial rfl rfl rfl rfl ?_)
  rintro v w1 ⟨rfl, hu1⟩
  have hs1 := hu1.size
  replace hU := hU.trans hu1 (by first | exact (fun _ _ h => h) | exact (fun _ _ h => h.elim) | (intro k hl hk; (try simp only [At, New, Grow, From, No] at hk ⊢); omega) | (intro k hl hk; simp only [At, New, Grow, From, No] at *; omega))
  refine WL.val rfl rfl rfl rfl (r_not rfl (ev_t rfl)) ?_
  refine WL.val rfl rfl rfl rfl (r_move rfl (ev_t rfl)) ?_
  refine WL.cases 11 rfl (fun hb1_2 => ?_) (fun hb1_2 => ?_)
  · try (exfalso; first | (simp at hb1_2; done) | (simp only [decide_eq_true_eq, decide_eq_false_iff_not, Bool.not_eq_true', Bool.not_eq_false', Bool.not_eq_true, Bool.not_eq_false] at hb1_2; omega) | omega)
    all_goals
     try simp only [decide_eq_true_eq, decide_eq_false_iff_not, Bool.not_eq_true', Bool.not_eq_false', Bool.not_eq_true, Bool.not_eq_false, Option.isNone_none, Option.isNone_some, Option.isSome_none, Option.isSome_some, ne_eq, Decidable.not_not] at hb1_2
     refine WL.skip rfl rfl rfl ?_
     refine WL.skip rfl rfl rfl ?_
     refine WL.skip rfl rfl rfl ?_
     refine WL.val rfl rfl rfl rfl (r_pickT rfl (ev_t rfl) ev_c) ?_
     refine WL.nil ?_
     refine WX.keep [(0, _), (1, _), (15, _)] ⟨rfl, rfl, rfl, trivial⟩ ?_
     refine WX.next ?_
     refine WC.cond_true rfl (ev_t rfl) ?_
     refine WC.seq ?_
     refine WC.region ?_
     refine WL.cons (SO.call (awake15_ok _) rfl body_26 trivial rfl rfl rfl rfl ?_)
     rintro v w2 ⟨rfl, hu2⟩
     have hs2 := hu2.size
     replace hU := hU.trans hu2 (by first | exact (fun _ _ h => h) | exact (fun _ _ h => h.elim) | (intro k hl hk; (try simp only [At, New, Grow, From, No] at hk ⊢); omega) | (intro k hl hk; simp only [At, New, Grow, From, No] at *; omega))
     refine WL.val rfl rfl rfl rfl (r_assign rfl (ev_t rfl)) ?_
     refine WL.nil ?_
     refine WX.keep [(4, _)] ⟨rfl, trivial⟩ ?_
     refine WX.next ?_
     refine WC.ret ?_
     refine WX.thenRet ?_
     refine WX.retE1 rfl rfl ?_
     first
       | exact ⟨rfl, hU⟩
       | exact ⟨by simp, hU⟩
  · try (exfalso; first | (simp at hb1_2; done) | (simp only [decide_eq_true_eq, decide_eq_false_iff_not, Bool.not_eq_true', Bool.not_eq_false', Bool.not_eq_true, Bool.not_eq_false] at hb1_2; omega) | omega)
    all_goals
     try simp only [decide_eq_true_eq, decide_eq_false_iff_not, Bool.not_eq_true', Bool.not_eq_false', Bool.not_eq_true, Bool.not_eq_false, Option.isNone_none, Option.isNone_some, Option.isSome_none, Option.isSome_some, ne_eq, Decidable.not_not] at hb1_2
     refine WL.val rfl rfl rfl rfl (r_move rfl (ev_t rfl)) ?_
     refine WL.val rfl rfl rfl rfl (r_lenSlice (ts := #[]) rfl (ev_t rfl) elem_22) ?_
     refine WL.val rfl rfl rfl rfl (r_gtr rfl (ev_t rfl) ev_c) ?_
     refine WL.val rfl rfl rfl rfl (r_pickF rfl (ev_t rfl) (ev_t rfl)) ?_
     refine WL.nil ?_
     refine WX.keep [(0, _), (1, _), (15, _)] ⟨rfl, rfl, rfl, trivial⟩ ?_
     refine WX.next ?_
     refine WC.cond rfl (ev_t rfl) (fun hc1 => ?_) (fun hc1 => ?_)
     · try (exfalso; first | (simp at hc1; done) | (simp only [decide_eq_true_eq, decide_eq_false_iff_not, Bool.not_eq_true', Bool.not_eq_false', Bool.not_eq_true, Bool.not_eq_false] at hc1; omega) | omega)
       all_goals
        try simp only [decide_eq_true_eq, decide_eq_false_iff_not, Bool.not_eq_true', Bool.not_eq_false', Bool.not_eq_true, Bool.not_eq_false, Option.isNone_none, Option.isNone_some, Option.isSome_none, Option.isSome_some, ne_eq, Decidable.not_not] at hc1
        refine WC.seq ?_
        refine WC.region ?_
        refine WL.cons (SO.call (awake15_ok _) rfl body_26 trivial rfl rfl rfl rfl ?_)
        rintro v w3 ⟨rfl, hu3⟩
        have hs3 := hu3.size
        replace hU := hU.trans hu3 (by first | exact (fun _ _ h => h) | exact (fun _ _ h => h.elim) | (intro k hl hk; (try simp only [At, New, Grow, From, No] at hk ⊢); omega) | (intro k hl hk; simp only [At, New, Grow, From, No] at *; omega))
        refine WL.val rfl rfl rfl rfl (r_assign rfl (ev_t rfl)) ?_
        refine WL.nil ?_
        refine WX.keep [(4, _)] ⟨rfl, trivial⟩ ?_
        refine WX.next ?_
        refine WC.ret ?_
        refine WX.thenRet ?_
        refine WX.retE1 rfl rfl ?_
        first
          | exact ⟨rfl, hU⟩
          | exact ⟨by simp, hU⟩
     · try (exfalso; first | (simp at hc1; done) | (simp only [decide_eq_true_eq, decide_eq_false_iff_not, Bool.not_eq_true', Bool.not_eq_false', Bool.not_eq_true, Bool.not_eq_false] at hc1; omega) | omega)
       all_goals
        try simp only [decide_eq_true_eq, decide_eq_false_iff_not, Bool.not_eq_true', Bool.not_eq_false', Bool.not_eq_true, Bool.not_eq_false, Option.isNone_none, Option.isNone_some, Option.isSome_none, Option.isSome_some, ne_eq, Decidable.not_not] at hc1
        refine WC.skip ?_
        refine WX.next ?_
        refine WC.seq ?_
        refine WC.region ?_
        refine WL.cons (SO.call (open15_ok (most := 1000) (by omega)) rfl body_27 ⟨ev_c, trivial⟩ rfl rfl rfl rfl ?_)
        rintro v w4 ⟨pd, t, rfl, hs, hu4⟩
        have hs4 := hu4.size
        replace hU := hU.trans hu4 (by first | exact (fun _ _ h => h) | exact (fun _ _ h => h.elim) | (intro k hl hk; (try simp only [At, New, Grow, From, No] at hk ⊢); omega) | (intro k hl hk; simp only [At, New, Grow, From, No] at *; omega))
        refine WL.val rfl rfl rfl rfl (r_move rfl (ev_t rfl)) ?_
        refine WL.val rfl rfl rfl rfl (r_extract rfl (ev_t rfl) rfl) ?_
        refine WL.val rfl rfl rfl rfl (r_extract rfl (ev_t rfl) rfl) ?_
        refine WL.val rfl rfl rfl rfl (r_assign rfl (ev_t rfl)) ?_
        refine WL.val rfl rfl rfl rfl (r_assign rfl (ev_t rfl)) ?_
        refine WL.nil ?_
        refine WX.keep [(0, _), (1, _), (6, _)] ⟨rfl, rfl, rfl, trivial⟩ ?_
        refine WX.next ?_
        refine WC.seq ?_
        refine WC.seq ?_
        refine WC.region ?_
        refine WL.val rfl rfl rfl rfl (r_move rfl (ev_t rfl)) ?_
        refine WL.val rfl rfl rfl rfl (r_eqlPtrNil rfl (ev_t rfl) ev_c ptr_44) ?_
        refine WL.val rfl rfl rfl rfl (r_move rfl (ev_t rfl)) ?_
        refine WL.cases 23 rfl (fun hb4_2 => ?_) (fun hb4_2 => ?_)
        · try (exfalso; first | (simp at hb4_2; done) | (simp only [decide_eq_true_eq, decide_eq_false_iff_not, Bool.not_eq_true', Bool.not_eq_false', Bool.not_eq_true, Bool.not_eq_false] at hb4_2; omega) | omega)
          all_goals
           try simp only [decide_eq_true_eq, decide_eq_false_iff_not, Bool.not_eq_true', Bool.not_eq_false', Bool.not_eq_true, Bool.not_eq_false, Option.isNone_none, Option.isNone_some, Option.isSome_none, Option.isSome_some, ne_eq, Decidable.not_not] at hb4_2
           refine WL.skip rfl rfl rfl ?_
           refine WL.skip rfl rfl rfl ?_
           refine WL.skip rfl rfl rfl ?_
           refine WL.skip rfl rfl rfl ?_
           refine WL.skip rfl rfl rfl ?_
           refine WL.skip rfl rfl rfl ?_
           refine WL.val rfl rfl rfl rfl (r_pickT rfl (ev_t rfl) ev_c) ?_
           refine WL.nil ?_
           refine WX.keep [(0, _), (1, _), (6, _), (30, _)] ⟨rfl, rfl, rfl, rfl, trivial⟩ ?_
           refine WX.next ?_
           refine WC.cond_true rfl (ev_t rfl) ?_
           refine WC.seq ?_
           refine WC.region ?_
           refine WL.val rfl rfl rfl rfl (r_assign rfl ev_c) ?_
           refine WL.nil ?_
           refine WX.keep [(4, _)] ⟨rfl, trivial⟩ ?_
           refine WX.next ?_
           refine WC.ret ?_
           refine WX.thenRet ?_
           refine WX.retE1 rfl rfl ?_
           first
             | exact ⟨rfl, hU⟩
             | exact ⟨by simp, hU⟩
        · try (exfalso; first | (simp at hb4_2; done) | (simp only [decide_eq_true_eq, decide_eq_false_iff_not, Bool.not_eq_true', Bool.not_eq_false', Bool.not_eq_true, Bool.not_eq_false] at hb4_2; omega) | omega)
          all_goals
           try simp only [decide_eq_true_eq, decide_eq_false_iff_not, Bool.not_eq_true', Bool.not_eq_false', Bool.not_eq_true, Bool.not_eq_false, Option.isNone_none, Option.isNone_some, Option.isSome_none, Option.isSome_some, ne_eq, Decidable.not_not] at hb4_2
           refine WL.val rfl rfl rfl rfl (r_move rfl (ev_t rfl)) ?_
           refine WL.cons (SO.alloc rfl rfl rfl rfl (r_buildSlice1 (vs := [_]) rfl ⟨ev_c, trivial⟩ rfl row_22 rfl rfl) ?_)
           intro w5 hu5 hB5 hz5
           have hs5 := hu5.size
           replace hU := hU.trans hu5 (by first | exact (fun _ _ h => h) | exact (fun _ _ h => h.elim) | (intro k hl hk; (try simp only [At, New, Grow, From, No] at hk ⊢); omega) | (intro k hl hk; simp only [At, New, Grow, From, No] at *; omega))
           replace hs := hs.upd hu5 (by first | exact (fun _ _ _ h => h) | (intro k hk hl hS; simp only [At, New, Grow, From, No] at *; omega))
           refine WL.cons (SO.convSS rfl (ev_t rfl) elem_22 int_5 hB5 rfl rfl rfl rfl ?_)
           intro w6 z6 hu6 hF6 hz6
           have hs6 := hu6.size
           replace hU := hU.trans hu6 (by first | exact (fun _ _ h => h) | exact (fun _ _ h => h.elim) | (intro k hl hk; (try simp only [At, New, Grow, From, No] at hk ⊢); omega) | (intro k hl hk; simp only [At, New, Grow, From, No] at *; omega))
           replace hs := hs.upd hu6 (by first | exact (fun _ _ _ h => h) | (intro k hk hl hS; simp only [At, New, Grow, From, No] at *; omega))
           refine WL.val rfl rfl rfl rfl (r_build (cs := #[_, _, _]) (vs := [(0, _), (1, _), (2, _)]) rfl ⟨⟨rfl, ev_c⟩, ⟨rfl, ev_c⟩, ⟨rfl, (ev_t rfl)⟩, trivial⟩ plc_50 zero_50 rfl) ?_
           refine WL.cons (SO.call (saveSt (x := snA 1 7) (n := 1) hs (Rd.of_heap (n := 1) (sz := 1) (cs := #[.int .u8 97]) hF6 (F := At _) rfl rfl (by omega)) (fun k hk hl hR => by simp only [At, New] at hk hR; omega) hx1 rfl rfl (by decide) (by decide)) rfl body_28 ⟨(ev_t rfl), (ev_t rfl), trivial⟩ rfl rfl rfl rfl ?_)
           rintro v w7 ⟨rfl, hs, hu7⟩
           obtain ⟨D1, T1, e1, hT1, hQ, ha⟩ := save_calm (x := snA 1 7) (Quiet.new (M := 1000)) rfl hx1 (by decide) (by omega)
           rw [e1] at hs ⊢
           have hs7 := hu7.size
           replace hU := hU.trans hu7 (by first | exact (fun _ _ h => h) | exact (fun _ _ h => h.elim) | (intro k hl hk; (try simp only [At, New, Grow, From, No] at hk ⊢); omega) | (intro k hl hk; simp only [At, New, Grow, From, No] at *; omega))
           refine WL.val rfl rfl rfl rfl (r_neq rfl (ev_t rfl) ev_c) ?_
           refine WL.val rfl rfl rfl rfl (r_pickF rfl (ev_t rfl) (ev_t rfl)) ?_
           refine WL.nil ?_
           refine WX.keep [(0, _), (1, _), (6, _), (30, _)] ⟨rfl, rfl, rfl, rfl, trivial⟩ ?_
           refine WX.next ?_
           refine WC.cond rfl (ev_t rfl) (fun hc4 => ?_) (fun hc4 => ?_)
           · try (exfalso; first | (simp at hc4; done) | (simp only [decide_eq_true_eq, decide_eq_false_iff_not, Bool.not_eq_true', Bool.not_eq_false', Bool.not_eq_true, Bool.not_eq_false] at hc4; omega) | omega)
             all_goals
              try simp only [decide_eq_true_eq, decide_eq_false_iff_not, Bool.not_eq_true', Bool.not_eq_false', Bool.not_eq_true, Bool.not_eq_false, Option.isNone_none, Option.isNone_some, Option.isSome_none, Option.isSome_some, ne_eq, Decidable.not_not] at hc4
              refine WC.seq ?_
              refine WC.region ?_
              refine WL.val rfl rfl rfl rfl (r_assign rfl ev_c) ?_
              refine WL.nil ?_
              refine WX.keep [(4, _)] ⟨rfl, trivial⟩ ?_
              refine WX.next ?_
              refine WC.ret ?_
              refine WX.thenRet ?_
              refine WX.retE1 rfl rfl ?_
              first
                | exact ⟨rfl, hU⟩
                | exact ⟨by simp, hU⟩
           · try (exfalso; first | (simp at hc4; done) | (simp only [decide_eq_true_eq, decide_eq_false_iff_not, Bool.not_eq_true', Bool.not_eq_false', Bool.not_eq_true, Bool.not_eq_false] at hc4; omega) | omega)
             all_goals
              try simp only [decide_eq_true_eq, decide_eq_false_iff_not, Bool.not_eq_true', Bool.not_eq_false', Bool.not_eq_true, Bool.not_eq_false, Option.isNone_none, Option.isNone_some, Option.isSome_none, Option.isSome_some, ne_eq, Decidable.not_not] at hc4
              refine WC.skip ?_
              refine WX.next ?_
              refine WC.seq ?_
              obtain ⟨m, hm⟩ : ∃ m : Nat, n % 1200 = (m : Int) ∧ m < 1200 := ⟨(n % 1200).toNat, by omega, by omega⟩
              refine WC.region ?_
              refine WL.val rfl rfl rfl rfl (r_move rfl (ev_t rfl)) ?_
              first | refine WL.val rfl rfl rfl rfl (r_convN rfl (ev_t rfl) some_43 int_3 (by simp only [inK]; omega)) ?_ | refine WL.val rfl rfl rfl rfl (r_conv rfl (ev_t rfl) some_43 int_3) ?_
              first | refine WL.val rfl rfl rfl rfl (r_remN rfl (ev_t rfl) ev_c (by omega) (by omega)) ?_ | refine WL.val rfl rfl rfl rfl (r_rem rfl (ev_t rfl) ev_c (by omega)) ?_
              rw [hm.1]
              refine WL.cons (SO.alloc rfl rfl rfl rfl (r_makeSlice (n := m) rfl (ev_t rfl) (ev_t rfl) row_22 (by omega) (by omega)) ?_)
              intro w8 hu8 hBm hzm
              have hq := Own.of_blk (F := At _) (n := m) (sz := 1) hBm rfl (by rw [rowCells_size]; omega) (le_maxLen (by omega))
              rw [zero_row] at hq
              have hs8 := hu8.size
              replace hU := hU.trans hu8 (by first | exact (fun _ _ h => h) | exact (fun _ _ h => h.elim) | (intro k hl hk; (try simp only [At, New, Grow, From, No] at hk ⊢); omega) | (intro k hl hk; simp only [At, New, Grow, From, No] at *; omega))
              replace hs := hs.upd hu8 (by first | exact (fun _ _ _ h => h) | (intro k hk hl hS; simp only [At, New, Grow, From, No] at *; omega))
              refine WL.val rfl rfl rfl rfl (r_move rfl (ev_t rfl)) ?_
              refine WL.cons (SO.append hq (hp.upd hU (fun _ _ _ h => h)) row_22 (U8_one _) (le_maxLen (by omega)) (by omega) rfl (ev_t rfl) (ev_t rfl) rfl rfl rfl rfl ?_)
              intro v9 w9 hq hu9
              have hs9 := hu9.size
              replace hU := hU.trans hu9 (by first | exact (fun _ _ h => h) | exact (fun _ _ h => h.elim) | (intro k hl hk; (try simp only [At, New, Grow, From, No] at hk ⊢); omega) | (intro k hl hk; simp only [At, New, Grow, From, No] at *; omega))
              replace hs := hs.upd hu9 (by first | exact (fun _ _ _ h => h) | (intro k hk hl hS; simp only [At, New, Grow, From, No] at *; omega))
              obtain ⟨A9, c9, rfl, hc9⟩ := Own.form hq
              rw [← List.map_append] at hq
              obtain ⟨x, hx⟩ : ∃ x : Sn, x = ⟨2, 8, List.replicate m 0 ++ p⟩ := ⟨_, rfl⟩
              have hxd : x.data.length = m + p.length := by rw [hx]; simp
              rw [show List.replicate m (0 : UInt8) ++ p = x.data by rw [hx]] at hq
              have hxo : x.ok := by rw [hx] at hxd ⊢; exact ⟨by simp only; omega, by simp only; omega, by simp only at hxd ⊢; omega⟩
              have hxl := layB_len hxo
              obtain ⟨D2, T2, ce, e2, hce⟩ : ∃ D2 T2 ce, SS.save D1 1 T1 x = (D2, T2, ce) ∧ ((ce = 0 ∧ T2.s = x ∧ x.data.length ≤ 1000) ∨ (ce = 13 ∧ T2 = T1 ∧ 960 < x.data.length)) := by
                have hi : T1.s.idx < x.idx := by rw [hT1, hx]; simp [snA]
                by_cases hfit : (layB x).length ≤ 1000
                · obtain ⟨D2, T2, e2, h2, _, _⟩ := save_calm hQ ha hxo hi (by omega)
                  exact ⟨D2, T2, 0, e2, .inl ⟨rfl, h2, by omega⟩⟩
                · refine ⟨D1, T1, 13, ?_, .inr ⟨rfl, rfl, by omega⟩⟩
                  unfold SS.save
                  rw [if_neg (by omega), if_pos (by rw [hQ.most]; omega)]
              subst hx
              simp only at hxd
              refine WL.val rfl rfl rfl rfl (r_build (cs := #[_, _, _]) (vs := [(0, _), (1, _), (2, _)]) rfl ⟨⟨rfl, ev_c⟩, ⟨rfl, ev_c⟩, ⟨rfl, (ev_t rfl)⟩, trivial⟩ plc_50 zero_50 rfl) ?_
              refine WL.cons (SO.alloc rfl rfl rfl rfl (r_alloc rfl zero_50) ?_)
              intro w10 hu10 hB10 hz10
              have hs10 := hu10.size
              replace hU := hU.trans hu10 (by first | exact (fun _ _ h => h) | exact (fun _ _ h => h.elim) | (intro k hl hk; (try simp only [At, New, Grow, From, No] at hk ⊢); omega) | (intro k hl hk; simp only [At, New, Grow, From, No] at *; omega))
              replace hs := hs.upd hu10 (by first | exact (fun _ _ _ h => h) | (intro k hk hl hS; simp only [At, New, Grow, From, No] at *; omega))
              replace hq := hq.upd hu10 (by first | exact (fun _ _ _ h => h) | (intro k hk hl hS; simp only [At, New, Grow, From, No] at *; omega))
              refine WL.cons (SO.storeAll (us := [_, _, _]) rfl (ev_t rfl) (ev_t rfl) size_50 hB10 rfl rfl rfl rfl rfl ?_)
              intro w11 hu11 hB10 hz11
              have hs11 := hu11.size
              replace hU := hU.trans hu11 (by first | exact (fun _ _ h => h) | exact (fun _ _ h => h.elim) | (intro k hl hk; (try simp only [At, New, Grow, From, No] at hk ⊢); omega) | (intro k hl hk; simp only [At, New, Grow, From, No] at *; omega))
              replace hs := hs.upd hu11 (by first | exact (fun _ _ _ h => h) | (intro k hk hl hS; simp only [At, New, Grow, From, No] at *; omega))
              replace hq := hq.upd hu11 (by first | exact (fun _ _ _ h => h) | (intro k hk hl hS; simp only [At, New, Grow, From, No] at *; omega))
              refine WL.nil ?_
              refine WX.keep [(6, _), (7, _)] ⟨rfl, rfl, trivial⟩ ?_
              refine WX.next ?_
              refine WC.seq ?_
              refine WC.region ?_
              refine WL.val rfl rfl rfl rfl (r_move rfl (ev_t rfl)) ?_
              refine WL.val rfl rfl rfl rfl (r_loadAgg (vs := [_, _, _]) rfl (ev_t rfl) agg_50 size_50 (Blk.cellsL hB10)) ?_
              refine WL.cons (SO.call (saveSt (x := ⟨2, 8, List.replicate m 0 ++ p⟩) (dv := .slice A9 (m + p.length) c9) hs (hq.rd (by omega)) (fun k hk hl hR => by simp only [At, New, Grow] at hk hR; omega) hxo hQ.len hQ.off hQ.side hQ.armed) rfl body_28 ⟨(ev_t rfl), (ev_t rfl), trivial⟩ rfl rfl rfl rfl ?_)
              clear hs
              rintro v w12 ⟨rfl, hs, hu12⟩
              rw [e2] at hs ⊢
              have hs12 := hu12.size
              replace hU := hU.trans hu12 (by first | exact (fun _ _ h => h) | exact (fun _ _ h => h.elim) | (intro k hl hk; (try simp only [At, New, Grow, From, No] at hk ⊢); omega) | (intro k hl hk; simp only [At, New, Grow, From, No] at *; omega))
              replace hq := hq.upd hu12 (by first | exact (fun _ _ _ h => h) | (intro k hk hl hS; simp only [At, New, Grow, From, No] at *; omega))
              replace hB10 := hB10.updA hu12
              refine WL.val rfl rfl rfl rfl (r_assign rfl (ev_t rfl)) ?_
              refine WL.nil ?_
              refine WX.keep [(6, _), (7, _), (8, _)] ⟨rfl, rfl, rfl, trivial⟩ ?_
              refine WX.next ?_
              refine WC.seq ?_
              refine WC.seq ?_
              refine WC.region ?_
              refine WL.val rfl rfl rfl rfl (r_move rfl (ev_t rfl)) ?_
              refine WL.val rfl rfl rfl rfl (r_eql rfl (ev_t rfl) ev_c) ?_
              refine WL.nil ?_
              refine WX.keep [(6, _), (7, _), (8, _), (42, _)] ⟨rfl, rfl, rfl, rfl, trivial⟩ ?_
              refine WX.next ?_
              refine WC.cond rfl (ev_t rfl) (fun hc8 => ?_) (fun hc8 => ?_)
              · try (exfalso; first | (simp at hc8; done) | (simp only [decide_eq_true_eq, decide_eq_false_iff_not, Bool.not_eq_true', Bool.not_eq_false', Bool.not_eq_true, Bool.not_eq_false] at hc8; omega) | omega)
                all_goals
                 try simp only [decide_eq_true_eq, decide_eq_false_iff_not, Bool.not_eq_true', Bool.not_eq_false', Bool.not_eq_true, Bool.not_eq_false, Option.isNone_none, Option.isNone_some, Option.isSome_none, Option.isSome_some, ne_eq, Decidable.not_not] at hc8
                 obtain ⟨hT2, hdl⟩ : T2.s = ⟨2, 8, List.replicate m 0 ++ p⟩ ∧ m + p.length ≤ 1000 := by
                   rcases hce with ⟨_, h1, h2⟩ | ⟨h1, _⟩
                   · exact ⟨h1, by simp only at h2; omega⟩
                   · omega
                 refine WC.seq ?_
                 refine WC.draws' (fun u0_ u1_ => Upd No u0_ u1_) (fun j => [0, 1, 0, 0, 0, 0, 1, 0, 2, 0, 0].getD j 0) (.calm 0 (.one 1 (.calm 2 (.calm 3 (.calm 4 (.calm 5 (.held 7 (.one 6 (.one 8 (.calm 9 (.calm 10 (.done)))))))))))) mixed (by kernel_rfl) (by repeat (first | with_reducible exact Deaf.body | with_reducible apply Deaf.then | with_reducible apply Deaf.block)) ?_
                 intro w13 hu13
                 have hz13 := congrArg Array.size hu13.2.2.2
                 replace hu13 := Upd.of_draw hu13
                 have hs13 := hu13.size
                 replace hU := hU.trans hu13 (by first | exact (fun _ _ h => h) | exact (fun _ _ h => h.elim) | (intro k hl hk; (try simp only [At, New, Grow, From, No] at hk ⊢); omega) | (intro k hl hk; simp only [At, New, Grow, From, No] at *; omega))
                 replace hs := hs.upd hu13 (by first | exact (fun _ _ _ h => h) | (intro k hk hl hS; simp only [At, New, Grow, From, No] at *; omega))
                 replace hq := hq.upd hu13 (by first | exact (fun _ _ _ h => h) | (intro k hk hl hS; simp only [At, New, Grow, From, No] at *; omega))
                 replace hB10 := hB10.updA hu13
                 have hS9 := Upd.refl No w13
                 first | refine WN.calm _ rfl rfl rfl rfl rfl (fun _ => r_field0 rfl (ev_t rfl) fld_50_2) ?_ | refine WN.calm _ rfl rfl rfl rfl rfl (fun _ => r_fieldAt rfl (ev_t rfl) fld_50_2) ?_
                 refine WN.step _ rfl (SO.val rfl rfl rfl rfl (r_load rfl (ev_t rfl) flat_22 (Blk.cell hB10 rfl)) ?_)
                 refine ⟨hS9, ?_⟩
                 refine WN.calm _ rfl rfl rfl rfl rfl (fun _ => r_lenSlice (ts := #[]) rfl (ev_t rfl) elem_22) ?_
                 refine WN.calm _ rfl rfl rfl rfl rfl (fun _ => r_leq rfl (ev_t rfl) ev_c) ?_
                 refine WN.calm _ rfl rfl rfl rfl rfl (fun _ => r_move rfl (ev_t rfl)) ?_
                 refine WN.cases 47 rfl (fun hb9_4 => ?_) (fun hb9_4 => ?_)
                 · try (exfalso; first | (simp at hb9_4; done) | (simp only [decide_eq_true_eq, decide_eq_false_iff_not, Bool.not_eq_true', Bool.not_eq_false', Bool.not_eq_true, Bool.not_eq_false] at hb9_4; omega) | omega)
                   all_goals
                    try simp only [decide_eq_true_eq, decide_eq_false_iff_not, Bool.not_eq_true', Bool.not_eq_false', Bool.not_eq_true, Bool.not_eq_false, Option.isNone_none, Option.isNone_some, Option.isSome_none, Option.isSome_some, ne_eq, Decidable.not_not] at hb9_4
                    refine WN.calm _ rfl rfl rfl rfl rfl (fun _ => r_move rfl (ev_t rfl)) ?_
                    refine WN.held _ rfl rfl rfl rfl rfl hS9 (fun w' hS => r_loadAgg (vs := [_, _, _]) rfl (ev_t rfl) agg_50 size_50 (Blk.cellsL (hB10.upd hS (fun h => h)))) ?_
                    refine WN.step _ rfl (SO.call (snapSt hs) rfl body_30 ⟨(ev_t rfl), trivial⟩ rfl rfl rfl rfl ?_)
                    rintro v w14 ⟨As, cs, rfl, hsn, hu14⟩
                    rw [hT2] at hsn ⊢
                    have hs14 := hu14.size
                    replace hS9 := Upd.transA hS9 hu14
                    replace hU := hU.trans hu14 (by first | exact (fun _ _ h => h) | exact (fun _ _ h => h.elim) | (intro k hl hk; (try simp only [At, New, Grow, From, No] at hk ⊢); omega) | (intro k hl hk; simp only [At, New, Grow, From, No] at *; omega))
                    replace hs := hs.upd hu14 (by first | exact (fun _ _ _ h => h) | (intro k hk hl hS; simp only [At, New, Grow, From, No] at *; omega))
                    replace hq := hq.upd hu14 (by first | exact (fun _ _ _ h => h) | (intro k hk hl hS; simp only [At, New, Grow, From, No] at *; omega))
                    replace hB10 := hB10.updA hu14
                    refine ⟨hS9, ?_⟩
                    refine WN.step _ rfl (SO.call (same_ok (a := ⟨2, 8, List.replicate m 0 ++ p⟩) (b := ⟨2, 8, List.replicate m 0 ++ p⟩) (hsn.rd (by simp; omega)) (hq.rd (by omega))) rfl body_29 ⟨(ev_t rfl), (ev_t rfl), trivial⟩ rfl rfl rfl rfl ?_)
                    rintro v w15 ⟨rfl, hu15⟩
                    have hs15 := hu15.size
                    try replace hS9 := Upd.transA hS9 hu15
                    replace hU := hU.trans hu15 (by first | exact (fun _ _ h => h) | exact (fun _ _ h => h.elim) | (intro k hl hk; (try simp only [At, New, Grow, From, No] at hk ⊢); omega) | (intro k hl hk; simp only [At, New, Grow, From, No] at *; omega))
                    replace hs := hs.upd hu15 (by first | exact (fun _ _ _ h => h) | (intro k hk hl hS; simp only [At, New, Grow, From, No] at *; omega))
                    replace hq := hq.upd hu15 (by first | exact (fun _ _ _ h => h) | (intro k hk hl hS; simp only [At, New, Grow, From, No] at *; omega))
                    replace hB10 := hB10.updA hu15
                    replace hsn := hsn.upd hu15 (by first | exact (fun _ _ _ h => h) | (intro k hk hl hS; simp only [At, New, Grow, From, No] at *; omega))
                    refine ⟨trivial, ?_⟩
                    refine WN.calm _ rfl rfl rfl rfl rfl (fun _ => r_pickT rfl (ev_t rfl) (ev_t rfl)) ?_
                    refine WN.calm _ rfl rfl rfl rfl rfl (fun _ => r_assign rfl (ev_t rfl)) ?_
                    refine WN.done ?_
                    refine WX.keep [(4, _)] ⟨rfl, trivial⟩ ?_
                    refine WX.next ?_
                    refine WC.ret ?_
                    refine WX.thenRet ?_
                    refine WX.retE1 rfl rfl ?_
                    first
                      | exact ⟨rfl, hU⟩
                      | exact ⟨by simp, hU⟩
                 · try (exfalso; first | (simp at hb9_4; done) | (simp only [decide_eq_true_eq, decide_eq_false_iff_not, Bool.not_eq_true', Bool.not_eq_false', Bool.not_eq_true, Bool.not_eq_false] at hb9_4; omega) | omega)
                   all_goals
                    try simp only [decide_eq_true_eq, decide_eq_false_iff_not, Bool.not_eq_true', Bool.not_eq_false', Bool.not_eq_true, Bool.not_eq_false, Option.isNone_none, Option.isNone_some, Option.isSome_none, Option.isSome_some, ne_eq, Decidable.not_not] at hb9_4
                    refine WN.skip _ rfl rfl rfl rfl ?_
                    refine WN.heldSkip _ rfl rfl rfl rfl hS9 ?_
                    refine WN.step _ rfl (SO.skip rfl rfl rfl ?_)
                    refine ⟨hS9, ?_⟩
                    refine WN.step _ rfl (SO.skip rfl rfl rfl ?_)
                    refine ⟨trivial, ?_⟩
                    refine WN.calm _ rfl rfl rfl rfl rfl (fun _ => r_pickF rfl (ev_t rfl) ev_c) ?_
                    refine WN.calm _ rfl rfl rfl rfl rfl (fun _ => r_assign rfl (ev_t rfl)) ?_
                    refine WN.done ?_
                    refine WX.keep [(4, _)] ⟨rfl, trivial⟩ ?_
                    refine WX.next ?_
                    refine WC.ret ?_
                    refine WX.thenRet ?_
                    refine WX.retE1 rfl rfl ?_
                    first
                      | exact ⟨rfl, hU⟩
                      | exact ⟨by simp, hU⟩
              · try (exfalso; first | (simp at hc8; done) | (simp only [decide_eq_true_eq, decide_eq_false_iff_not, Bool.not_eq_true', Bool.not_eq_false', Bool.not_eq_true, Bool.not_eq_false] at hc8; omega) | omega)
                all_goals
                 try simp only [decide_eq_true_eq, decide_eq_false_iff_not, Bool.not_eq_true', Bool.not_eq_false', Bool.not_eq_true, Bool.not_eq_false, Option.isNone_none, Option.isNone_some, Option.isSome_none, Option.isSome_some, ne_eq, Decidable.not_not] at hc8
                 obtain ⟨hce1, hT2, hdl⟩ : ce = 13 ∧ T2 = T1 ∧ 960 < m + p.length := by
                   rcases hce with ⟨h1, _⟩ | ⟨h1, h2, h3⟩
                   · omega
                   · exact ⟨h1, h2, by simp only at h3; omega⟩
                 subst hce1 hT2
                 refine WC.skip ?_
                 refine WX.next ?_
                 refine WC.seq ?_
                 refine WC.region ?_
                 refine WL.val rfl rfl rfl rfl (r_move rfl (ev_t rfl)) ?_
                 refine WL.val rfl rfl rfl rfl (r_eql rfl (ev_t rfl) ev_c) ?_
                 refine WL.val rfl rfl rfl rfl (r_move rfl (ev_t rfl)) ?_
                 refine WL.cases 55 rfl (fun hb10_2 => ?_) (fun hb10_2 => ?_)
                 · try (exfalso; first | (simp at hb10_2; done) | (simp only [decide_eq_true_eq, decide_eq_false_iff_not, Bool.not_eq_true', Bool.not_eq_false', Bool.not_eq_true, Bool.not_eq_false] at hb10_2; omega) | omega)
                   all_goals
                    try simp only [decide_eq_true_eq, decide_eq_false_iff_not, Bool.not_eq_true', Bool.not_eq_false', Bool.not_eq_true, Bool.not_eq_false, Option.isNone_none, Option.isNone_some, Option.isSome_none, Option.isSome_some, ne_eq, Decidable.not_not] at hb10_2
                    first | refine WL.val rfl rfl rfl rfl (r_field0 rfl (ev_t rfl) fld_50_2) ?_ | refine WL.val rfl rfl rfl rfl (r_fieldAt rfl (ev_t rfl) fld_50_2) ?_
                    refine WL.val rfl rfl rfl rfl (r_load rfl (ev_t rfl) flat_22 (Blk.cell hB10 rfl)) ?_
                    refine WL.val rfl rfl rfl rfl (r_lenSlice (ts := #[]) rfl (ev_t rfl) elem_22) ?_
                    refine WL.val rfl rfl rfl rfl (r_gtr rfl (ev_t rfl) ev_c) ?_
                    refine WL.val rfl rfl rfl rfl (r_pickT rfl (ev_t rfl) (ev_t rfl)) ?_
                    refine WL.val rfl rfl rfl rfl (r_move rfl (ev_t rfl)) ?_
                    refine WL.cases 61 rfl (fun hb10_8 => ?_) (fun hb10_8 => ?_)
                    · try (exfalso; first | (simp at hb10_8; done) | (simp only [decide_eq_true_eq, decide_eq_false_iff_not, Bool.not_eq_true', Bool.not_eq_false', Bool.not_eq_true, Bool.not_eq_false] at hb10_8; omega) | omega)
                      all_goals
                       try simp only [decide_eq_true_eq, decide_eq_false_iff_not, Bool.not_eq_true', Bool.not_eq_false', Bool.not_eq_true, Bool.not_eq_false, Option.isNone_none, Option.isNone_some, Option.isSome_none, Option.isSome_some, ne_eq, Decidable.not_not] at hb10_8
                       refine WL.val rfl rfl rfl rfl (r_move rfl (ev_t rfl)) ?_
                       refine WL.cons (SO.call (snapSt hs) rfl body_30 ⟨(ev_t rfl), trivial⟩ rfl rfl rfl rfl ?_)
                       rintro v w16 ⟨As, cs, rfl, hsn, hu16⟩
                       rw [hT1] at hsn ⊢
                       have hs16 := hu16.size
                       replace hU := hU.trans hu16 (by first | exact (fun _ _ h => h) | exact (fun _ _ h => h.elim) | (intro k hl hk; (try simp only [At, New, Grow, From, No] at hk ⊢); omega) | (intro k hl hk; simp only [At, New, Grow, From, No] at *; omega))
                       replace hs := hs.upd hu16 (by first | exact (fun _ _ _ h => h) | (intro k hk hl hS; simp only [At, New, Grow, From, No] at *; omega))
                       replace hq := hq.upd hu16 (by first | exact (fun _ _ _ h => h) | (intro k hk hl hS; simp only [At, New, Grow, From, No] at *; omega))
                       replace hB10 := hB10.updA hu16
                       refine WL.cons (SO.alloc rfl rfl rfl rfl (r_buildSlice1 (vs := [_]) rfl ⟨ev_c, trivial⟩ rfl row_22 rfl rfl) ?_)
                       intro w17 hu17 hB17 hz17
                       have hs17 := hu17.size
                       replace hU := hU.trans hu17 (by first | exact (fun _ _ h => h) | exact (fun _ _ h => h.elim) | (intro k hl hk; (try simp only [At, New, Grow, From, No] at hk ⊢); omega) | (intro k hl hk; simp only [At, New, Grow, From, No] at *; omega))
                       replace hs := hs.upd hu17 (by first | exact (fun _ _ _ h => h) | (intro k hk hl hS; simp only [At, New, Grow, From, No] at *; omega))
                       replace hq := hq.upd hu17 (by first | exact (fun _ _ _ h => h) | (intro k hk hl hS; simp only [At, New, Grow, From, No] at *; omega))
                       replace hB10 := hB10.updA hu17
                       replace hsn := hsn.upd hu17 (by first | exact (fun _ _ _ h => h) | (intro k hk hl hS; simp only [At, New, Grow, From, No] at *; omega))
                       refine WL.cons (SO.convSS rfl (ev_t rfl) elem_22 int_5 hB17 rfl rfl rfl rfl ?_)
                       intro w18 z18 hu18 hF18 hz18
                       have hs18 := hu18.size
                       replace hU := hU.trans hu18 (by first | exact (fun _ _ h => h) | exact (fun _ _ h => h.elim) | (intro k hl hk; (try simp only [At, New, Grow, From, No] at hk ⊢); omega) | (intro k hl hk; simp only [At, New, Grow, From, No] at *; omega))
                       replace hs := hs.upd hu18 (by first | exact (fun _ _ _ h => h) | (intro k hk hl hS; simp only [At, New, Grow, From, No] at *; omega))
                       replace hq := hq.upd hu18 (by first | exact (fun _ _ _ h => h) | (intro k hk hl hS; simp only [At, New, Grow, From, No] at *; omega))
                       replace hB10 := hB10.updA hu18
                       replace hsn := hsn.upd hu18 (by first | exact (fun _ _ _ h => h) | (intro k hk hl hS; simp only [At, New, Grow, From, No] at *; omega))
                       refine WL.val rfl rfl rfl rfl (r_build (cs := #[_, _, _]) (vs := [(0, _), (1, _), (2, _)]) rfl ⟨⟨rfl, ev_c⟩, ⟨rfl, ev_c⟩, ⟨rfl, (ev_t rfl)⟩, trivial⟩ plc_50 zero_50 rfl) ?_
                       refine WL.cons (SO.call (same_ok (a := snA 1 7) (b := snA 1 7) (n := 1) (m := 1) (hsn.rd (by decide)) (Rd.of_heap (F := At _) (n := 1) (sz := 1) (cs := #[.int .u8 97]) hF18 rfl rfl (by omega))) rfl body_29 ⟨(ev_t rfl), (ev_t rfl), trivial⟩ rfl rfl rfl rfl ?_)
                       rintro v w19 ⟨rfl, hu19⟩
                       have hs19 := hu19.size
                       replace hU := hU.trans hu19 (by first | exact (fun _ _ h => h) | exact (fun _ _ h => h.elim) | (intro k hl hk; (try simp only [At, New, Grow, From, No] at hk ⊢); omega) | (intro k hl hk; simp only [At, New, Grow, From, No] at *; omega))
                       replace hs := hs.upd hu19 (by first | exact (fun _ _ _ h => h) | (intro k hk hl hS; simp only [At, New, Grow, From, No] at *; omega))
                       replace hq := hq.upd hu19 (by first | exact (fun _ _ _ h => h) | (intro k hk hl hS; simp only [At, New, Grow, From, No] at *; omega))
                       replace hB10 := hB10.updA hu19
                       replace hsn := hsn.upd hu19 (by first | exact (fun _ _ _ h => h) | (intro k hk hl hS; simp only [At, New, Grow, From, No] at *; omega))
                       refine WL.val rfl rfl rfl rfl (r_pickT rfl (ev_t rfl) (ev_t rfl)) ?_
                       refine WL.val rfl rfl rfl rfl (r_assign rfl (ev_t rfl)) ?_
                       refine WL.nil ?_
                       refine WX.keep [(4, _)] ⟨rfl, trivial⟩ ?_
                       refine WX.next ?_
                       refine WC.ret ?_
                       refine WX.retE1 rfl rfl ?_
                       first
                         | exact ⟨rfl, hU⟩
                         | exact ⟨by simp, hU⟩
                    · try (exfalso; first | (simp at hb10_8; done) | (simp only [decide_eq_true_eq, decide_eq_false_iff_not, Bool.not_eq_true', Bool.not_eq_false', Bool.not_eq_true, Bool.not_eq_false] at hb10_8; omega) | omega)
                      all_goals
                       try simp only [decide_eq_true_eq, decide_eq_false_iff_not, Bool.not_eq_true', Bool.not_eq_false', Bool.not_eq_true, Bool.not_eq_false, Option.isNone_none, Option.isNone_some, Option.isSome_none, Option.isSome_some, ne_eq, Decidable.not_not] at hb10_8
                       refine WL.skip rfl rfl rfl ?_
                       refine WL.skip rfl rfl rfl ?_
                       refine WL.skip rfl rfl rfl ?_
                       refine WL.skip rfl rfl rfl ?_
                       refine WL.skip rfl rfl rfl ?_
                       refine WL.skip rfl rfl rfl ?_
                       refine WL.val rfl rfl rfl rfl (r_pickF rfl (ev_t rfl) ev_c) ?_
                       refine WL.val rfl rfl rfl rfl (r_assign rfl (ev_t rfl)) ?_
                       refine WL.nil ?_
                       refine WX.keep [(4, _)] ⟨rfl, trivial⟩ ?_
                       refine WX.next ?_
                       refine WC.ret ?_
                       refine WX.retE1 rfl rfl ?_
                       first
                         | exact ⟨rfl, hU⟩
                         | exact ⟨by simp, hU⟩
                 · try (exfalso; first | (simp at hb10_2; done) | (simp only [decide_eq_true_eq, decide_eq_false_iff_not, Bool.not_eq_true', Bool.not_eq_false', Bool.not_eq_true, Bool.not_eq_false] at hb10_2; omega) | omega)
                   all_goals
                    try simp only [decide_eq_true_eq, decide_eq_false_iff_not, Bool.not_eq_true', Bool.not_eq_false', Bool.not_eq_true, Bool.not_eq_false, Option.isNone_none, Option.isNone_some, Option.isSome_none, Option.isSome_some, ne_eq, Decidable.not_not] at hb10_2
                    refine WL.skip rfl rfl rfl ?_
                    refine WL.skip rfl rfl rfl ?_
                    refine WL.skip rfl rfl rfl ?_
                    refine WL.skip rfl rfl rfl ?_
                    refine WL.val rfl rfl rfl rfl (r_pickF rfl (ev_t rfl) ev_c) ?_
                    refine WL.val rfl rfl rfl rfl (r_move rfl (ev_t rfl)) ?_
                    refine WL.skip rfl rfl rfl ?_
                    refine WL.skip rfl rfl rfl ?_
                    refine WL.skip rfl rfl rfl ?_
                    refine WL.skip rfl rfl rfl ?_
                    refine WL.skip rfl rfl rfl ?_
                    refine WL.skip rfl rfl rfl ?_
                    refine WL.val rfl rfl rfl rfl (r_pickF rfl (ev_t rfl) ev_c) ?_
                    refine WL.val rfl rfl rfl rfl (r_assign rfl (ev_t rfl)) ?_
                    refine WL.nil ?_
                    refine WX.keep [(4, _)] ⟨rfl, trivial⟩ ?_
                    refine WX.next ?_
                    refine WC.ret ?_
                    refine WX.retE1 rfl rfl ?_
                    first
                      | exact ⟨rfl, hU⟩
                      | exact ⟨by simp, hU⟩
end Go.Proofs.Ytejlmcdmoghmaaa
