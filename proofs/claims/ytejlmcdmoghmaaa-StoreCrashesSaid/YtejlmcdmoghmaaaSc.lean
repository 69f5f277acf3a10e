/-
  law 15: whole or not at all.
-/
import Derived.Test.YtejlmcdmoghmaaaSy
namespace Go.Proofs.Ytejlmcdmoghmaaa
open Go
set_option linter.unusedSimpArgs false
set_option linter.unusedVariables false

/-- a snapshot in the block g, its bytes in none of X -/
def SnapAt (w : World) (X : Nat → Prop) (g : Nat) (s : Sn) : Prop := ∃ A n c FS, Blk w g #[.int .u64 (s.idx : Int), .int .u64 (s.term : Int), .slice A n c] 50 ∧ Rd w FS (.slice A n c) n 1 (s.data.map U8) ∧ ∀ k, FS k → ¬ X k ∧ k < w.heap.size
theorem SnapAt.upd {w w' : World} {X S : Nat → Prop} {g : Nat} {s : Sn} (h : SnapAt w X g s) (hu : Upd S w w') (hg : ¬ S g) (hX : ∀ k, S k → k < w.heap.size → X k) : SnapAt w' X g s := by
  obtain ⟨A, n, c, FS, hb, hr, hF⟩ := h
  exact ⟨A, n, c, FS, hb.upd hu hg, hr.upd hu (fun k hk hl hS => (hF k hk).1 (hX k hS hl)), fun k hk => ⟨(hF k hk).1, Nat.lt_of_lt_of_le (hF k hk).2 hu.size⟩⟩
theorem SnapAt.mono {w : World} {X X' : Nat → Prop} {g : Nat} {s : Sn} (h : SnapAt w X g s) (hX : ∀ k, k < w.heap.size → X' k → X k) : SnapAt w X' g s := by
  obtain ⟨A, n, c, FS, hb, hr, hF⟩ := h
  exact ⟨A, n, c, FS, hb, hr, fun k hk => ⟨fun hx => (hF k hk).1 (hX k (hF k hk).2 hx), (hF k hk).2⟩⟩

def Case15 (w : World) (R : Nat → Prop) (p t : Nat) (D : DS) (s n : Sn) (e : Nat) : Prop :=
  (e = 0 ∧ ∃ T, Quiet 20000 D T ∧ St w R p t D T ∧ T.s = n) ∨ (e = 12 ∧ ∃ T x, Falls D T x ∧ IsD w R p D ∧ T.s = s ∧ (x = n ∨ x.idx = 0)) ∨ (e = 16 ∧ ∃ T, Quiet 20000 D T ∧ St w R p t D T ∧ T.s = s)
def Case25 (w : World) (R : Nat → Prop) (p t : Nat) (D : DS) (s n : Sn) (e : Nat) : Prop :=
  ((e = 0 ∨ e = 16) ∧ ∃ T, Quiet 20000 D T ∧ St w R p t D T ∧ T.s = s) ∨ (e = 12 ∧ ∃ T x, Falls D T x ∧ IsD w R p D ∧ T.s = s ∧ (x = n ∨ x.idx = 0))
theorem Case25.upd {w w' : World} {R S : Nat → Prop} {p t : Nat} {D : DS} {s n : Sn} {e : Nat} (h : Case25 w R p t D s n e) (hu : Upd S w w') (hn : ∀ k, R k → k < w.heap.size → ¬ S k) : Case25 w' R p t D s n e := by
  rcases h with ⟨h1, T, h2, h3, h4⟩ | ⟨h1, T, x, h2, h3, h4⟩
  · exact .inl ⟨h1, T, h2, h3.upd hu hn, h4⟩
  · exact .inr ⟨h1, T, x, h2, h3.upd hu hn, h4⟩
theorem Case15.upd {w w' : World} {R S : Nat → Prop} {p t : Nat} {D : DS} {s n : Sn} {e : Nat} (h : Case15 w R p t D s n e) (hu : Upd S w w') (hn : ∀ k, R k → k < w.heap.size → ¬ S k) : Case15 w' R p t D s n e := by
  rcases h with ⟨h1, T, h2, h3, h4⟩ | ⟨h1, T, x, h2, h3, h4⟩ | ⟨h1, T, h2, h3, h4⟩
  · exact .inl ⟨h1, T, h2, h3.upd hu hn, h4⟩
  · exact .inr (.inl ⟨h1, T, x, h2, h3.upd hu hn, h4⟩)
  · exact .inr (.inr ⟨h1, T, h2, h3.upd hu hn, h4⟩)

def X3 (R : Nat → Prop) (a b c : Nat) : Nat → Prop := fun k => R k ∨ k = a ∨ k = b ∨ k = c
theorem SnapAt.grow {w w' : World} {R : Nat → Prop} {a b c g : Nat} {s : Sn} (h : SnapAt w (X3 R a b c) g s) (hu : Upd R w w') (hg : ¬ R g) (ha : a < w.heap.size) (hb : b < w.heap.size) (hc : c < w.heap.size) : SnapAt w' (X3 (Grow R w w') a b c) g s := by
  obtain ⟨A, n, c', FS, hb', hr, hF⟩ := h
  refine ⟨A, n, c', FS, hb'.upd hu hg, hr.upd hu (fun k hk hl hS => (hF k hk).1 (.inl hS)), fun k hk => ⟨?_, Nat.lt_of_lt_of_le (hF k hk).2 hu.size⟩⟩
  have h1 := hF k hk
  rintro (⟨h | h⟩ | h)
  · exact h1.1 (.inl h)
  · exact absurd h.1 (Nat.not_le_of_gt h1.2)
  · exact h1.1 (.inr h)
theorem Case25.start {w : World} {R : Nat → Prop} {p t : Nat} {D : DS} {s n : Sn} {e : Nat} (h : Case25 w R p t D s n e) : (e = 0 ∨ e = 12 ∨ e = 16) ∧ ∃ T x, Falls D T x ∧ IsD w R p D ∧ T.s = s ∧ (x = n ∨ x.idx = 0) := by
  rcases h with ⟨h1, T, h2, h3, h4⟩ | ⟨h1, T, x, h2, h3, h4⟩
  · exact ⟨by omega, T, sn0, h2.falls, h3.drum, h4, .inr rfl⟩
  · exact ⟨by omega, T, x, h2, h3, h4⟩
theorem armD {w : World} {R : Nat → Prop} {p : Nat} {D : DS} {n : Int} (h : IsD w R p D) (hn : 0 ≤ n ∧ n ≤ 1000) :
    Ret Try.prog 21 #[.pointer (some ⟨p, 0, none⟩), .int .i64 n] w fun v w' => v = .int .i64 0 ∧ IsD w' R p { D with armed := n } ∧ Upd R w w' := by
  refine Ret.mono (Arm_ok h (n := n) (by simp only [inK]; omega)) ?_
  rintro v w' ⟨hv, hd, hu⟩
  rw [if_neg (by omega)] at hv hd
  exact ⟨hv, hd, hu⟩
/-- opening anew after a fall -/
theorem openCase {w : World} {R : Nat → Prop} {p : Nat} {D : DS} {T : SS} {x n : Sn} (h : IsD w R p D) (hR : ∀ k, R k → k < w.heap.size) (hH : Half 20000 D T x) (hoff : D.off = false) (hx : x = n ∨ x.idx = 0) :
    Ret Try.prog 32 #[.pointer (some ⟨p, 0, none⟩), .int .i64 1] w fun v w' => ∃ (tv : Value) (e : Nat), v = .tuple #[tv, .int .i64 (e : Int)] ∧ Upd R w w' ∧ (D.armed = 0 → e = 0) ∧
      ((e = 0 ∧ ∃ t D' T', tv = .pointer (some ⟨t, 0, none⟩) ∧ Quiet 20000 D' T' ∧ St w' (Grow R w w') p t D' T' ∧ (T'.s = T.s ∨ T'.s = n)) ∨ (e = 12 ∧ ∃ D', Falls D' T x ∧ IsD w' (Grow R w w') p D')) := by
  obtain ⟨h1, h2⟩ := open_half hH hoff
  refine Ret.mono (openSt h hR hH.len hoff) ?_
  rintro v w' ⟨hu, hc⟩
  rcases hc with ⟨h0, rfl, hd⟩ | ⟨h0, t, rfl, hs⟩
  · refine ⟨_, _, rfl, hu, fun ha => (h1 ha).1, .inr ?_⟩
    rcases h2 with ⟨h3, _⟩ | ⟨h3, h4⟩
    · exact absurd h3 h0
    · exact ⟨h3, _, h4.falls, hd⟩
  · refine ⟨_, 0, rfl, hu, fun _ => rfl, .inl ⟨rfl, t, _, _, rfl, ?_, hs, ?_⟩⟩
    · rcases h2 with ⟨_, h4, _⟩ | ⟨h3, _⟩
      · exact h4
      · omega
    · rcases h2 with ⟨_, _, h5 | ⟨h5, h6⟩⟩ | ⟨h3, _⟩
      · exact .inl (by rw [h5])
      · exact .inr (by rw [h5]; exact hx.resolve_right (by omega))
      · omega

set_option maxHeartbeats 8000000 in
theorem storeCrashes.walk {w : World} {sv : Value} {l : List ActS} (hs0 : Rd w (fun k => k < w.heap.size) sv l.length 7 (l.flatMap ActS.cells)) (hA : ∀ a ∈ l, a.OK w) :
    Ret Try.prog 11 #[sv] w fun v w' => v = .bool true ∧ Upd No w w' := by
  obtain ⟨Al, cl, rfl, hcl⟩ := hs0.slice_form
  have hlm := hs0.le
  refine enterRet (vs := [_]) (N := 145) Try.func11 rfl rfl rfl ?_
  have hU := Upd.refl No w
  refine WC.keep [(0, _)] ⟨rfl, trivial⟩ ?_
  refine WC.seq ?_
  refine WC.region ?_
  refine WL.val rfl rfl rfl rfl (r_assign rfl ev_c) ?_
  refine WL.nil ?_
  refine WX.keep [(0, _)] ⟨rfl, trivial⟩ ?_
  refine WX.next ?_
  refine WC.seq ?_
  refine WC.seq ?_
  refine WC.region ?_
  refine WL.cons (SO.call (awake15_ok _) rfl body_26 trivial rfl rfl rfl rfl ?_)
  rintro v w1 ⟨rfl, hu1⟩
  have hs1 := hu1.size
  replace hU := hU.trans hu1 (by first | exact (fun _ _ h => h) | exact (fun _ _ h => h.elim) | (intro k hl hk; (try simp only [At, New, Grow, From, No] at hk ⊢); omega) | (intro k hl hk; first | (have := hRw k hk; omega) | (simp only [At, New, Grow, From, No] at *; omega)))
  refine WL.val rfl rfl rfl rfl (r_not rfl (ev_t rfl)) ?_
  refine WL.nil ?_
  refine WX.keep [(0, _), (15, _)] ⟨rfl, rfl, trivial⟩ ?_
  refine WX.next ?_
  refine WC.cond rfl (ev_t rfl) (fun hc1 => ?_) (fun hc1 => ?_)
  · try (exfalso; first | (simp at hc1; done) | (simp only [decide_eq_true_eq, decide_eq_false_iff_not, Bool.not_eq_true', Bool.not_eq_false', Bool.not_eq_true, Bool.not_eq_false] at hc1; omega) | omega)
    all_goals
     try simp only [decide_eq_true_eq, decide_eq_false_iff_not, Bool.not_eq_true', Bool.not_eq_false', Bool.not_eq_true, Bool.not_eq_false, Option.isNone_none, Option.isNone_some, Option.isSome_none, Option.isSome_some, ne_eq, Decidable.not_not] at hc1
     refine WC.seq ?_
     refine WC.region ?_
     refine WL.val rfl rfl rfl rfl (r_assign rfl ev_c) ?_
     refine WL.nil ?_
     refine WX.keep [(2, _)] ⟨rfl, trivial⟩ ?_
     refine WX.next ?_
     refine WC.ret ?_
     refine WX.thenRet ?_
     refine WX.retE1 rfl rfl ?_
     exact ⟨rfl, hU⟩
  · try (exfalso; first | (simp at hc1; done) | (simp only [decide_eq_true_eq, decide_eq_false_iff_not, Bool.not_eq_true', Bool.not_eq_false', Bool.not_eq_true, Bool.not_eq_false] at hc1; omega) | omega)
    all_goals
     try simp only [decide_eq_true_eq, decide_eq_false_iff_not, Bool.not_eq_true', Bool.not_eq_false', Bool.not_eq_true, Bool.not_eq_false, Option.isNone_none, Option.isNone_some, Option.isSome_none, Option.isSome_some, ne_eq, Decidable.not_not] at hc1
     refine WC.skip ?_
     refine WX.next ?_
     refine WC.seq ?_
     refine WC.region ?_
     refine WL.cons (SO.call (open15_ok (most := 20000) (by omega)) rfl body_27 ⟨ev_c, trivial⟩ rfl rfl rfl rfl ?_)
     rintro v w2 ⟨pd, t, rfl, hs, hu2⟩
     have hs2 := hu2.size
     replace hU := hU.trans hu2 (by first | exact (fun _ _ h => h) | exact (fun _ _ h => h.elim) | (intro k hl hk; (try simp only [At, New, Grow, From, No] at hk ⊢); omega) | (intro k hl hk; first | (have := hRw k hk; omega) | (simp only [At, New, Grow, From, No] at *; omega)))
     have hR5 : ¬ New w1 w2 w2.heap.size := fun h => by simp only [New] at h; omega
     have hRl : ∀ k, New w1 w2 k → k < w2.heap.size := fun k hk => hk.2
     have hR8 : True := trivial
     refine WL.val rfl rfl rfl rfl (r_move rfl (ev_t rfl)) ?_
     refine WL.val rfl rfl rfl rfl (r_extract rfl (ev_t rfl) rfl) ?_
     refine WL.val rfl rfl rfl rfl (r_extract rfl (ev_t rfl) rfl) ?_
     refine WL.val rfl rfl rfl rfl (r_assign rfl (ev_t rfl)) ?_
     refine WL.val rfl rfl rfl rfl (r_assign rfl (ev_t rfl)) ?_
     refine WL.nil ?_
     refine WX.keep [(0, _), (3, _), (4, _)] ⟨rfl, rfl, rfl, trivial⟩ ?_
     refine WX.next ?_
     refine WC.seq ?_
     refine WC.region ?_
     refine WL.cons (SO.alloc rfl rfl rfl rfl (r_alloc rfl zero_50) ?_)
     intro w3 hu3 hB3 hz3
     have hs3 := hu3.size
     replace hU := hU.trans hu3 (by first | exact (fun _ _ h => h) | exact (fun _ _ h => h.elim) | (intro k hl hk; (try simp only [At, New, Grow, From, No] at hk ⊢); omega) | (intro k hl hk; first | (have := hRw k hk; omega) | (simp only [At, New, Grow, From, No] at *; omega)))
     replace hs := hs.upd hu3 (by first | exact (fun _ _ _ h => h) | (intro k hk hl hS; simp only [At] at hS; subst hS; first | exact hR5 hk | exact hR8 hk | (have := hRl _ hk; omega)))
     refine WL.nil ?_
     refine WX.keep [(0, _), (3, _), (4, _), (5, _)] ⟨rfl, rfl, rfl, rfl, trivial⟩ ?_
     replace hB3 : Blk w3 w2.heap.size #[.int .u64 ((ss0.s.idx : Nat) : Int), .int .u64 ((ss0.s.term : Nat) : Int), .slice none 0 0] 50 := hB3
     refine WX.next ?_
     refine WC.seq ?_
     refine WC.seq ?_
     refine WC.region ?_
     refine WL.val rfl rfl rfl rfl (r_assign rfl ev_c) ?_
     refine WL.nil ?_
     refine WX.keep [(0, _), (3, _), (4, _), (5, _), (6, _)] ⟨rfl, rfl, rfl, rfl, rfl, trivial⟩ ?_
     refine WX.next ?_
     refine WC.block ?_
     -- loop 1: live [0, 3, 4, 5, 6]
     refine WC.keep [(0, _), (3, _), (4, _), (5, _), (6, _)] ⟨rfl, rfl, rfl, rfl, rfl, trivial⟩ ?_
     refine WC.loop (fun q E wr => ∃ (i : Nat) (D : DS) (T : SS) (t : Nat) (R : Nat → Prop), i ≤ l.length ∧ q = l.length - i ∧ Upd No w wr ∧ w2.heap.size < wr.heap.size ∧ Quiet 20000 D T ∧ St wr R pd t D T ∧ (∀ k, R k → w.heap.size ≤ k) ∧ (∀ k, R k → k < wr.heap.size) ∧ (¬ R w2.heap.size) ∧   SnapAt wr (fun k => R k ∨ k = w2.heap.size) w2.heap.size T.s ∧   E = [(0, .slice Al l.length cl), (3, .pointer (some ⟨pd, 0, none⟩)), (4, .pointer (some ⟨t, 0, none⟩)), (5, .pointer (some ⟨w2.heap.size, 0, none⟩)), (6, .int .i64 (i : Int))]) (l.length) ?_ ?_
     · exact ⟨0, _, _, _, New w1 w2, by omega, by omega, hU, by omega, Quiet.new, hs, (fun k hk => by simp only [New] at hk; omega), (fun k hk => by simp only [New] at hk; omega), hR5, ⟨_, _, _, fun _ => False, hB3, Rd.nil _ _ _, fun k h => h.elim⟩, rfl⟩
     · clear hU hs hB3 hR5 hRl hR8
       rintro q E wr ⟨i, D, T, t, R, hi, rfl, hU, hw2, hQ, hs, hRw, hRl, hR5, ⟨A5, n5, c5, FS, hB5, hdr, hFS⟩, rfl⟩
       refine WC.seq ?_
       refine WC.seq ?_
       refine WC.region ?_
       refine WL.val rfl rfl rfl rfl (r_move rfl (ev_t rfl)) ?_
       refine WL.val rfl rfl rfl rfl (r_move rfl (ev_t rfl)) ?_
       refine WL.val rfl rfl rfl rfl (r_lenSlice (ts := #[]) rfl (ev_t rfl) elem_54) ?_
       refine WL.val rfl rfl rfl rfl (r_lss rfl (ev_t rfl) (ev_t rfl)) ?_
       refine WL.val rfl rfl rfl rfl (r_move rfl (ev_t rfl)) ?_
       refine WL.cases 24 rfl (fun hb6_4 => ?_) (fun hb6_4 => ?_)
       · try (exfalso; first | (simp at hb6_4; done) | (simp only [decide_eq_true_eq, decide_eq_false_iff_not, Bool.not_eq_true', Bool.not_eq_false', Bool.not_eq_true, Bool.not_eq_false] at hb6_4; omega) | omega)
         all_goals
          try simp only [decide_eq_true_eq, decide_eq_false_iff_not, Bool.not_eq_true', Bool.not_eq_false', Bool.not_eq_true, Bool.not_eq_false, Option.isNone_none, Option.isNone_some, Option.isSome_none, Option.isSome_some, ne_eq, Decidable.not_not] at hb6_4
          refine WL.val rfl rfl rfl rfl (r_move rfl (ev_t rfl)) ?_
          refine WL.val rfl rfl rfl rfl (r_lss rfl (ev_t rfl) ev_c) ?_
          refine WL.val rfl rfl rfl rfl (r_pickT rfl (ev_t rfl) (ev_t rfl)) ?_
          refine WL.nil ?_
          refine WX.keep [(0, _), (3, _), (4, _), (5, _), (6, _), (27, _)] ⟨rfl, rfl, rfl, rfl, rfl, rfl, trivial⟩ ?_
          refine WX.next ?_
          refine WC.cond rfl (ev_t rfl) (fun hc6 => ?_) (fun hc6 => ?_)
          · try (exfalso; first | (simp at hc6; done) | (simp only [decide_eq_true_eq, decide_eq_false_iff_not, Bool.not_eq_true', Bool.not_eq_false', Bool.not_eq_true, Bool.not_eq_false] at hc6; omega) | omega)
            all_goals
             try simp only [decide_eq_true_eq, decide_eq_false_iff_not, Bool.not_eq_true', Bool.not_eq_false', Bool.not_eq_true, Bool.not_eq_false, Option.isNone_none, Option.isNone_some, Option.isSome_none, Option.isSome_some, ne_eq, Decidable.not_not] at hc6
             have hi' : i < l.length := by omega
             obtain ⟨bl, ol, rfl, _⟩ := hs0.open (by omega)
             have hg := List.getElem?_eq_getElem hi'
             have hAi := hA _ (List.getElem_mem hi')
             have hcell := flatMap_get ActS.cells_len hg
             generalize l[i] = a at *
             obtain ⟨Aa, ca, hsv, hca⟩ := hAi.data.slice_form
             obtain ⟨Ac, cc, hcv, hcc⟩ := hAi.cuts.slice_form
             have har := hAi.data
             have hac := hAi.cuts
             rw [hsv] at har
             rw [hcv] at hac
             have ecell : a.cells = [.int .u8 a.kind, .int .u64 (a.s.idx : Int), .int .u64 (a.s.term : Int), .slice Aa a.s.data.length ca, .int .u8 a.near, .int .u16 a.n, .slice Ac a.cuts.length cc] := by unfold ActS.cells; rw [hsv, hcv]
             rw [ecell] at hcell
             have hkd := hAi.kind
             have hnr := hAi.near
             have han := hAi.n
             have hR8 : True := trivial
             refine WC.skip ?_
             refine WX.next ?_
             refine WC.seq ?_
             refine WC.block ?_
             refine WC.seq ?_
             refine WC.region ?_
             refine WL.val rfl rfl rfl rfl (r_move rfl (ev_t rfl)) ?_
             refine WL.val rfl rfl rfl rfl (r_move rfl (ev_t rfl)) ?_
             refine WL.val rfl rfl rfl rfl (r_indexAddr rfl (ev_t rfl) (ev_t rfl) elem_54 size_56 (by omega) (by omega)) ?_
             refine WL.val rfl rfl rfl rfl (r_loadAgg (vs := [_, _, _, _, _, _, _]) rfl (ev_t rfl) agg_56 size_56 (Rd.cellsL (us := [.int .u8 a.kind, .int .u64 (a.s.idx : Int), .int .u64 (a.s.term : Int), .slice Aa a.s.data.length ca, .int .u8 a.near, .int .u16 a.n, .slice Ac a.cuts.length cc]) (hs0.upd hU (fun _ _ _ h => h)) (i := i * 7) (by omega) hcell)) ?_
             refine WL.cons (SO.alloc rfl rfl rfl rfl (r_alloc rfl zero_56) ?_)
             intro w4 hu4 hB4 hz4
             have hs4 := hu4.size
             replace hU := hU.trans hu4 (by first | exact (fun _ _ h => h) | exact (fun _ _ h => h.elim) | (intro k hl hk; (try simp only [At, New, Grow, From, No] at hk ⊢); omega) | (intro k hl hk; first | (have := hRw k hk; omega) | (simp only [At, New, Grow, From, No] at *; omega)))
             replace hs := hs.upd hu4 (by first | exact (fun _ _ _ h => h) | (intro k hk hl hS; simp only [At] at hS; subst hS; first | exact hR5 hk | exact hR8 hk | (have := hRl _ hk; omega)))
             replace hB5 := hB5.upd hu4 (by first | exact (fun h => h) | exact hR5 | (simp only [At]; omega))
             replace hdr := hdr.upd hu4 (by first | exact (fun _ _ _ h => h) | (intro k hk hl hS; have h4 := hFS k hk; first | exact h4.1 hS | exact h4.1 (.inl hS) | exact h4.1 (.inr (.inl hS)) | (simp only [At] at hS; first | omega | exact h4.1 (.inr hS))))
             refine WL.cons (SO.storeAll (us := [_, _, _, _, _, _, _]) rfl (ev_t rfl) (ev_t rfl) size_56 hB4 rfl rfl rfl rfl rfl ?_)
             intro w5 hu5 hB4 hz5
             have hs5 := hu5.size
             replace hU := hU.trans hu5 (by first | exact (fun _ _ h => h) | exact (fun _ _ h => h.elim) | (intro k hl hk; (try simp only [At, New, Grow, From, No] at hk ⊢); omega) | (intro k hl hk; first | (have := hRw k hk; omega) | (simp only [At, New, Grow, From, No] at *; omega)))
             replace hs := hs.upd hu5 (by first | exact (fun _ _ _ h => h) | (intro k hk hl hS; simp only [At] at hS; subst hS; first | exact hR5 hk | exact hR8 hk | (have := hRl _ hk; omega)))
             replace hB5 := hB5.upd hu5 (by first | exact (fun h => h) | exact hR5 | (simp only [At]; omega))
             replace hdr := hdr.upd hu5 (by first | exact (fun _ _ _ h => h) | (intro k hk hl hS; have h4 := hFS k hk; first | exact h4.1 hS | exact h4.1 (.inl hS) | exact h4.1 (.inr (.inl hS)) | (simp only [At] at hS; first | omega | exact h4.1 (.inr hS))))
             refine WL.nil ?_
             refine WX.keep [(0, _), (3, _), (4, _), (5, _), (6, _), (7, _)] ⟨rfl, rfl, rfl, rfl, rfl, rfl, trivial⟩ ?_
             have hBa := hB4
             have hRa : ¬ R wr.heap.size := fun h => by have := hRl _ h; omega
             refine WX.next ?_
             refine WC.seq ?_
             refine WC.seq ?_
             refine WC.region ?_
             first | refine WL.val rfl rfl rfl rfl (r_field0 rfl (ev_t rfl) fld_56_1) ?_ | refine WL.val rfl rfl rfl rfl (r_fieldAt rfl (ev_t rfl) fld_56_1) ?_
             first | refine WL.val rfl rfl rfl rfl (r_field0 rfl (ev_t rfl) fld_50_2) ?_ | refine WL.val rfl rfl rfl rfl (r_fieldAt rfl (ev_t rfl) fld_50_2) ?_
             refine WL.val rfl rfl rfl rfl (r_load rfl (ev_t rfl) flat_22 (Blk.cell hBa rfl)) ?_
             refine WL.val rfl rfl rfl rfl (r_lenSlice (ts := #[]) rfl (ev_t rfl) elem_22) ?_
             refine WL.val rfl rfl rfl rfl (r_gtr rfl (ev_t rfl) ev_c) ?_
             refine WL.nil ?_
             refine WX.keep [(0, _), (3, _), (4, _), (5, _), (6, _), (7, _), (38, _)] ⟨rfl, rfl, rfl, rfl, rfl, rfl, rfl, trivial⟩ ?_
             refine WX.next ?_
             refine WC.cond rfl (ev_t rfl) (fun hc9 => ?_) (fun hc9 => ?_)
             · try (exfalso; first | (simp at hc9; done) | (simp only [decide_eq_true_eq, decide_eq_false_iff_not, Bool.not_eq_true', Bool.not_eq_false', Bool.not_eq_true, Bool.not_eq_false] at hc9; omega) | omega)
               all_goals
                try simp only [decide_eq_true_eq, decide_eq_false_iff_not, Bool.not_eq_true', Bool.not_eq_false', Bool.not_eq_true, Bool.not_eq_false, Option.isNone_none, Option.isNone_some, Option.isSome_none, Option.isSome_some, ne_eq, Decidable.not_not] at hc9
                refine WC.seq ?_
                refine WC.region ?_
                refine WL.val rfl rfl rfl rfl (r_assign rfl ev_c) ?_
                refine WL.nil ?_
                refine WX.keep [(2, _)] ⟨rfl, trivial⟩ ?_
                refine WX.next ?_
                refine WC.ret ?_
                refine WX.thenRet ?_
                refine WX.blockRet ?_
                refine WX.thenRet ?_
                refine WX.thenRet ?_
                refine WX.blockRet ?_
                refine WX.thenRet ?_
                refine WX.retE1 rfl rfl ?_
                exact ⟨rfl, hU⟩
             · try (exfalso; first | (simp at hc9; done) | (simp only [decide_eq_true_eq, decide_eq_false_iff_not, Bool.not_eq_true', Bool.not_eq_false', Bool.not_eq_true, Bool.not_eq_false] at hc9; omega) | omega)
               all_goals
                try simp only [decide_eq_true_eq, decide_eq_false_iff_not, Bool.not_eq_true', Bool.not_eq_false', Bool.not_eq_true, Bool.not_eq_false, Option.isNone_none, Option.isNone_some, Option.isSome_none, Option.isSome_some, ne_eq, Decidable.not_not] at hc9
                refine WC.skip ?_
                refine WX.next ?_
                refine WC.seq ?_
                refine WC.region ?_
                refine WL.val rfl rfl rfl rfl (r_loadAgg (vs := [_, _, _]) rfl (ev_t rfl) agg_50 size_50 (Blk.cellsL hB5)) ?_
                refine WL.cons (SO.alloc rfl rfl rfl rfl (r_alloc rfl zero_50) ?_)
                intro w6 hu6 hB6 hz6
                have hs6 := hu6.size
                replace hU := hU.trans hu6 (by first | exact (fun _ _ h => h) | exact (fun _ _ h => h.elim) | (intro k hl hk; (try simp only [At, New, Grow, From, No] at hk ⊢); omega) | (intro k hl hk; first | (have := hRw k hk; omega) | (simp only [At, New, Grow, From, No] at *; omega)))
                replace hs := hs.upd hu6 (by first | exact (fun _ _ _ h => h) | (intro k hk hl hS; simp only [At] at hS; subst hS; first | exact hR5 hk | exact hR8 hk | (have := hRl _ hk; omega)))
                replace hB5 := hB5.upd hu6 (by first | exact (fun h => h) | exact hR5 | (simp only [At]; omega))
                replace hdr := hdr.upd hu6 (by first | exact (fun _ _ _ h => h) | (intro k hk hl hS; have h4 := hFS k hk; first | exact h4.1 hS | exact h4.1 (.inl hS) | exact h4.1 (.inr (.inl hS)) | (simp only [At] at hS; first | omega | exact h4.1 (.inr hS))))
                replace hBa := hBa.upd hu6 (by first | exact (fun h => h) | exact hRa | (simp only [At]; omega))
                refine WL.cons (SO.storeAll (us := [_, _, _]) rfl (ev_t rfl) (ev_t rfl) size_50 hB6 rfl rfl rfl rfl rfl ?_)
                intro w7 hu7 hB6 hz7
                have hs7 := hu7.size
                replace hU := hU.trans hu7 (by first | exact (fun _ _ h => h) | exact (fun _ _ h => h.elim) | (intro k hl hk; (try simp only [At, New, Grow, From, No] at hk ⊢); omega) | (intro k hl hk; first | (have := hRw k hk; omega) | (simp only [At, New, Grow, From, No] at *; omega)))
                replace hs := hs.upd hu7 (by first | exact (fun _ _ _ h => h) | (intro k hk hl hS; simp only [At] at hS; subst hS; first | exact hR5 hk | exact hR8 hk | (have := hRl _ hk; omega)))
                replace hB5 := hB5.upd hu7 (by first | exact (fun h => h) | exact hR5 | (simp only [At]; omega))
                replace hdr := hdr.upd hu7 (by first | exact (fun _ _ _ h => h) | (intro k hk hl hS; have h4 := hFS k hk; first | exact h4.1 hS | exact h4.1 (.inl hS) | exact h4.1 (.inr (.inl hS)) | (simp only [At] at hS; first | omega | exact h4.1 (.inr hS))))
                replace hBa := hBa.upd hu7 (by first | exact (fun h => h) | exact hRa | (simp only [At]; omega))
                refine WL.nil ?_
                refine WX.keep [(0, _), (3, _), (4, _), (5, _), (6, _), (7, _), (8, _)] ⟨rfl, rfl, rfl, rfl, rfl, rfl, rfl, trivial⟩ ?_
                obtain ⟨g8, hg8⟩ : ∃ g8, g8 = w5.heap.size := ⟨_, rfl⟩
                rw [← hg8] at hB6
                rw [← hg8]
                have hB8 := hB6
                replace hR8 : ¬ R g8 := fun h => by have := hRl _ h; omega
                refine WX.next ?_
                refine WC.seq ?_
                refine WC.region ?_
                refine WL.val rfl rfl rfl rfl (r_assign rfl ev_c) ?_
                refine WL.nil ?_
                refine WX.keep [(0, _), (3, _), (4, _), (5, _), (6, _), (7, _), (8, _)] ⟨rfl, rfl, rfl, rfl, rfl, rfl, rfl, trivial⟩ ?_
                refine WX.next ?_
                -- cut 13: live [0, 3, 4, 5, 6, 7, 8, 9]
                refine WC.cut (fun E w_ => ∃ (R' : Nat → Prop) (D' : DS) (n0 : Sn) (e : Nat), Upd No w w_ ∧ w5.heap.size < w_.heap.size ∧ (∀ k, R' k → w.heap.size ≤ k) ∧ (∀ k, R' k → k < w_.heap.size) ∧ (¬ R' w2.heap.size) ∧ (¬ R' wr.heap.size) ∧ (¬ R' g8) ∧ Blk w_ wr.heap.size #[.int .u8 a.kind, .int .u64 (a.s.idx : Int), .int .u64 (a.s.term : Int), .slice Aa a.s.data.length ca, .int .u8 a.near, .int .u16 a.n, .slice Ac a.cuts.length cc] 56 ∧ SnapAt w_ (X3 R' w2.heap.size wr.heap.size g8) w2.heap.size T.s ∧ SnapAt w_ (X3 R' w2.heap.size wr.heap.size g8) g8 n0 ∧ Case15 w_ R' pd t D' T.s n0 e ∧ E = [(0, .slice (some ⟨bl, ol, none⟩) l.length cl), (3, .pointer (some ⟨pd, 0, none⟩)), (4, .pointer (some ⟨t, 0, none⟩)), (5, .pointer (some ⟨w2.heap.size, 0, none⟩)), (6, .int .i64 (i : Int)), (7, .pointer (some ⟨wr.heap.size, 0, none⟩)), (8, .pointer (some ⟨g8, 0, none⟩)), (9, .int .i64 (e : Int))]) ?_ ?_
                · refine WC.seq ?_
                  refine WC.region ?_
                  first | refine WL.val rfl rfl rfl rfl (r_field0 rfl (ev_t rfl) fld_56_0) ?_ | refine WL.val rfl rfl rfl rfl (r_fieldAt rfl (ev_t rfl) fld_56_0) ?_
                  refine WL.val rfl rfl rfl rfl (r_load rfl (ev_t rfl) flat_5 (Blk.cell hBa rfl)) ?_
                  first | refine WL.val rfl rfl rfl rfl (r_remN rfl (ev_t rfl) ev_c (by omega) (by omega)) ?_ | refine WL.val rfl rfl rfl rfl (r_rem rfl (ev_t rfl) ev_c (by omega)) ?_
                  refine WL.nil ?_
                  refine WX.keep [(0, _), (3, _), (4, _), (5, _), (6, _), (7, _), (8, _), (42, _)] ⟨rfl, rfl, rfl, rfl, rfl, rfl, rfl, rfl, trivial⟩ ?_
                  refine WX.next ?_
                  refine WC.block ?_
                  -- cut 15: live [0, 3, 4, 5, 6, 7, 8, 42, 48]
                  refine WC.cut (fun E w_ => w7 = w_ ∧ ∃ b : Bool, (b = true ↔ a.kind % 6 < 3) ∧ E = [(0, .slice (some ⟨bl, ol, none⟩) l.length cl), (3, .pointer (some ⟨pd, 0, none⟩)), (4, .pointer (some ⟨t, 0, none⟩)), (5, .pointer (some ⟨w2.heap.size, 0, none⟩)), (6, .int .i64 (i : Int)), (7, .pointer (some ⟨wr.heap.size, 0, none⟩)), (8, .pointer (some ⟨g8, 0, none⟩)), (42, .int .u8 (a.kind % 6)), (48, .bool b)]) ?_ ?_
                  · refine WC.seq ?_
                    refine WC.region ?_
                    refine WL.val rfl rfl rfl rfl (r_eql rfl (ev_t rfl) ev_c) ?_
                    refine WL.val rfl rfl rfl rfl (r_assign rfl (ev_t rfl)) ?_
                    refine WL.nil ?_
                    refine WX.keep [(0, _), (3, _), (4, _), (5, _), (6, _), (7, _), (8, _), (42, _), (48, _)] ⟨rfl, rfl, rfl, rfl, rfl, rfl, rfl, rfl, rfl, trivial⟩ ?_
                    refine WX.next ?_
                    refine WC.cond rfl (ev_t rfl) (fun hc15 => ?_) (fun hc15 => ?_)
                    · try (exfalso; first | (simp at hc15; done) | (simp only [decide_eq_true_eq, decide_eq_false_iff_not, Bool.not_eq_true', Bool.not_eq_false', Bool.not_eq_true, Bool.not_eq_false] at hc15; omega) | omega)
                      all_goals
                       try simp only [decide_eq_true_eq, decide_eq_false_iff_not, Bool.not_eq_true', Bool.not_eq_false', Bool.not_eq_true, Bool.not_eq_false, Option.isNone_none, Option.isNone_some, Option.isSome_none, Option.isSome_some, ne_eq, Decidable.not_not] at hc15
                       try have hk3 := hb.1 (by assumption)
                       refine WC.skip ?_
                       refine WX.meet [(0, _), (3, _), (4, _), (5, _), (6, _), (7, _), (8, _), (42, _), (48, _)] ⟨rfl, rfl, rfl, rfl, rfl, rfl, rfl, rfl, rfl, trivial⟩ ?_
                       exact ⟨rfl, _, (by first | (simp only [decide_eq_true_eq]; omega) | (simp; omega)), rfl⟩
                    · try (exfalso; first | (simp at hc15; done) | (simp only [decide_eq_true_eq, decide_eq_false_iff_not, Bool.not_eq_true', Bool.not_eq_false', Bool.not_eq_true, Bool.not_eq_false] at hc15; omega) | omega)
                      all_goals
                       try simp only [decide_eq_true_eq, decide_eq_false_iff_not, Bool.not_eq_true', Bool.not_eq_false', Bool.not_eq_true, Bool.not_eq_false, Option.isNone_none, Option.isNone_some, Option.isSome_none, Option.isSome_some, ne_eq, Decidable.not_not] at hc15
                       refine WC.seq ?_
                       refine WC.region ?_
                       refine WL.val rfl rfl rfl rfl (r_eql rfl (ev_t rfl) ev_c) ?_
                       refine WL.val rfl rfl rfl rfl (r_assign rfl (ev_t rfl)) ?_
                       refine WL.nil ?_
                       refine WX.keep [(0, _), (3, _), (4, _), (5, _), (6, _), (7, _), (8, _), (42, _), (48, _)] ⟨rfl, rfl, rfl, rfl, rfl, rfl, rfl, rfl, rfl, trivial⟩ ?_
                       refine WX.next ?_
                       refine WC.cond rfl (ev_t rfl) (fun hc16 => ?_) (fun hc16 => ?_)
                       · try (exfalso; first | (simp at hc16; done) | (simp only [decide_eq_true_eq, decide_eq_false_iff_not, Bool.not_eq_true', Bool.not_eq_false', Bool.not_eq_true, Bool.not_eq_false] at hc16; omega) | omega)
                         all_goals
                          try simp only [decide_eq_true_eq, decide_eq_false_iff_not, Bool.not_eq_true', Bool.not_eq_false', Bool.not_eq_true, Bool.not_eq_false, Option.isNone_none, Option.isNone_some, Option.isSome_none, Option.isSome_some, ne_eq, Decidable.not_not] at hc16
                          refine WC.skip ?_
                          refine WX.meet [(0, _), (3, _), (4, _), (5, _), (6, _), (7, _), (8, _), (42, _), (48, _)] ⟨rfl, rfl, rfl, rfl, rfl, rfl, rfl, rfl, rfl, trivial⟩ ?_
                          exact ⟨rfl, _, (by first | (simp only [decide_eq_true_eq]; omega) | (simp; omega)), rfl⟩
                       · try (exfalso; first | (simp at hc16; done) | (simp only [decide_eq_true_eq, decide_eq_false_iff_not, Bool.not_eq_true', Bool.not_eq_false', Bool.not_eq_true, Bool.not_eq_false] at hc16; omega) | omega)
                         all_goals
                          try simp only [decide_eq_true_eq, decide_eq_false_iff_not, Bool.not_eq_true', Bool.not_eq_false', Bool.not_eq_true, Bool.not_eq_false, Option.isNone_none, Option.isNone_some, Option.isSome_none, Option.isSome_some, ne_eq, Decidable.not_not] at hc16
                          refine WC.region ?_
                          refine WL.val rfl rfl rfl rfl (r_eql rfl (ev_t rfl) ev_c) ?_
                          refine WL.val rfl rfl rfl rfl (r_assign rfl (ev_t rfl)) ?_
                          refine WL.nil ?_
                          refine WX.keep [(0, _), (3, _), (4, _), (5, _), (6, _), (7, _), (8, _), (42, _), (48, _)] ⟨rfl, rfl, rfl, rfl, rfl, rfl, rfl, rfl, rfl, trivial⟩ ?_
                          refine WX.meet [(0, _), (3, _), (4, _), (5, _), (6, _), (7, _), (8, _), (42, _), (48, _)] ⟨rfl, rfl, rfl, rfl, rfl, rfl, rfl, rfl, rfl, trivial⟩ ?_
                          exact ⟨rfl, _, (by first | (simp only [decide_eq_true_eq]; omega) | (simp; omega)), rfl⟩
                  · rintro E w_ ⟨rfl, b, hb, rfl⟩
                    refine WC.cond rfl (ev_t rfl) (fun hc13 => ?_) (fun hc13 => ?_)
                    · try (exfalso; first | (simp at hc13; done) | (simp only [decide_eq_true_eq, decide_eq_false_iff_not, Bool.not_eq_true', Bool.not_eq_false', Bool.not_eq_true, Bool.not_eq_false] at hc13; omega) | omega)
                      all_goals
                       try simp only [decide_eq_true_eq, decide_eq_false_iff_not, Bool.not_eq_true', Bool.not_eq_false', Bool.not_eq_true, Bool.not_eq_false, Option.isNone_none, Option.isNone_some, Option.isSome_none, Option.isSome_some, ne_eq, Decidable.not_not] at hc13
                       refine WC.seq ?_
                       obtain ⟨hxo, hxl⟩ := snapA_ok (last := T.s.idx) hAi (by omega)
                       have hTo := hQ.sok
                       refine WC.region ?_
                       refine WL.val rfl rfl rfl rfl (r_loadAgg (vs := [_, _, _, _, _, _, _]) rfl (ev_t rfl) agg_56 size_56 (Blk.cellsL hBa)) ?_
                       first | refine WL.val rfl rfl rfl rfl (r_field0 rfl (ev_t rfl) fld_50_0) ?_ | refine WL.val rfl rfl rfl rfl (r_fieldAt rfl (ev_t rfl) fld_50_0) ?_
                       refine WL.val rfl rfl rfl rfl (r_load rfl (ev_t rfl) flat_48 (Blk.cell hB5 rfl)) ?_
                       have hasn := asnap_ok hsv hcv hAi (by omega) hTo.1 (har.upd hU (fun _ _ _ h => h))
                       rw [show a.cells.toArray = #[.int .u8 a.kind, .int .u64 (a.s.idx : Int), .int .u64 (a.s.term : Int), .slice Aa a.s.data.length ca, .int .u8 a.near, .int .u16 a.n, .slice Ac a.cuts.length cc] by rw [ecell]] at hasn
                       refine WL.cons (SO.call (hasn) rfl body_31 ⟨(ev_t rfl), (ev_t rfl), trivial⟩ rfl rfl rfl rfl ?_)
                       rintro v w8 ⟨A2, c2, n2, H2, rfl, hd2, hH2, hu8⟩
                       generalize hxx : snapA a T.s.idx = x at *
                       obtain ⟨D2, T2, ce, e2, hsc⟩ := save_crash hQ hxo hxl
                       have hs8 := hu8.size
                       replace hU := hU.trans hu8 (by first | exact (fun _ _ h => h) | exact (fun _ _ h => h.elim) | (intro k hl hk; (try simp only [At, New, Grow, From, No] at hk ⊢); omega) | (intro k hl hk; first | (have := hRw k hk; omega) | (simp only [At, New, Grow, From, No] at *; omega)))
                       replace hs := hs.upd hu8 (by first | exact (fun _ _ _ h => h) | (intro k hk hl hS; simp only [At] at hS; subst hS; first | exact hR5 hk | exact hR8 hk | (have := hRl _ hk; omega)))
                       replace hB5 := hB5.upd hu8 (by first | exact (fun h => h) | exact hR5 | (simp only [At]; omega))
                       replace hdr := hdr.upd hu8 (by first | exact (fun _ _ _ h => h) | (intro k hk hl hS; have h4 := hFS k hk; first | exact h4.1 hS | exact h4.1 (.inl hS) | exact h4.1 (.inr (.inl hS)) | (simp only [At] at hS; first | omega | exact h4.1 (.inr hS))))
                       replace hBa := hBa.upd hu8 (by first | exact (fun h => h) | exact hRa | (simp only [At]; omega))
                       replace hB8 := hB8.upd hu8 (by first | exact (fun h => h) | exact hR8 | (simp only [At]; omega))
                       refine WL.cons (SO.alloc rfl rfl rfl rfl (r_alloc rfl zero_50) ?_)
                       intro w9 hu9 hB9 hz9
                       have hs9 := hu9.size
                       replace hU := hU.trans hu9 (by first | exact (fun _ _ h => h) | exact (fun _ _ h => h.elim) | (intro k hl hk; (try simp only [At, New, Grow, From, No] at hk ⊢); omega) | (intro k hl hk; first | (have := hRw k hk; omega) | (simp only [At, New, Grow, From, No] at *; omega)))
                       replace hs := hs.upd hu9 (by first | exact (fun _ _ _ h => h) | (intro k hk hl hS; simp only [At] at hS; subst hS; first | exact hR5 hk | exact hR8 hk | (have := hRl _ hk; omega)))
                       replace hB5 := hB5.upd hu9 (by first | exact (fun h => h) | exact hR5 | (simp only [At]; omega))
                       replace hdr := hdr.upd hu9 (by first | exact (fun _ _ _ h => h) | (intro k hk hl hS; have h4 := hFS k hk; first | exact h4.1 hS | exact h4.1 (.inl hS) | exact h4.1 (.inr (.inl hS)) | (simp only [At] at hS; first | omega | exact h4.1 (.inr hS))))
                       replace hBa := hBa.upd hu9 (by first | exact (fun h => h) | exact hRa | (simp only [At]; omega))
                       replace hB8 := hB8.upd hu9 (by first | exact (fun h => h) | exact hR8 | (simp only [At]; omega))
                       replace hd2 := hd2.upd hu9 (by first | exact (fun _ _ _ h => h) | (intro k hk hl hS; have h4 := hRl k hS; have h5 := hRw k hS; rcases hH2 k hk with h | h; (have : k < w.heap.size := h; omega); (simp only [New] at h; omega)) | (intro k hk hl hS; simp only [At] at hS; rcases hH2 k hk with h | h; (have : k < w.heap.size := h; omega); (simp only [New] at h; omega)))
                       refine WL.cons (SO.storeAll (us := [_, _, _]) rfl (ev_t rfl) (ev_t rfl) size_50 hB9 rfl rfl rfl rfl rfl ?_)
                       intro w10 hu10 hB9 hz10
                       have hs10 := hu10.size
                       replace hU := hU.trans hu10 (by first | exact (fun _ _ h => h) | exact (fun _ _ h => h.elim) | (intro k hl hk; (try simp only [At, New, Grow, From, No] at hk ⊢); omega) | (intro k hl hk; first | (have := hRw k hk; omega) | (simp only [At, New, Grow, From, No] at *; omega)))
                       replace hs := hs.upd hu10 (by first | exact (fun _ _ _ h => h) | (intro k hk hl hS; simp only [At] at hS; subst hS; first | exact hR5 hk | exact hR8 hk | (have := hRl _ hk; omega)))
                       replace hB5 := hB5.upd hu10 (by first | exact (fun h => h) | exact hR5 | (simp only [At]; omega))
                       replace hdr := hdr.upd hu10 (by first | exact (fun _ _ _ h => h) | (intro k hk hl hS; have h4 := hFS k hk; first | exact h4.1 hS | exact h4.1 (.inl hS) | exact h4.1 (.inr (.inl hS)) | (simp only [At] at hS; first | omega | exact h4.1 (.inr hS))))
                       replace hBa := hBa.upd hu10 (by first | exact (fun h => h) | exact hRa | (simp only [At]; omega))
                       replace hB8 := hB8.upd hu10 (by first | exact (fun h => h) | exact hR8 | (simp only [At]; omega))
                       replace hd2 := hd2.upd hu10 (by first | exact (fun _ _ _ h => h) | (intro k hk hl hS; have h4 := hRl k hS; have h5 := hRw k hS; rcases hH2 k hk with h | h; (have : k < w.heap.size := h; omega); (simp only [New] at h; omega)) | (intro k hk hl hS; simp only [At] at hS; rcases hH2 k hk with h | h; (have : k < w.heap.size := h; omega); (simp only [New] at h; omega)))
                       refine WL.nil ?_
                       refine WX.keep [(0, _), (3, _), (4, _), (5, _), (6, _), (7, _), (8, _), (10, _)] ⟨rfl, rfl, rfl, rfl, rfl, rfl, rfl, rfl, trivial⟩ ?_
                       have hBn := hB9
                       refine WX.next ?_
                       refine WC.seq ?_
                       refine WC.region ?_
                       refine WL.val rfl rfl rfl rfl (r_move rfl (ev_t rfl)) ?_
                       refine WL.val rfl rfl rfl rfl (r_loadAgg (vs := [_, _, _]) rfl (ev_t rfl) agg_50 size_50 (Blk.cellsL hBn)) ?_
                       refine WL.cons (SO.call (saveSt (x := x) hs hd2 (fun k hk hl hR => by have h4 := hRl k hR; have h5 := hRw k hR; rcases hH2 k hk with h | h; (have : k < w.heap.size := h; omega); (simp only [New] at h; omega)) hxo hQ.len hQ.off hQ.side hQ.armed) rfl body_28 ⟨(ev_t rfl), (ev_t rfl), trivial⟩ rfl rfl rfl rfl ?_)
                       clear hs
                       rintro v w11 ⟨rfl, hs, hu11⟩
                       rw [e2] at hs ⊢
                       dsimp only at hs
                       have hs11 := hu11.size
                       replace hU := hU.trans hu11 (by first | exact (fun _ _ h => h) | exact (fun _ _ h => h.elim) | (intro k hl hk; (try simp only [At, New, Grow, From, No] at hk ⊢); omega) | (intro k hl hk; first | (have := hRw k hk; omega) | (simp only [At, New, Grow, From, No] at *; omega)))
                       replace hB5 := hB5.upd hu11 (by first | exact (fun h => h) | exact hR5 | (simp only [At]; omega))
                       replace hdr := hdr.upd hu11 (by first | exact (fun _ _ _ h => h) | (intro k hk hl hS; have h4 := hFS k hk; first | exact h4.1 hS | exact h4.1 (.inl hS) | exact h4.1 (.inr (.inl hS)) | (simp only [At] at hS; first | omega | exact h4.1 (.inr hS))))
                       replace hBa := hBa.upd hu11 (by first | exact (fun h => h) | exact hRa | (simp only [At]; omega))
                       replace hB8 := hB8.upd hu11 (by first | exact (fun h => h) | exact hR8 | (simp only [At]; omega))
                       replace hd2 := hd2.upd hu11 (by first | exact (fun _ _ _ h => h) | (intro k hk hl hS; have h4 := hRl k hS; have h5 := hRw k hS; rcases hH2 k hk with h | h; (have : k < w.heap.size := h; omega); (simp only [New] at h; omega)) | (intro k hk hl hS; simp only [At] at hS; rcases hH2 k hk with h | h; (have : k < w.heap.size := h; omega); (simp only [New] at h; omega)))
                       replace hBn := hBn.upd hu11 (by first | exact (fun h => h) | (simp only [At]; omega) | (intro h; have := hRl _ h; omega))
                       have hH3 : ∀ k, H2 k → (¬ (X3 (Grow R w10 w11) w2.heap.size wr.heap.size g8) k) ∧ k < w11.heap.size := fun k hk => by
                         rcases hH2 k hk with h | h
                         · have h9 : k < w.heap.size := h
                           exact ⟨fun hR => hR.elim (fun h => h.elim (fun h => by have := hRw k h; omega) (fun h => by omega)) (fun h => by omega), by omega⟩
                         · simp only [New] at h
                           exact ⟨fun hR => hR.elim (fun h => h.elim (fun h => by have := hRl k h; omega) (fun h => by omega)) (fun h => by omega), by omega⟩
                       have hF5 : ∀ k, FS k → (¬ (X3 (Grow R w10 w11) w2.heap.size wr.heap.size g8) k) ∧ k < w11.heap.size := fun k hk => by
                         obtain ⟨a1, a2⟩ := hFS k hk
                         exact ⟨fun hR => hR.elim (fun h => h.elim (fun h => a1 (.inl h)) (fun h => by omega)) (fun h => by have := fun h => a1 (.inr h); omega), by omega⟩
                       replace hRw : ∀ k, Grow R w10 w11 k → w.heap.size ≤ k := fun k hk => hk.elim (hRw k) (fun h => by omega)
                       replace hRl : ∀ k, Grow R w10 w11 k → k < w11.heap.size := fun k hk => hk.elim (fun h => by have := hRl k h; omega) (fun h => h.2)
                       replace hR5 : ¬ Grow R w10 w11 w2.heap.size := fun h => h.elim hR5 (fun h => by omega)
                       replace hRa : ¬ Grow R w10 w11 wr.heap.size := fun h => h.elim hRa (fun h => by omega)
                       replace hR8 : ¬ Grow R w10 w11 g8 := fun h => h.elim hR8 (fun h => by omega)
                       generalize Grow R w10 w11 = Rn at *
                       refine WL.val rfl rfl rfl rfl (r_assign rfl (ev_t rfl)) ?_
                       refine WL.nil ?_
                       refine WX.keep [(0, _), (3, _), (4, _), (5, _), (6, _), (7, _), (8, _), (9, _), (10, _)] ⟨rfl, rfl, rfl, rfl, rfl, rfl, rfl, rfl, rfl, trivial⟩ ?_
                       refine WX.next ?_
                       refine WC.seq ?_
                       refine WC.region ?_
                       refine WL.val rfl rfl rfl rfl (r_move rfl (ev_t rfl)) ?_
                       refine WL.val rfl rfl rfl rfl (r_eql rfl (ev_t rfl) ev_c) ?_
                       refine WL.val rfl rfl rfl rfl (r_move rfl (ev_t rfl)) ?_
                       refine WL.cases 61 rfl (fun hb20_2 => ?_) (fun hb20_2 => ?_)
                       · try (exfalso; first | (simp at hb20_2; done) | (simp only [decide_eq_true_eq, decide_eq_false_iff_not, Bool.not_eq_true', Bool.not_eq_false', Bool.not_eq_true, Bool.not_eq_false] at hb20_2; omega) | omega)
                         all_goals
                          try simp only [decide_eq_true_eq, decide_eq_false_iff_not, Bool.not_eq_true', Bool.not_eq_false', Bool.not_eq_true, Bool.not_eq_false, Option.isNone_none, Option.isNone_some, Option.isSome_none, Option.isSome_some, ne_eq, Decidable.not_not] at hb20_2
                          refine WL.skip rfl rfl rfl ?_
                          refine WL.skip rfl rfl rfl ?_
                          refine WL.val rfl rfl rfl rfl (r_pickT rfl (ev_t rfl) ev_c) ?_
                          refine WL.nil ?_
                          refine WX.keep [(0, _), (3, _), (4, _), (5, _), (6, _), (7, _), (8, _), (9, _), (10, _), (64, _)] ⟨rfl, rfl, rfl, rfl, rfl, rfl, rfl, rfl, rfl, rfl, trivial⟩ ?_
                          refine WX.next ?_
                          refine WC.cond_true rfl (ev_t rfl) ?_
                          refine WC.region ?_
                          refine WL.val rfl rfl rfl rfl (r_loadAgg (vs := [_, _, _]) rfl (ev_t rfl) agg_50 size_50 (Blk.cellsL hBn)) ?_
                          refine WL.cons (SO.storeAll (us := [_, _, _]) rfl (ev_t rfl) (ev_t rfl) size_50 hB8 rfl rfl rfl rfl rfl ?_)
                          intro w12 hu12 hB8 hz12
                          have hs12 := hu12.size
                          replace hU := hU.trans hu12 (by first | exact (fun _ _ h => h) | exact (fun _ _ h => h.elim) | (intro k hl hk; (try simp only [At, New, Grow, From, No] at hk ⊢); omega) | (intro k hl hk; first | (have := hRw k hk; omega) | (simp only [At, New, Grow, From, No] at *; omega)))
                          replace hs := hs.upd hu12 (by first | exact (fun _ _ _ h => h) | (intro k hk hl hS; simp only [At] at hS; subst hS; first | exact hR5 hk | exact hR8 hk | (have := hRl _ hk; omega)))
                          replace hB5 := hB5.upd hu12 (by first | exact (fun h => h) | exact hR5 | (simp only [At]; omega))
                          replace hdr := hdr.upd hu12 (by first | exact (fun _ _ _ h => h) | (intro k hk hl hS; have h4 := hFS k hk; first | exact h4.1 hS | exact h4.1 (.inl hS) | exact h4.1 (.inr (.inl hS)) | (simp only [At] at hS; first | omega | exact h4.1 (.inr hS))))
                          replace hBa := hBa.upd hu12 (by first | exact (fun h => h) | exact hRa | (simp only [At]; omega))
                          replace hd2 := hd2.upd hu12 (by first | exact (fun _ _ _ h => h) | (intro k hk hl hS; have h4 := hRl k hS; have h5 := hRw k hS; rcases hH2 k hk with h | h; (have : k < w.heap.size := h; omega); (simp only [New] at h; omega)) | (intro k hk hl hS; simp only [At] at hS; rcases hH2 k hk with h | h; (have : k < w.heap.size := h; omega); (simp only [New] at h; omega)))
                          replace hBn := hBn.upd hu12 (by first | exact (fun h => h) | (simp only [At]; omega) | (intro h; have := hRl _ h; omega))
                          refine WL.nil ?_
                          refine WX.keep [(0, _), (3, _), (4, _), (5, _), (6, _), (7, _), (8, _), (9, _)] ⟨rfl, rfl, rfl, rfl, rfl, rfl, rfl, rfl, trivial⟩ ?_
                          have hS5 : SnapAt w12 _ w2.heap.size T.s := ⟨_, _, _, _, hB5, hdr, fun k hk => ⟨(hF5 k hk).1, by have := (hF5 k hk).2; omega⟩⟩
                          have hS8 : SnapAt w12 _ g8 x := ⟨_, _, _, _, hB8, hd2, fun k hk => ⟨(hH3 k hk).1, by have := (hH3 k hk).2; omega⟩⟩
                          have hC : Case15 w12 Rn pd t D2 T.s x ce := by
                            rcases hsc with ⟨h0, hq, hx2⟩ | ⟨h0, hT, hf⟩ | ⟨h0, _, _⟩
                            · exact .inl ⟨h0, T2, hq, hs, hx2⟩
                            · exact .inr (.inl ⟨h0, T, x, hf, hs.drum, rfl, .inl rfl⟩)
                            · omega
                          refine WX.blockNormal ?_
                          refine WX.meet [(0, _), (3, _), (4, _), (5, _), (6, _), (7, _), (8, _), (9, _)] ⟨rfl, rfl, rfl, rfl, rfl, rfl, rfl, rfl, trivial⟩ ?_
                          exact ⟨_, _, _, _, hU, by omega, hRw, (fun k hk => by have := hRl k hk; omega), hR5, hRa, hR8, hBa, hS5, hS8, hC, rfl⟩
                       · try (exfalso; first | (simp at hb20_2; done) | (simp only [decide_eq_true_eq, decide_eq_false_iff_not, Bool.not_eq_true', Bool.not_eq_false', Bool.not_eq_true, Bool.not_eq_false] at hb20_2; omega) | omega)
                         all_goals
                          try simp only [decide_eq_true_eq, decide_eq_false_iff_not, Bool.not_eq_true', Bool.not_eq_false', Bool.not_eq_true, Bool.not_eq_false, Option.isNone_none, Option.isNone_some, Option.isSome_none, Option.isSome_some, ne_eq, Decidable.not_not] at hb20_2
                          refine WL.val rfl rfl rfl rfl (r_move rfl (ev_t rfl)) ?_
                          refine WL.val rfl rfl rfl rfl (r_eql rfl (ev_t rfl) ev_c) ?_
                          refine WL.val rfl rfl rfl rfl (r_pickF rfl (ev_t rfl) (ev_t rfl)) ?_
                          refine WL.nil ?_
                          refine WX.keep [(0, _), (3, _), (4, _), (5, _), (6, _), (7, _), (8, _), (9, _), (10, _), (64, _)] ⟨rfl, rfl, rfl, rfl, rfl, rfl, rfl, rfl, rfl, rfl, trivial⟩ ?_
                          refine WX.next ?_
                          refine WC.cond rfl (ev_t rfl) (fun hc20 => ?_) (fun hc20 => ?_)
                          · try (exfalso; first | (simp at hc20; done) | (simp only [decide_eq_true_eq, decide_eq_false_iff_not, Bool.not_eq_true', Bool.not_eq_false', Bool.not_eq_true, Bool.not_eq_false] at hc20; omega) | omega)
                            all_goals
                             try simp only [decide_eq_true_eq, decide_eq_false_iff_not, Bool.not_eq_true', Bool.not_eq_false', Bool.not_eq_true, Bool.not_eq_false, Option.isNone_none, Option.isNone_some, Option.isSome_none, Option.isSome_some, ne_eq, Decidable.not_not] at hc20
                             refine WC.region ?_
                             refine WL.val rfl rfl rfl rfl (r_loadAgg (vs := [_, _, _]) rfl (ev_t rfl) agg_50 size_50 (Blk.cellsL hBn)) ?_
                             refine WL.cons (SO.storeAll (us := [_, _, _]) rfl (ev_t rfl) (ev_t rfl) size_50 hB8 rfl rfl rfl rfl rfl ?_)
                             intro w13 hu13 hB8 hz13
                             have hs13 := hu13.size
                             replace hU := hU.trans hu13 (by first | exact (fun _ _ h => h) | exact (fun _ _ h => h.elim) | (intro k hl hk; (try simp only [At, New, Grow, From, No] at hk ⊢); omega) | (intro k hl hk; first | (have := hRw k hk; omega) | (simp only [At, New, Grow, From, No] at *; omega)))
                             replace hs := hs.upd hu13 (by first | exact (fun _ _ _ h => h) | (intro k hk hl hS; simp only [At] at hS; subst hS; first | exact hR5 hk | exact hR8 hk | (have := hRl _ hk; omega)))
                             replace hB5 := hB5.upd hu13 (by first | exact (fun h => h) | exact hR5 | (simp only [At]; omega))
                             replace hdr := hdr.upd hu13 (by first | exact (fun _ _ _ h => h) | (intro k hk hl hS; have h4 := hFS k hk; first | exact h4.1 hS | exact h4.1 (.inl hS) | exact h4.1 (.inr (.inl hS)) | (simp only [At] at hS; first | omega | exact h4.1 (.inr hS))))
                             replace hBa := hBa.upd hu13 (by first | exact (fun h => h) | exact hRa | (simp only [At]; omega))
                             replace hd2 := hd2.upd hu13 (by first | exact (fun _ _ _ h => h) | (intro k hk hl hS; have h4 := hRl k hS; have h5 := hRw k hS; rcases hH2 k hk with h | h; (have : k < w.heap.size := h; omega); (simp only [New] at h; omega)) | (intro k hk hl hS; simp only [At] at hS; rcases hH2 k hk with h | h; (have : k < w.heap.size := h; omega); (simp only [New] at h; omega)))
                             replace hBn := hBn.upd hu13 (by first | exact (fun h => h) | (simp only [At]; omega) | (intro h; have := hRl _ h; omega))
                             refine WL.nil ?_
                             refine WX.keep [(0, _), (3, _), (4, _), (5, _), (6, _), (7, _), (8, _), (9, _)] ⟨rfl, rfl, rfl, rfl, rfl, rfl, rfl, rfl, trivial⟩ ?_
                             have hS5 : SnapAt w13 _ w2.heap.size T.s := ⟨_, _, _, _, hB5, hdr, fun k hk => ⟨(hF5 k hk).1, by have := (hF5 k hk).2; omega⟩⟩
                             have hS8 : SnapAt w13 _ g8 x := ⟨_, _, _, _, hB8, hd2, fun k hk => ⟨(hH3 k hk).1, by have := (hH3 k hk).2; omega⟩⟩
                             have hC : Case15 w13 Rn pd t D2 T.s x ce := by
                               rcases hsc with ⟨h0, hq, hx2⟩ | ⟨h0, hT, hf⟩ | ⟨h0, _, _⟩
                               · exact .inl ⟨h0, T2, hq, hs, hx2⟩
                               · exact .inr (.inl ⟨h0, T, x, hf, hs.drum, rfl, .inl rfl⟩)
                               · omega
                             refine WX.blockNormal ?_
                             refine WX.meet [(0, _), (3, _), (4, _), (5, _), (6, _), (7, _), (8, _), (9, _)] ⟨rfl, rfl, rfl, rfl, rfl, rfl, rfl, rfl, trivial⟩ ?_
                             exact ⟨_, _, _, _, hU, by omega, hRw, (fun k hk => by have := hRl k hk; omega), hR5, hRa, hR8, hBa, hS5, hS8, hC, rfl⟩
                          · try (exfalso; first | (simp at hc20; done) | (simp only [decide_eq_true_eq, decide_eq_false_iff_not, Bool.not_eq_true', Bool.not_eq_false', Bool.not_eq_true, Bool.not_eq_false] at hc20; omega) | omega)
                            all_goals
                             try simp only [decide_eq_true_eq, decide_eq_false_iff_not, Bool.not_eq_true', Bool.not_eq_false', Bool.not_eq_true, Bool.not_eq_false, Option.isNone_none, Option.isNone_some, Option.isSome_none, Option.isSome_some, ne_eq, Decidable.not_not] at hc20
                             have hS5 : SnapAt w11 _ w2.heap.size T.s := ⟨_, _, _, _, hB5, hdr, fun k hk => ⟨(hF5 k hk).1, by have := (hF5 k hk).2; omega⟩⟩
                             have hS8 : SnapAt w11 _ g8 T.s := ⟨_, _, _, _, hB8, hdr, fun k hk => ⟨(hF5 k hk).1, by have := (hF5 k hk).2; omega⟩⟩
                             have hC : Case15 w11 Rn pd t D2 T.s T.s ce := by
                               rcases hsc with ⟨h0, hq, hx2⟩ | ⟨h0, hT, hf⟩ | ⟨h0, hT, hq⟩
                               · omega
                               · omega
                               · exact .inr (.inr ⟨h0, T, hq, by rw [← hT]; exact hs, rfl⟩)
                             refine WC.skip ?_
                             refine WX.blockNormal ?_
                             refine WX.meet [(0, _), (3, _), (4, _), (5, _), (6, _), (7, _), (8, _), (9, _)] ⟨rfl, rfl, rfl, rfl, rfl, rfl, rfl, rfl, trivial⟩ ?_
                             exact ⟨_, _, _, _, hU, by omega, hRw, (fun k hk => by have := hRl k hk; omega), hR5, hRa, hR8, hBa, hS5, hS8, hC, rfl⟩
                    · try (exfalso; first | (simp at hc13; done) | (simp only [decide_eq_true_eq, decide_eq_false_iff_not, Bool.not_eq_true', Bool.not_eq_false', Bool.not_eq_true, Bool.not_eq_false] at hc13; omega) | omega)
                      all_goals
                       try simp only [decide_eq_true_eq, decide_eq_false_iff_not, Bool.not_eq_true', Bool.not_eq_false', Bool.not_eq_true, Bool.not_eq_false, Option.isNone_none, Option.isNone_some, Option.isSome_none, Option.isSome_some, ne_eq, Decidable.not_not] at hc13
                       refine WC.seq ?_
                       refine WC.region ?_
                       refine WL.val rfl rfl rfl rfl (r_eql rfl (ev_t rfl) ev_c) ?_
                       refine WL.val rfl rfl rfl rfl (r_assign rfl (ev_t rfl)) ?_
                       refine WL.nil ?_
                       refine WX.keep [(0, _), (3, _), (4, _), (5, _), (6, _), (7, _), (8, _), (66, _)] ⟨rfl, rfl, rfl, rfl, rfl, rfl, rfl, rfl, trivial⟩ ?_
                       refine WX.next ?_
                       refine WC.cond rfl (ev_t rfl) (fun hc22 => ?_) (fun hc22 => ?_)
                       · try (exfalso; first | (simp at hc22; done) | (simp only [decide_eq_true_eq, decide_eq_false_iff_not, Bool.not_eq_true', Bool.not_eq_false', Bool.not_eq_true, Bool.not_eq_false] at hc22; omega) | omega)
                         all_goals
                          try simp only [decide_eq_true_eq, decide_eq_false_iff_not, Bool.not_eq_true', Bool.not_eq_false', Bool.not_eq_true, Bool.not_eq_false, Option.isNone_none, Option.isNone_some, Option.isSome_none, Option.isSome_some, ne_eq, Decidable.not_not] at hc22
                          refine WC.seq ?_
                          refine WC.region ?_
                          refine WL.val rfl rfl rfl rfl (r_move rfl (ev_t rfl)) ?_
                          first | refine WL.val rfl rfl rfl rfl (r_field0 rfl (ev_t rfl) fld_56_2) ?_ | refine WL.val rfl rfl rfl rfl (r_fieldAt rfl (ev_t rfl) fld_56_2) ?_
                          refine WL.val rfl rfl rfl rfl (r_load rfl (ev_t rfl) flat_5 (Blk.cell hBa rfl)) ?_
                          first | refine WL.val rfl rfl rfl rfl (r_convN rfl (ev_t rfl) some_5 int_3 (by simp only [inK]; omega)) ?_ | refine WL.val rfl rfl rfl rfl (r_conv rfl (ev_t rfl) some_5 int_3) ?_
                          first | refine WL.val rfl rfl rfl rfl (r_remN rfl (ev_t rfl) ev_c (by omega) (by omega)) ?_ | refine WL.val rfl rfl rfl rfl (r_rem rfl (ev_t rfl) ev_c (by omega)) ?_
                          refine WL.cons (SO.call (armSt hs (by omega)) rfl body_21 ⟨(ev_t rfl), (ev_t rfl), trivial⟩ rfl rfl rfl rfl ?_)
                          clear hs
                          rintro v w14 ⟨rfl, hs, hu14⟩
                          replace hQ := hQ.arm (n := a.near % 9) (by omega)
                          have hs14 := hu14.size
                          replace hU := hU.trans hu14 (by first | exact (fun _ _ h => h) | exact (fun _ _ h => h.elim) | (intro k hl hk; (try simp only [At, New, Grow, From, No] at hk ⊢); omega) | (intro k hl hk; first | (have := hRw k hk; omega) | (simp only [At, New, Grow, From, No] at *; omega)))
                          replace hB5 := hB5.upd hu14 (by first | exact (fun h => h) | exact hR5 | (simp only [At]; omega))
                          replace hdr := hdr.upd hu14 (by first | exact (fun _ _ _ h => h) | (intro k hk hl hS; have h4 := hFS k hk; first | exact h4.1 hS | exact h4.1 (.inl hS) | exact h4.1 (.inr (.inl hS)) | (simp only [At] at hS; first | omega | exact h4.1 (.inr hS))))
                          replace hBa := hBa.upd hu14 (by first | exact (fun h => h) | exact hRa | (simp only [At]; omega))
                          replace hB8 := hB8.upd hu14 (by first | exact (fun h => h) | exact hR8 | (simp only [At]; omega))
                          have hSF : SnapAt w14 (fun k => R k ∨ k = w2.heap.size) w2.heap.size T.s := ⟨_, _, _, _, hB5, hdr, fun k hk => ⟨(hFS k hk).1, by have := (hFS k hk).2; omega⟩⟩
                          refine WL.nil ?_
                          refine WX.keep [(0, _), (3, _), (4, _), (5, _), (6, _)] ⟨rfl, rfl, rfl, rfl, rfl, trivial⟩ ?_
                          refine WX.next ?_
                          refine WC.exit ?_
                          refine WX.blockPast rfl ?_
                          refine WX.thenExit ?_
                          refine WX.blockHere ?_
                          refine WX.next ?_
                          refine WC.region ?_
                          refine WL.val rfl rfl rfl rfl (r_move rfl (ev_t rfl)) ?_
                          first | refine WL.val rfl rfl rfl rfl (r_addN rfl (ev_t rfl) ev_c (by simp only [inK]; omega)) ?_ | refine WL.val rfl rfl rfl rfl (r_add rfl (ev_t rfl) ev_c) ?_
                          refine WL.val rfl rfl rfl rfl (r_assign rfl (ev_t rfl)) ?_
                          refine WL.nil ?_
                          refine WX.keep [(0, _), (3, _), (4, _), (5, _), (6, _)] ⟨rfl, rfl, rfl, rfl, rfl, trivial⟩ ?_
                          refine WX.meet [(0, _), (3, _), (4, _), (5, _), (6, _)] ⟨rfl, rfl, rfl, rfl, rfl, trivial⟩ ?_
                          exact ⟨l.length - (i + 1), by omega, i + 1, _, _, _, _, by omega, rfl, hU, by omega, hQ, hs, hRw, (fun k hk => by have := hRl k hk; omega), hR5, hSF, rfl⟩
                       · try (exfalso; first | (simp at hc22; done) | (simp only [decide_eq_true_eq, decide_eq_false_iff_not, Bool.not_eq_true', Bool.not_eq_false', Bool.not_eq_true, Bool.not_eq_false] at hc22; omega) | omega)
                         all_goals
                          try simp only [decide_eq_true_eq, decide_eq_false_iff_not, Bool.not_eq_true', Bool.not_eq_false', Bool.not_eq_true, Bool.not_eq_false, Option.isNone_none, Option.isNone_some, Option.isSome_none, Option.isSome_some, ne_eq, Decidable.not_not] at hc22
                          refine WC.region ?_
                          refine WL.val rfl rfl rfl rfl (r_move rfl (ev_t rfl)) ?_
                          refine WL.cons (SO.call (openKeep hs hQ.len hQ.off) rfl body_32 ⟨(ev_t rfl), ev_c, trivial⟩ rfl rfl rfl rfl ?_)
                          clear hs
                          rintro v w15 ⟨hu15, ⟨u, rfl⟩, hs⟩
                          have ho := (open_half (hQ.half sn0) hQ.off).2
                          have hs15 := hu15.size
                          replace hU := hU.trans hu15 (by first | exact (fun _ _ h => h) | exact (fun _ _ h => h.elim) | (intro k hl hk; (try simp only [At, New, Grow, From, No] at hk ⊢); omega) | (intro k hl hk; first | (have := hRw k hk; omega) | (simp only [At, New, Grow, From, No] at *; omega)))
                          replace hB5 := hB5.upd hu15 (by first | exact (fun h => h) | exact hR5 | (simp only [At]; omega))
                          replace hdr := hdr.upd hu15 (by first | exact (fun _ _ _ h => h) | (intro k hk hl hS; have h4 := hFS k hk; first | exact h4.1 hS | exact h4.1 (.inl hS) | exact h4.1 (.inr (.inl hS)) | (simp only [At] at hS; first | omega | exact h4.1 (.inr hS))))
                          replace hBa := hBa.upd hu15 (by first | exact (fun h => h) | exact hRa | (simp only [At]; omega))
                          replace hB8 := hB8.upd hu15 (by first | exact (fun h => h) | exact hR8 | (simp only [At]; omega))
                          have hF5 : ∀ k, FS k → (¬ (X3 (Grow R w7 w15) w2.heap.size wr.heap.size g8) k) ∧ k < w15.heap.size := fun k hk => by
                            obtain ⟨a1, a2⟩ := hFS k hk
                            exact ⟨fun hR => hR.elim (fun h => h.elim (fun h => a1 (.inl h)) (fun h => by omega)) (fun h => by have := fun h => a1 (.inr h); omega), by omega⟩
                          replace hRw : ∀ k, Grow R w7 w15 k → w.heap.size ≤ k := fun k hk => hk.elim (hRw k) (fun h => by omega)
                          replace hRl : ∀ k, Grow R w7 w15 k → k < w15.heap.size := fun k hk => hk.elim (fun h => by have := hRl k h; omega) (fun h => h.2)
                          replace hR5 : ¬ Grow R w7 w15 w2.heap.size := fun h => h.elim hR5 (fun h => by omega)
                          replace hRa : ¬ Grow R w7 w15 wr.heap.size := fun h => h.elim hRa (fun h => by omega)
                          replace hR8 : ¬ Grow R w7 w15 g8 := fun h => h.elim hR8 (fun h => by omega)
                          generalize Grow R w7 w15 = Rn at *
                          have hS5 : SnapAt w15 _ w2.heap.size T.s := ⟨_, _, _, _, hB5, hdr, hF5⟩
                          have hS8 : SnapAt w15 _ g8 T.s := ⟨_, _, _, _, hB8, hdr, hF5⟩
                          have hC : Case15 w15 Rn pd t (openD D).1 T.s T.s (openD D).2 := by
                            rcases ho with ⟨h0, hq, hT | ⟨_, hT⟩⟩ | ⟨h0, hh⟩
                            · exact .inl ⟨h0, T, by rw [hT] at hq; exact hq, hs, rfl⟩
                            · simp [sn0] at hT
                            · exact .inr (.inl ⟨h0, T, sn0, hh.falls, hs.drum, rfl, .inr rfl⟩)
                          refine WL.val rfl rfl rfl rfl (r_move rfl (ev_t rfl)) ?_
                          refine WL.val rfl rfl rfl rfl (r_extract rfl (ev_t rfl) rfl) ?_
                          refine WL.val rfl rfl rfl rfl (r_extract rfl (ev_t rfl) rfl) ?_
                          refine WL.val rfl rfl rfl rfl (r_assign rfl (ev_t rfl)) ?_
                          refine WL.nil ?_
                          refine WX.keep [(0, _), (3, _), (4, _), (5, _), (6, _), (7, _), (8, _), (9, _)] ⟨rfl, rfl, rfl, rfl, rfl, rfl, rfl, rfl, trivial⟩ ?_
                          refine WX.blockNormal ?_
                          refine WX.meet [(0, _), (3, _), (4, _), (5, _), (6, _), (7, _), (8, _), (9, _)] ⟨rfl, rfl, rfl, rfl, rfl, rfl, rfl, rfl, trivial⟩ ?_
                          exact ⟨_, _, _, _, hU, by omega, hRw, (fun k hk => by have := hRl k hk; omega), hR5, hRa, hR8, hBa, hS5, hS8, hC, rfl⟩
                · clear hU hs hB5 hdr hBa hB8 hRw hRl hR5 hRa hR8 hQ
                  rintro E wA ⟨R1, D1, n0, e, hU, hwA, hRw, hRl, hR5, hRa, hR8, hBa, hS5, hS8, hC, rfl⟩
                  -- cut 24: live [0, 3, 4, 5, 6, 7, 8, 9]
                  refine WC.cut (fun E w_ => ∃ (s n : Sn), Upd No w w_ ∧ w5.heap.size < w_.heap.size ∧ (∀ k, R1 k → k < w_.heap.size) ∧ Blk w_ wr.heap.size #[.int .u8 a.kind, .int .u64 (a.s.idx : Int), .int .u64 (a.s.term : Int), .slice Aa a.s.data.length ca, .int .u8 a.near, .int .u16 a.n, .slice Ac a.cuts.length cc] 56 ∧ SnapAt w_ (X3 R1 w2.heap.size wr.heap.size g8) w2.heap.size s ∧ SnapAt w_ (X3 R1 w2.heap.size wr.heap.size g8) g8 n ∧ Case25 w_ R1 pd t D1 s n e ∧ E = [(0, .slice (some ⟨bl, ol, none⟩) l.length cl), (3, .pointer (some ⟨pd, 0, none⟩)), (4, .pointer (some ⟨t, 0, none⟩)), (5, .pointer (some ⟨w2.heap.size, 0, none⟩)), (6, .int .i64 (i : Int)), (7, .pointer (some ⟨wr.heap.size, 0, none⟩)), (8, .pointer (some ⟨g8, 0, none⟩)), (9, .int .i64 (e : Int))]) ?_ ?_
                  · refine WC.seq ?_
                    refine WC.region ?_
                    refine WL.val rfl rfl rfl rfl (r_move rfl (ev_t rfl)) ?_
                    refine WL.val rfl rfl rfl rfl (r_eql rfl (ev_t rfl) ev_c) ?_
                    refine WL.nil ?_
                    refine WX.keep [(0, _), (3, _), (4, _), (5, _), (6, _), (7, _), (8, _), (9, _), (75, _)] ⟨rfl, rfl, rfl, rfl, rfl, rfl, rfl, rfl, rfl, trivial⟩ ?_
                    refine WX.next ?_
                    refine WC.cond rfl (ev_t rfl) (fun hc24 => ?_) (fun hc24 => ?_)
                    · try (exfalso; first | (simp at hc24; done) | (simp only [decide_eq_true_eq, decide_eq_false_iff_not, Bool.not_eq_true', Bool.not_eq_false', Bool.not_eq_true, Bool.not_eq_false] at hc24; omega) | omega)
                      all_goals
                       try simp only [decide_eq_true_eq, decide_eq_false_iff_not, Bool.not_eq_true', Bool.not_eq_false', Bool.not_eq_true, Bool.not_eq_false, Option.isNone_none, Option.isNone_some, Option.isSome_none, Option.isSome_some, ne_eq, Decidable.not_not] at hc24
                       obtain ⟨A8, n8, c8, F8, hB8, hd8, hF8⟩ := hS8
                       obtain ⟨A5', n5', c5', F5, hB5, _, _⟩ := hS5
                       refine WC.region ?_
                       refine WL.val rfl rfl rfl rfl (r_loadAgg (vs := [_, _, _]) rfl (ev_t rfl) agg_50 size_50 (Blk.cellsL hB8)) ?_
                       refine WL.cons (SO.storeAll (us := [_, _, _]) rfl (ev_t rfl) (ev_t rfl) size_50 hB5 rfl rfl rfl rfl rfl ?_)
                       intro w16 hu16 hB5 hz16
                       have hs16 := hu16.size
                       replace hU := hU.trans hu16 (by first | exact (fun _ _ h => h) | exact (fun _ _ h => h.elim) | (intro k hl hk; (try simp only [At, New, Grow, From, No] at hk ⊢); omega) | (intro k hl hk; first | (have := hRw k hk; omega) | (simp only [At, New, Grow, From, No] at *; omega)))
                       replace hBa := hBa.upd hu16 (by first | exact (fun h => h) | exact hRa | (simp only [At]; omega))
                       replace hC := hC.upd hu16 (by first | exact (fun _ _ _ h => h) | (intro k hk hl hS; simp only [At] at hS; subst hS; first | exact hR5 hk | exact hR8 hk))
                       replace hB8 := hB8.upd hu16 (by first | exact (fun h => h) | exact hR8 | (simp only [At]; omega))
                       replace hd8 := hd8.upd hu16 (by first | exact (fun _ _ _ h => h) | (intro k hk hl hS; simp only [At] at hS; exact (hF8 k hk).1 (.inr (by omega))))
                       refine WL.nil ?_
                       refine WX.keep [(0, _), (3, _), (4, _), (5, _), (6, _), (7, _), (8, _), (9, _)] ⟨rfl, rfl, rfl, rfl, rfl, rfl, rfl, rfl, trivial⟩ ?_
                       have hS5 : SnapAt w16 (X3 R1 w2.heap.size wr.heap.size g8) w2.heap.size n0 := ⟨_, _, _, _, hB5, hd8, fun k hk => ⟨(hF8 k hk).1, by have := (hF8 k hk).2; omega⟩⟩
                       have hS8 : SnapAt w16 (X3 R1 w2.heap.size wr.heap.size g8) g8 n0 := ⟨_, _, _, _, hB8, hd8, fun k hk => ⟨(hF8 k hk).1, by have := (hF8 k hk).2; omega⟩⟩
                       have hC5 : Case25 w16 R1 pd t D1 n0 n0 e := by
                         rcases hC with ⟨h0, T', hq, hs, hx⟩ | ⟨h0, _⟩ | ⟨h0, _⟩
                         · exact .inl ⟨.inl h0, T', hq, hs, hx⟩
                         · omega
                         · omega
                       refine WX.meet [(0, _), (3, _), (4, _), (5, _), (6, _), (7, _), (8, _), (9, _)] ⟨rfl, rfl, rfl, rfl, rfl, rfl, rfl, rfl, trivial⟩ ?_
                       exact ⟨_, _, hU, by omega, (fun k hk => by have := hRl k hk; omega), hBa, hS5, hS8, hC5, rfl⟩
                    · try (exfalso; first | (simp at hc24; done) | (simp only [decide_eq_true_eq, decide_eq_false_iff_not, Bool.not_eq_true', Bool.not_eq_false', Bool.not_eq_true, Bool.not_eq_false] at hc24; omega) | omega)
                      all_goals
                       try simp only [decide_eq_true_eq, decide_eq_false_iff_not, Bool.not_eq_true', Bool.not_eq_false', Bool.not_eq_true, Bool.not_eq_false, Option.isNone_none, Option.isNone_some, Option.isSome_none, Option.isSome_some, ne_eq, Decidable.not_not] at hc24
                       have hC5 : Case25 wA R1 pd t D1 T.s n0 e := by
                         rcases hC with ⟨h0, _⟩ | h | ⟨h0, h⟩
                         · omega
                         · exact .inr h
                         · exact .inl ⟨.inr h0, h⟩
                       refine WC.skip ?_
                       refine WX.meet [(0, _), (3, _), (4, _), (5, _), (6, _), (7, _), (8, _), (9, _)] ⟨rfl, rfl, rfl, rfl, rfl, rfl, rfl, rfl, trivial⟩ ?_
                       exact ⟨_, _, hU, by omega, (fun k hk => by have := hRl k hk; omega), hBa, hS5, hS8, hC5, rfl⟩
                  · clear hU hRl hBa hS5 hS8 hC
                    rintro E wB ⟨s, n1, hU, hwB, hRl, hBa, hS5, hS8, hC, rfl⟩
                    obtain ⟨he, hst⟩ := hC.start
                    -- cut 26: live [0, 3, 4, 5, 6, 7, 8, 9]
                    refine WC.cut (fun E w_ => wB = w_ ∧ E = [(0, .slice (some ⟨bl, ol, none⟩) l.length cl), (3, .pointer (some ⟨pd, 0, none⟩)), (4, .pointer (some ⟨t, 0, none⟩)), (5, .pointer (some ⟨w2.heap.size, 0, none⟩)), (6, .int .i64 (i : Int)), (7, .pointer (some ⟨wr.heap.size, 0, none⟩)), (8, .pointer (some ⟨g8, 0, none⟩)), (9, .int .i64 (e : Int))]) ?_ ?_
                    · refine WC.seq ?_
                      refine WC.region ?_
                      refine WL.val rfl rfl rfl rfl (r_move rfl (ev_t rfl)) ?_
                      refine WL.val rfl rfl rfl rfl (r_neq rfl (ev_t rfl) ev_c) ?_
                      refine WL.val rfl rfl rfl rfl (r_move rfl (ev_t rfl)) ?_
                      refine WL.cases 79 rfl (fun hb26_2 => ?_) (fun hb26_2 => ?_)
                      · try (exfalso; first | (simp at hb26_2; done) | (simp only [decide_eq_true_eq, decide_eq_false_iff_not, Bool.not_eq_true', Bool.not_eq_false', Bool.not_eq_true, Bool.not_eq_false] at hb26_2; omega) | omega)
                        all_goals
                         try simp only [decide_eq_true_eq, decide_eq_false_iff_not, Bool.not_eq_true', Bool.not_eq_false', Bool.not_eq_true, Bool.not_eq_false, Option.isNone_none, Option.isNone_some, Option.isSome_none, Option.isSome_some, ne_eq, Decidable.not_not] at hb26_2
                         refine WL.val rfl rfl rfl rfl (r_move rfl (ev_t rfl)) ?_
                         refine WL.val rfl rfl rfl rfl (r_neq rfl (ev_t rfl) ev_c) ?_
                         refine WL.val rfl rfl rfl rfl (r_pickT rfl (ev_t rfl) (ev_t rfl)) ?_
                         refine WL.val rfl rfl rfl rfl (r_move rfl (ev_t rfl)) ?_
                         refine WL.cases 83 rfl (fun hb26_6 => ?_) (fun hb26_6 => ?_)
                         · try (exfalso; first | (simp at hb26_6; done) | (simp only [decide_eq_true_eq, decide_eq_false_iff_not, Bool.not_eq_true', Bool.not_eq_false', Bool.not_eq_true, Bool.not_eq_false] at hb26_6; omega) | omega)
                           all_goals
                            try simp only [decide_eq_true_eq, decide_eq_false_iff_not, Bool.not_eq_true', Bool.not_eq_false', Bool.not_eq_true, Bool.not_eq_false, Option.isNone_none, Option.isNone_some, Option.isSome_none, Option.isSome_some, ne_eq, Decidable.not_not] at hb26_6
                            refine WL.val rfl rfl rfl rfl (r_move rfl (ev_t rfl)) ?_
                            refine WL.val rfl rfl rfl rfl (r_neq rfl (ev_t rfl) ev_c) ?_
                            refine WL.val rfl rfl rfl rfl (r_pickT rfl (ev_t rfl) (ev_t rfl)) ?_
                            refine WL.nil ?_
                            refine WX.keep [(0, _), (3, _), (4, _), (5, _), (6, _), (7, _), (8, _), (9, _), (86, _)] ⟨rfl, rfl, rfl, rfl, rfl, rfl, rfl, rfl, rfl, trivial⟩ ?_
                            refine WX.next ?_
                            refine WC.cond rfl (ev_t rfl) (fun hc26 => ?_) (fun hc26 => ?_)
                            · try simp only [decide_eq_true_eq, decide_eq_false_iff_not, Bool.not_eq_true', Bool.not_eq_false', Bool.not_eq_true, Bool.not_eq_false, Option.isNone_none, Option.isNone_some, Option.isSome_none, Option.isSome_some, ne_eq, Decidable.not_not] at hc26
                              exfalso
                              omega
                            · try (exfalso; first | (simp at hc26; done) | (simp only [decide_eq_true_eq, decide_eq_false_iff_not, Bool.not_eq_true', Bool.not_eq_false', Bool.not_eq_true, Bool.not_eq_false] at hc26; omega) | omega)
                              all_goals
                               try simp only [decide_eq_true_eq, decide_eq_false_iff_not, Bool.not_eq_true', Bool.not_eq_false', Bool.not_eq_true, Bool.not_eq_false, Option.isNone_none, Option.isNone_some, Option.isSome_none, Option.isSome_some, ne_eq, Decidable.not_not] at hc26
                               refine WC.skip ?_
                               refine WX.meet [(0, _), (3, _), (4, _), (5, _), (6, _), (7, _), (8, _), (9, _)] ⟨rfl, rfl, rfl, rfl, rfl, rfl, rfl, rfl, trivial⟩ ?_
                               exact ⟨rfl, rfl⟩
                         · try (exfalso; first | (simp at hb26_6; done) | (simp only [decide_eq_true_eq, decide_eq_false_iff_not, Bool.not_eq_true', Bool.not_eq_false', Bool.not_eq_true, Bool.not_eq_false] at hb26_6; omega) | omega)
                           all_goals
                            try simp only [decide_eq_true_eq, decide_eq_false_iff_not, Bool.not_eq_true', Bool.not_eq_false', Bool.not_eq_true, Bool.not_eq_false, Option.isNone_none, Option.isNone_some, Option.isSome_none, Option.isSome_some, ne_eq, Decidable.not_not] at hb26_6
                            refine WL.skip rfl rfl rfl ?_
                            refine WL.skip rfl rfl rfl ?_
                            refine WL.val rfl rfl rfl rfl (r_pickF rfl (ev_t rfl) ev_c) ?_
                            refine WL.nil ?_
                            refine WX.keep [(0, _), (3, _), (4, _), (5, _), (6, _), (7, _), (8, _), (9, _), (86, _)] ⟨rfl, rfl, rfl, rfl, rfl, rfl, rfl, rfl, rfl, trivial⟩ ?_
                            refine WX.next ?_
                            refine WC.cond_false rfl (ev_t rfl) ?_
                            refine WC.skip ?_
                            refine WX.meet [(0, _), (3, _), (4, _), (5, _), (6, _), (7, _), (8, _), (9, _)] ⟨rfl, rfl, rfl, rfl, rfl, rfl, rfl, rfl, trivial⟩ ?_
                            exact ⟨rfl, rfl⟩
                      · try (exfalso; first | (simp at hb26_2; done) | (simp only [decide_eq_true_eq, decide_eq_false_iff_not, Bool.not_eq_true', Bool.not_eq_false', Bool.not_eq_true, Bool.not_eq_false] at hb26_2; omega) | omega)
                        all_goals
                         try simp only [decide_eq_true_eq, decide_eq_false_iff_not, Bool.not_eq_true', Bool.not_eq_false', Bool.not_eq_true, Bool.not_eq_false, Option.isNone_none, Option.isNone_some, Option.isSome_none, Option.isSome_some, ne_eq, Decidable.not_not] at hb26_2
                         refine WL.skip rfl rfl rfl ?_
                         refine WL.skip rfl rfl rfl ?_
                         refine WL.val rfl rfl rfl rfl (r_pickF rfl (ev_t rfl) ev_c) ?_
                         refine WL.val rfl rfl rfl rfl (r_move rfl (ev_t rfl)) ?_
                         refine WL.skip rfl rfl rfl ?_
                         refine WL.skip rfl rfl rfl ?_
                         refine WL.val rfl rfl rfl rfl (r_pickF rfl (ev_t rfl) ev_c) ?_
                         refine WL.nil ?_
                         refine WX.keep [(0, _), (3, _), (4, _), (5, _), (6, _), (7, _), (8, _), (9, _), (86, _)] ⟨rfl, rfl, rfl, rfl, rfl, rfl, rfl, rfl, rfl, trivial⟩ ?_
                         refine WX.next ?_
                         refine WC.cond_false rfl (ev_t rfl) ?_
                         refine WC.skip ?_
                         refine WX.meet [(0, _), (3, _), (4, _), (5, _), (6, _), (7, _), (8, _), (9, _)] ⟨rfl, rfl, rfl, rfl, rfl, rfl, rfl, rfl, trivial⟩ ?_
                         exact ⟨rfl, rfl⟩
                    · rintro E w_ ⟨rfl, rfl⟩
                      -- cut 28: live [0, 3, 4, 5, 6]
                      refine WC.cut (fun E w_ => ∃ (R' : Nat → Prop) (D' : DS) (T' : SS) (t' : Nat), Upd No w w_ ∧ w5.heap.size < w_.heap.size ∧ Quiet 20000 D' T' ∧ St w_ R' pd t' D' T' ∧ (∀ k, R' k → w.heap.size ≤ k) ∧ (∀ k, R' k → k < w_.heap.size) ∧ (¬ R' w2.heap.size) ∧ SnapAt w_ (fun k => R' k ∨ k = w2.heap.size) w2.heap.size T'.s ∧ E = [(0, .slice (some ⟨bl, ol, none⟩) l.length cl), (3, .pointer (some ⟨pd, 0, none⟩)), (4, .pointer (some ⟨t', 0, none⟩)), (5, .pointer (some ⟨w2.heap.size, 0, none⟩)), (6, .int .i64 (i : Int))]) ?_ ?_
                      · refine WC.seq ?_
                        refine WC.region ?_
                        refine WL.val rfl rfl rfl rfl (r_move rfl (ev_t rfl)) ?_
                        refine WL.val rfl rfl rfl rfl (r_eql rfl (ev_t rfl) ev_c) ?_
                        refine WL.val rfl rfl rfl rfl (r_move rfl (ev_t rfl)) ?_
                        refine WL.cases 89 rfl (fun hb28_2 => ?_) (fun hb28_2 => ?_)
                        · try (exfalso; first | (simp at hb28_2; done) | (simp only [decide_eq_true_eq, decide_eq_false_iff_not, Bool.not_eq_true', Bool.not_eq_false', Bool.not_eq_true, Bool.not_eq_false] at hb28_2; omega) | omega)
                          all_goals
                           try simp only [decide_eq_true_eq, decide_eq_false_iff_not, Bool.not_eq_true', Bool.not_eq_false', Bool.not_eq_true, Bool.not_eq_false, Option.isNone_none, Option.isNone_some, Option.isSome_none, Option.isSome_some, ne_eq, Decidable.not_not] at hb28_2
                           refine WL.skip rfl rfl rfl ?_
                           refine WL.skip rfl rfl rfl ?_
                           refine WL.skip rfl rfl rfl ?_
                           refine WL.skip rfl rfl rfl ?_
                           refine WL.val rfl rfl rfl rfl (r_pickT rfl (ev_t rfl) ev_c) ?_
                           refine WL.nil ?_
                           refine WX.keep [(0, _), (3, _), (4, _), (5, _), (6, _), (7, _), (8, _), (94, _)] ⟨rfl, rfl, rfl, rfl, rfl, rfl, rfl, rfl, trivial⟩ ?_
                           refine WX.next ?_
                           refine WC.cond_true rfl (ev_t rfl) ?_
                           -- cut 29: live [0, 3, 4, 5, 6, 8]
                           refine WC.cut (fun E w_ => ∃ (R' : Nat → Prop) (D' : DS) (T' : SS) (t' : Nat), Upd No w w_ ∧ w5.heap.size < w_.heap.size ∧ (∀ k, R' k → w.heap.size ≤ k) ∧ (∀ k, R' k → k < w_.heap.size) ∧ (¬ R' w2.heap.size) ∧ (¬ R' g8) ∧ Quiet 20000 D' T' ∧ St w_ R' pd t' D' T' ∧ (T'.s = s ∨ T'.s = n1) ∧ SnapAt w_ (X3 R' w2.heap.size wr.heap.size g8) w2.heap.size s ∧ SnapAt w_ (X3 R' w2.heap.size wr.heap.size g8) g8 n1 ∧ E = [(0, .slice (some ⟨bl, ol, none⟩) l.length cl), (3, .pointer (some ⟨pd, 0, none⟩)), (4, .pointer (some ⟨t', 0, none⟩)), (5, .pointer (some ⟨w2.heap.size, 0, none⟩)), (6, .int .i64 (i : Int)), (8, .pointer (some ⟨g8, 0, none⟩))]) ?_ ?_
                           · refine WC.seq ?_
                             refine WC.region ?_
                             refine WL.val rfl rfl rfl rfl (r_assign rfl ev_c) ?_
                             refine WL.nil ?_
                             refine WX.keep [(0, _), (3, _), (4, _), (5, _), (6, _), (7, _), (8, _), (11, _)] ⟨rfl, rfl, rfl, rfl, rfl, rfl, rfl, rfl, trivial⟩ ?_
                             refine WX.next ?_
                             refine WC.block ?_
                             -- loop 2: live [0, 3, 4, 5, 6, 7, 8, 11]
                             refine WC.keep [(0, _), (3, _), (4, _), (5, _), (6, _), (7, _), (8, _), (11, _)] ⟨rfl, rfl, rfl, rfl, rfl, rfl, rfl, rfl, trivial⟩ ?_
                             refine WC.loop (fun q E w_ => ∃ (c : Nat) (R' : Nat → Prop) (D' : DS) (T' : SS) (x : Sn), c ≤ 2 ∧ q = 6 - c ∧ Upd No w w_ ∧ w5.heap.size < w_.heap.size ∧ Falls D' T' x ∧ IsD w_ R' pd D' ∧ T'.s = s ∧ (x = n1 ∨ x.idx = 0) ∧ (∀ k, R' k → w.heap.size ≤ k) ∧ (∀ k, R' k → k < w_.heap.size) ∧ (¬ R' w2.heap.size) ∧ (¬ R' wr.heap.size) ∧ (¬ R' g8) ∧ Blk w_ wr.heap.size #[.int .u8 a.kind, .int .u64 (a.s.idx : Int), .int .u64 (a.s.term : Int), .slice Aa a.s.data.length ca, .int .u8 a.near, .int .u16 a.n, .slice Ac a.cuts.length cc] 56 ∧ SnapAt w_ (X3 R' w2.heap.size wr.heap.size g8) w2.heap.size s ∧ SnapAt w_ (X3 R' w2.heap.size wr.heap.size g8) g8 n1 ∧ E = [(0, .slice (some ⟨bl, ol, none⟩) l.length cl), (3, .pointer (some ⟨pd, 0, none⟩)), (4, .pointer (some ⟨t, 0, none⟩)), (5, .pointer (some ⟨w2.heap.size, 0, none⟩)), (6, .int .i64 (i : Int)), (7, .pointer (some ⟨wr.heap.size, 0, none⟩)), (8, .pointer (some ⟨g8, 0, none⟩)), (11, .int .i64 (c : Int))]) (6) ?_ ?_
                             · obtain ⟨T', x, hF, hd, hTs, hx⟩ := hst
                               exact ⟨0, _, _, _, _, by omega, rfl, hU, by omega, hF, hd, hTs, hx, hRw, hRl, hR5, hRa, hR8, hBa, hS5, hS8, rfl⟩
                             · clear hU hRw hRl hR5 hRa hR8 hBa hS5 hS8 hC
                               rintro q E wl ⟨c, R2, D2, T2, x, hc2, rfl, hU, hwl, hF, hd, hTs, hx, hRw, hRl, hR5, hRa, hR8, hBa, hS5, hS8, rfl⟩
                               refine WC.seq ?_
                               refine WC.seq ?_
                               refine WC.region ?_
                               refine WL.val rfl rfl rfl rfl (r_move rfl (ev_t rfl)) ?_
                               refine WL.val rfl rfl rfl rfl (r_lss rfl (ev_t rfl) ev_c) ?_
                               refine WL.nil ?_
                               refine WX.keep [(0, _), (3, _), (4, _), (5, _), (6, _), (7, _), (8, _), (11, _), (96, _)] ⟨rfl, rfl, rfl, rfl, rfl, rfl, rfl, rfl, rfl, trivial⟩ ?_
                               refine WX.next ?_
                               refine WC.cond rfl (ev_t rfl) (fun hc30 => ?_) (fun hc30 => ?_)
                               · try (exfalso; first | (simp at hc30; done) | (simp only [decide_eq_true_eq, decide_eq_false_iff_not, Bool.not_eq_true', Bool.not_eq_false', Bool.not_eq_true, Bool.not_eq_false] at hc30; omega) | omega)
                                 all_goals
                                  try simp only [decide_eq_true_eq, decide_eq_false_iff_not, Bool.not_eq_true', Bool.not_eq_false', Bool.not_eq_true, Bool.not_eq_false, Option.isNone_none, Option.isNone_some, Option.isSome_none, Option.isSome_some, ne_eq, Decidable.not_not] at hc30
                                  refine WC.skip ?_
                                  refine WX.next ?_
                                  refine WC.seq ?_
                                  refine WC.block ?_
                                  refine WC.seq ?_
                                  refine WC.region ?_
                                  refine WL.val rfl rfl rfl rfl (r_move rfl (ev_t rfl)) ?_
                                  first | refine WL.val rfl rfl rfl rfl (r_field0 rfl (ev_t rfl) fld_56_4) ?_ | refine WL.val rfl rfl rfl rfl (r_fieldAt rfl (ev_t rfl) fld_56_4) ?_
                                  refine WL.val rfl rfl rfl rfl (r_load rfl (ev_t rfl) flat_23 (Blk.cell hBa rfl)) ?_
                                  refine WL.cons (SO.call (Restart_ok hd (hac.upd hU (fun _ _ _ h => h)) (fun k hk hl hR => by have := hRw k hR; have : k < w.heap.size := hk; omega)) rfl body_19 ⟨(ev_t rfl), (ev_t rfl), trivial⟩ rfl rfl rfl rfl ?_)
                                  clear hd
                                  rintro v w17 ⟨rfl, hd, hu17⟩
                                  replace hS5 := hS5.grow hu17 hR5 (by omega) (by omega) (by omega)
                                  replace hS8 := hS8.grow hu17 hR8 (by omega) (by omega) (by omega)
                                  have hH : Half 20000 (D2.restart a.cuts) T2 x := hF a.cuts
                                  have hoff : (D2.restart a.cuts).off = false := rfl
                                  have harm : (D2.restart a.cuts).armed = 0 := rfl
                                  have hs17 := hu17.size
                                  replace hU := hU.trans hu17 (by first | exact (fun _ _ h => h) | exact (fun _ _ h => h.elim) | (intro k hl hk; (try simp only [At, New, Grow, From, No] at hk ⊢); omega) | (intro k hl hk; first | (have := hRw k hk; omega) | (simp only [At, New, Grow, From, No] at *; omega)))
                                  replace hBa := hBa.upd hu17 (by first | exact (fun h => h) | exact hRa | (simp only [At]; omega))
                                  replace hRw : ∀ k, Grow R2 wl w17 k → w.heap.size ≤ k := fun k hk => hk.elim (hRw k) (fun h => by omega)
                                  replace hRl : ∀ k, Grow R2 wl w17 k → k < w17.heap.size := fun k hk => hk.elim (fun h => by have := hRl k h; omega) (fun h => h.2)
                                  replace hR5 : ¬ Grow R2 wl w17 w2.heap.size := fun h => h.elim hR5 (fun h => by omega)
                                  replace hRa : ¬ Grow R2 wl w17 wr.heap.size := fun h => h.elim hRa (fun h => by omega)
                                  replace hR8 : ¬ Grow R2 wl w17 g8 := fun h => h.elim hR8 (fun h => by omega)
                                  generalize Grow R2 wl w17 = R3 at *
                                  generalize D2.restart a.cuts = D3 at *
                                  refine WL.nil ?_
                                  refine WX.keep [(0, _), (3, _), (4, _), (5, _), (6, _), (7, _), (8, _), (11, _)] ⟨rfl, rfl, rfl, rfl, rfl, rfl, rfl, rfl, trivial⟩ ?_
                                  refine WX.next ?_
                                  -- cut 33: live [0, 3, 4, 5, 6, 7, 8, 11]
                                  refine WC.cut (fun E w_ => ∃ D', Upd No w w_ ∧ w5.heap.size < w_.heap.size ∧ (∀ k, R3 k → k < w_.heap.size) ∧ IsD w_ R3 pd D' ∧ Half 20000 D' T2 x ∧ D'.off = false ∧ (c = 2 → D'.armed = 0) ∧ Blk w_ wr.heap.size #[.int .u8 a.kind, .int .u64 (a.s.idx : Int), .int .u64 (a.s.term : Int), .slice Aa a.s.data.length ca, .int .u8 a.near, .int .u16 a.n, .slice Ac a.cuts.length cc] 56 ∧ SnapAt w_ (X3 R3 w2.heap.size wr.heap.size g8) w2.heap.size s ∧ SnapAt w_ (X3 R3 w2.heap.size wr.heap.size g8) g8 n1 ∧ E = [(0, .slice (some ⟨bl, ol, none⟩) l.length cl), (3, .pointer (some ⟨pd, 0, none⟩)), (4, .pointer (some ⟨t, 0, none⟩)), (5, .pointer (some ⟨w2.heap.size, 0, none⟩)), (6, .int .i64 (i : Int)), (7, .pointer (some ⟨wr.heap.size, 0, none⟩)), (8, .pointer (some ⟨g8, 0, none⟩)), (11, .int .i64 (c : Int))]) ?_ ?_
                                  · refine WC.seq ?_
                                    refine WC.region ?_
                                    refine WL.val rfl rfl rfl rfl (r_move rfl (ev_t rfl)) ?_
                                    refine WL.val rfl rfl rfl rfl (r_lss rfl (ev_t rfl) ev_c) ?_
                                    refine WL.nil ?_
                                    refine WX.keep [(0, _), (3, _), (4, _), (5, _), (6, _), (7, _), (8, _), (11, _), (104, _)] ⟨rfl, rfl, rfl, rfl, rfl, rfl, rfl, rfl, rfl, trivial⟩ ?_
                                    refine WX.next ?_
                                    refine WC.cond rfl (ev_t rfl) (fun hc33 => ?_) (fun hc33 => ?_)
                                    · try (exfalso; first | (simp at hc33; done) | (simp only [decide_eq_true_eq, decide_eq_false_iff_not, Bool.not_eq_true', Bool.not_eq_false', Bool.not_eq_true, Bool.not_eq_false] at hc33; omega) | omega)
                                      all_goals
                                       try simp only [decide_eq_true_eq, decide_eq_false_iff_not, Bool.not_eq_true', Bool.not_eq_false', Bool.not_eq_true, Bool.not_eq_false, Option.isNone_none, Option.isNone_some, Option.isSome_none, Option.isSome_some, ne_eq, Decidable.not_not] at hc33
                                       refine WC.region ?_
                                       refine WL.val rfl rfl rfl rfl (r_move rfl (ev_t rfl)) ?_
                                       first | refine WL.val rfl rfl rfl rfl (r_field0 rfl (ev_t rfl) fld_56_3) ?_ | refine WL.val rfl rfl rfl rfl (r_fieldAt rfl (ev_t rfl) fld_56_3) ?_
                                       refine WL.val rfl rfl rfl rfl (r_load rfl (ev_t rfl) flat_43 (Blk.cell hBa rfl)) ?_
                                       refine WL.val rfl rfl rfl rfl (r_move rfl (ev_t rfl)) ?_
                                       first | refine WL.val rfl rfl rfl rfl (r_mulN rfl ev_c (ev_t rfl) (by simp only [inK]; omega)) ?_ | refine WL.val rfl rfl rfl rfl (r_mul rfl ev_c (ev_t rfl)) ?_
                                       refine WL.val rfl rfl rfl rfl (r_shr rfl (ev_t rfl) (ev_t rfl) (by omega) (by simp only [IntKind.bits]; omega)) ?_
                                       obtain ⟨y, hy, hy0, hy1⟩ : ∃ y : Int, a.n / 2 ^ (4 * (c : Int)).toNat = y ∧ 0 ≤ y ∧ y ≤ 65535 := by
                                         rcases (show c = 0 ∨ c = 1 by omega) with rfl | rfl
                                         · exact ⟨_, rfl, by simp; omega, by simp; omega⟩
                                         · exact ⟨_, rfl, by simp; omega, by simp; omega⟩
                                       rw [hy]
                                       first | refine WL.val rfl rfl rfl rfl (r_convN rfl (ev_t rfl) some_43 int_3 (by simp only [inK]; omega)) ?_ | refine WL.val rfl rfl rfl rfl (r_conv rfl (ev_t rfl) some_43 int_3) ?_
                                       first | refine WL.val rfl rfl rfl rfl (r_remN rfl (ev_t rfl) ev_c (by omega) (by omega)) ?_ | refine WL.val rfl rfl rfl rfl (r_rem rfl (ev_t rfl) ev_c (by omega)) ?_
                                       refine WL.cons (SO.call (armD hd (by omega)) rfl body_21 ⟨(ev_t rfl), (ev_t rfl), trivial⟩ rfl rfl rfl rfl ?_)
                                       clear hd
                                       rintro v w18 ⟨rfl, hd, hu18⟩
                                       have hs18 := hu18.size
                                       replace hU := hU.trans hu18 (by first | exact (fun _ _ h => h) | exact (fun _ _ h => h.elim) | (intro k hl hk; (try simp only [At, New, Grow, From, No] at hk ⊢); omega) | (intro k hl hk; first | (have := hRw k hk; omega) | (simp only [At, New, Grow, From, No] at *; omega)))
                                       replace hBa := hBa.upd hu18 (by first | exact (fun h => h) | exact hRa | (simp only [At]; omega))
                                       replace hS5 := hS5.upd hu18 (by first | exact (fun h => h) | exact hR5 | (simp only [At]; omega)) (by first | exact (fun _ h _ => h.elim) | exact (fun k h _ => .inl h) | (intro k h _; simp only [At] at h; subst h; exact .inr (.inr (.inr rfl))) | (intro k h hl; simp only [At] at h; omega))
                                       replace hS8 := hS8.upd hu18 (by first | exact (fun h => h) | exact hR8 | (simp only [At]; omega)) (by first | exact (fun _ h _ => h.elim) | exact (fun k h _ => .inl h) | (intro k h _; simp only [At] at h; subst h; exact .inr (.inl rfl)) | (intro k h hl; simp only [At] at h; omega))
                                       replace hH := hH.arm (n := y % 3) (by omega)
                                       refine WL.nil ?_
                                       refine WX.keep [(0, _), (3, _), (4, _), (5, _), (6, _), (7, _), (8, _), (11, _)] ⟨rfl, rfl, rfl, rfl, rfl, rfl, rfl, rfl, trivial⟩ ?_
                                       refine WX.meet [(0, _), (3, _), (4, _), (5, _), (6, _), (7, _), (8, _), (11, _)] ⟨rfl, rfl, rfl, rfl, rfl, rfl, rfl, rfl, trivial⟩ ?_
                                       exact ⟨_, hU, by omega, (fun k hk => by have := hRl k hk; omega), hd, hH, hoff, (fun h => by first | exact harm | omega), hBa, hS5, hS8, rfl⟩
                                    · try (exfalso; first | (simp at hc33; done) | (simp only [decide_eq_true_eq, decide_eq_false_iff_not, Bool.not_eq_true', Bool.not_eq_false', Bool.not_eq_true, Bool.not_eq_false] at hc33; omega) | omega)
                                      all_goals
                                       try simp only [decide_eq_true_eq, decide_eq_false_iff_not, Bool.not_eq_true', Bool.not_eq_false', Bool.not_eq_true, Bool.not_eq_false, Option.isNone_none, Option.isNone_some, Option.isSome_none, Option.isSome_some, ne_eq, Decidable.not_not] at hc33
                                       refine WC.skip ?_
                                       refine WX.meet [(0, _), (3, _), (4, _), (5, _), (6, _), (7, _), (8, _), (11, _)] ⟨rfl, rfl, rfl, rfl, rfl, rfl, rfl, rfl, trivial⟩ ?_
                                       exact ⟨_, hU, by omega, (fun k hk => by have := hRl k hk; omega), hd, hH, hoff, (fun h => by first | exact harm | omega), hBa, hS5, hS8, rfl⟩
                                  · clear hU hRl hd hH hoff harm hBa hS5 hS8
                                    rintro E wk ⟨D4, hU, hwk, hRl, hd, hH, hoff, harm, hBa, hS5, hS8, rfl⟩
                                    refine WC.seq ?_
                                    refine WC.region ?_
                                    refine WL.val rfl rfl rfl rfl (r_move rfl (ev_t rfl)) ?_
                                    refine WL.cons (SO.call (openCase hd hRl hH hoff hx) rfl body_32 ⟨(ev_t rfl), ev_c, trivial⟩ rfl rfl rfl rfl ?_)
                                    clear hd
                                    rintro v w19 ⟨tv, e3, rfl, hu19, he0, hc⟩
                                    replace hS5 := hS5.grow hu19 hR5 (by omega) (by omega) (by omega)
                                    replace hS8 := hS8.grow hu19 hR8 (by omega) (by omega) (by omega)
                                    have hs19 := hu19.size
                                    replace hU := hU.trans hu19 (by first | exact (fun _ _ h => h) | exact (fun _ _ h => h.elim) | (intro k hl hk; (try simp only [At, New, Grow, From, No] at hk ⊢); omega) | (intro k hl hk; first | (have := hRw k hk; omega) | (simp only [At, New, Grow, From, No] at *; omega)))
                                    replace hBa := hBa.upd hu19 (by first | exact (fun h => h) | exact hRa | (simp only [At]; omega))
                                    replace hRw : ∀ k, Grow R3 wk w19 k → w.heap.size ≤ k := fun k hk => hk.elim (hRw k) (fun h => by omega)
                                    replace hRl : ∀ k, Grow R3 wk w19 k → k < w19.heap.size := fun k hk => hk.elim (fun h => by have := hRl k h; omega) (fun h => h.2)
                                    replace hR5 : ¬ Grow R3 wk w19 w2.heap.size := fun h => h.elim hR5 (fun h => by omega)
                                    replace hRa : ¬ Grow R3 wk w19 wr.heap.size := fun h => h.elim hRa (fun h => by omega)
                                    replace hR8 : ¬ Grow R3 wk w19 g8 := fun h => h.elim hR8 (fun h => by omega)
                                    refine WL.val rfl rfl rfl rfl (r_move rfl (ev_t rfl)) ?_
                                    refine WL.val rfl rfl rfl rfl (r_extract rfl (ev_t rfl) rfl) ?_
                                    refine WL.val rfl rfl rfl rfl (r_extract rfl (ev_t rfl) rfl) ?_
                                    refine WL.val rfl rfl rfl rfl (r_assign rfl (ev_t rfl)) ?_
                                    refine WL.val rfl rfl rfl rfl (r_assign rfl (ev_t rfl)) ?_
                                    refine WL.nil ?_
                                    refine WX.keep [(0, _), (3, _), (4, _), (5, _), (6, _), (7, _), (8, _), (11, _), (12, _), (13, _)] ⟨rfl, rfl, rfl, rfl, rfl, rfl, rfl, rfl, rfl, rfl, trivial⟩ ?_
                                    refine WX.next ?_
                                    refine WC.seq ?_
                                    refine WC.seq ?_
                                    refine WC.region ?_
                                    refine WL.val rfl rfl rfl rfl (r_move rfl (ev_t rfl)) ?_
                                    refine WL.val rfl rfl rfl rfl (r_eql rfl (ev_t rfl) ev_c) ?_
                                    refine WL.nil ?_
                                    refine WX.keep [(0, _), (3, _), (4, _), (5, _), (6, _), (7, _), (8, _), (11, _), (12, _), (13, _), (120, _)] ⟨rfl, rfl, rfl, rfl, rfl, rfl, rfl, rfl, rfl, rfl, rfl, trivial⟩ ?_
                                    refine WX.next ?_
                                    refine WC.cond rfl (ev_t rfl) (fun hc36 => ?_) (fun hc36 => ?_)
                                    · try (exfalso; first | (simp at hc36; done) | (simp only [decide_eq_true_eq, decide_eq_false_iff_not, Bool.not_eq_true', Bool.not_eq_false', Bool.not_eq_true, Bool.not_eq_false] at hc36; omega) | omega)
                                      all_goals
                                       try simp only [decide_eq_true_eq, decide_eq_false_iff_not, Bool.not_eq_true', Bool.not_eq_false', Bool.not_eq_true, Bool.not_eq_false, Option.isNone_none, Option.isNone_some, Option.isSome_none, Option.isSome_some, ne_eq, Decidable.not_not] at hc36
                                       obtain ⟨_, t3, D5, T5, rfl, hQ, hs, hT5⟩ := hc.resolve_right (fun h => by omega)
                                       rw [hTs] at hT5
                                       refine WC.seq ?_
                                       refine WC.region ?_
                                       refine WL.val rfl rfl rfl rfl (r_move rfl (ev_t rfl)) ?_
                                       refine WL.val rfl rfl rfl rfl (r_assign rfl (ev_t rfl)) ?_
                                       refine WL.nil ?_
                                       refine WX.keep [(0, _), (3, _), (4, _), (5, _), (6, _), (8, _)] ⟨rfl, rfl, rfl, rfl, rfl, rfl, trivial⟩ ?_
                                       refine WX.next ?_
                                       refine WC.exit ?_
                                       refine WX.thenExit ?_
                                       refine WX.blockPast rfl ?_
                                       refine WX.thenExit ?_
                                       refine WX.thenExit ?_
                                       refine WX.blockHere ?_
                                       refine WX.meet [(0, _), (3, _), (4, _), (5, _), (6, _), (8, _)] ⟨rfl, rfl, rfl, rfl, rfl, rfl, trivial⟩ ?_
                                       exact ⟨_, _, _, _, hU, by omega, hRw, hRl, hR5, hR8, hQ, hs, hT5, hS5, hS8, rfl⟩
                                    · try (exfalso; first | (simp at hc36; done) | (simp only [decide_eq_true_eq, decide_eq_false_iff_not, Bool.not_eq_true', Bool.not_eq_false', Bool.not_eq_true, Bool.not_eq_false] at hc36; omega) | omega)
                                      all_goals
                                       try simp only [decide_eq_true_eq, decide_eq_false_iff_not, Bool.not_eq_true', Bool.not_eq_false', Bool.not_eq_true, Bool.not_eq_false, Option.isNone_none, Option.isNone_some, Option.isSome_none, Option.isSome_some, ne_eq, Decidable.not_not] at hc36
                                       obtain ⟨he12, D5, hF5, hd⟩ := hc.resolve_left (fun h => by omega)
                                       have hc1 : c + 1 ≤ 2 := by have := fun h => he0 (harm h); omega
                                       refine WC.skip ?_
                                       refine WX.next ?_
                                       refine WC.seq ?_
                                       refine WC.region ?_
                                       refine WL.val rfl rfl rfl rfl (r_move rfl (ev_t rfl)) ?_
                                       refine WL.val rfl rfl rfl rfl (r_neq rfl (ev_t rfl) ev_c) ?_
                                       refine WL.nil ?_
                                       refine WX.keep [(0, _), (3, _), (4, _), (5, _), (6, _), (7, _), (8, _), (11, _), (123, _)] ⟨rfl, rfl, rfl, rfl, rfl, rfl, rfl, rfl, rfl, trivial⟩ ?_
                                       refine WX.next ?_
                                       refine WC.cond rfl (ev_t rfl) (fun hc38 => ?_) (fun hc38 => ?_)
                                       · try simp only [decide_eq_true_eq, decide_eq_false_iff_not, Bool.not_eq_true', Bool.not_eq_false', Bool.not_eq_true, Bool.not_eq_false, Option.isNone_none, Option.isNone_some, Option.isSome_none, Option.isSome_some, ne_eq, Decidable.not_not] at hc38
                                         exfalso
                                         omega
                                       · try (exfalso; first | (simp at hc38; done) | (simp only [decide_eq_true_eq, decide_eq_false_iff_not, Bool.not_eq_true', Bool.not_eq_false', Bool.not_eq_true, Bool.not_eq_false] at hc38; omega) | omega)
                                         all_goals
                                          try simp only [decide_eq_true_eq, decide_eq_false_iff_not, Bool.not_eq_true', Bool.not_eq_false', Bool.not_eq_true, Bool.not_eq_false, Option.isNone_none, Option.isNone_some, Option.isSome_none, Option.isSome_some, ne_eq, Decidable.not_not] at hc38
                                          refine WC.skip ?_
                                          refine WX.blockNormal ?_
                                          refine WX.next ?_
                                          refine WC.region ?_
                                          refine WL.val rfl rfl rfl rfl (r_move rfl (ev_t rfl)) ?_
                                          first | refine WL.val rfl rfl rfl rfl (r_addN rfl (ev_t rfl) ev_c (by simp only [inK]; omega)) ?_ | refine WL.val rfl rfl rfl rfl (r_add rfl (ev_t rfl) ev_c) ?_
                                          refine WL.val rfl rfl rfl rfl (r_assign rfl (ev_t rfl)) ?_
                                          refine WL.nil ?_
                                          refine WX.keep [(0, _), (3, _), (4, _), (5, _), (6, _), (7, _), (8, _), (11, _)] ⟨rfl, rfl, rfl, rfl, rfl, rfl, rfl, rfl, trivial⟩ ?_
                                          refine WX.meet [(0, _), (3, _), (4, _), (5, _), (6, _), (7, _), (8, _), (11, _)] ⟨rfl, rfl, rfl, rfl, rfl, rfl, rfl, rfl, trivial⟩ ?_
                                          exact ⟨6 - (c + 1), by omega, c + 1, _, _, _, _, hc1, rfl, hU, by omega, hF5, hd, hTs, hx, hRw, hRl, hR5, hRa, hR8, hBa, hS5, hS8, rfl⟩
                               · try simp only [decide_eq_true_eq, decide_eq_false_iff_not, Bool.not_eq_true', Bool.not_eq_false', Bool.not_eq_true, Bool.not_eq_false, Option.isNone_none, Option.isNone_some, Option.isSome_none, Option.isSome_some, ne_eq, Decidable.not_not] at hc30
                                 exfalso
                                 omega
                           · clear hU hRw hRl hR5 hRa hR8 hBa hS5 hS8 hC
                             rintro E wm ⟨R5, D5, T5, t5, hU, hwm, hRw, hRl, hR5, hR8, hQ, hs, hT5, hS5, hS8, rfl⟩
                             refine WC.seq ?_
                             refine WC.region ?_
                             refine WL.val rfl rfl rfl rfl (r_move rfl (ev_t rfl)) ?_
                             refine WL.cons (SO.call (armSt (n := 0) hs (by omega)) rfl body_21 ⟨(ev_t rfl), ev_c, trivial⟩ rfl rfl rfl rfl ?_)
                             clear hs
                             rintro v w20 ⟨rfl, hs, hu20⟩
                             replace hQ := hQ.arm (n := 0) (by omega)
                             have hs20 := hu20.size
                             replace hU := hU.trans hu20 (by first | exact (fun _ _ h => h) | exact (fun _ _ h => h.elim) | (intro k hl hk; (try simp only [At, New, Grow, From, No] at hk ⊢); omega) | (intro k hl hk; first | (have := hRw k hk; omega) | (simp only [At, New, Grow, From, No] at *; omega)))
                             replace hS5 := hS5.upd hu20 (by first | exact (fun h => h) | exact hR5 | (simp only [At]; omega)) (by first | exact (fun _ h _ => h.elim) | exact (fun k h _ => .inl h) | (intro k h _; simp only [At] at h; subst h; exact .inr (.inr (.inr rfl))) | (intro k h hl; simp only [At] at h; omega))
                             replace hS8 := hS8.upd hu20 (by first | exact (fun h => h) | exact hR8 | (simp only [At]; omega)) (by first | exact (fun _ h _ => h.elim) | exact (fun k h _ => .inl h) | (intro k h _; simp only [At] at h; subst h; exact .inr (.inl rfl)) | (intro k h hl; simp only [At] at h; omega))
                             refine WL.nil ?_
                             refine WX.keep [(0, _), (3, _), (4, _), (5, _), (6, _), (8, _)] ⟨rfl, rfl, rfl, rfl, rfl, rfl, trivial⟩ ?_
                             refine WX.next ?_
                             refine WC.seq ?_
                             refine WC.seq ?_
                             obtain ⟨A8, n8, c8, F8, hB8, hd8, hF8⟩ := hS8
                             obtain ⟨A5, n5, c5, FS, hB5, hdr, hFS⟩ := hS5
                             refine WC.draws' (fun u0_ u1_ => Upd No u0_ u1_) (fun j => [0, 1, 0, 1, 0, 0, 0, 1, 0, 2, 0, 0].getD j 0) (.calm 0 (.held 2 (.one 1 (.one 3 (.calm 4 (.calm 5 (.calm 6 (.held 8 (.one 7 (.one 9 (.calm 10 (.calm 11 (.done))))))))))))) mixed (by kernel_rfl) (by repeat (first | with_reducible exact Deaf.body | with_reducible apply Deaf.then | with_reducible apply Deaf.block)) ?_
                             intro w21 hu21
                             have hz21 := congrArg Array.size hu21.2.2.2
                             replace hu21 := Upd.of_draw hu21
                             have hs21 := hu21.size
                             replace hU := hU.trans hu21 (by first | exact (fun _ _ h => h) | exact (fun _ _ h => h.elim) | (intro k hl hk; (try simp only [At, New, Grow, From, No] at hk ⊢); omega) | (intro k hl hk; first | (have := hRw k hk; omega) | (simp only [At, New, Grow, From, No] at *; omega)))
                             replace hs := hs.upd hu21 (by first | exact (fun _ _ _ h => h) | (intro k hk hl hS; simp only [At] at hS; subst hS; first | exact hR5 hk | exact hR8 hk | (have := hRl _ hk; omega)))
                             replace hB8 := hB8.upd hu21 (by first | exact (fun h => h) | exact hR8 | (simp only [At]; omega))
                             replace hB5 := hB5.upd hu21 (by first | exact (fun h => h) | exact hR5 | (simp only [At]; omega))
                             replace hd8 := hd8.upd hu21 (by first | exact (fun _ _ _ h => h) | (intro k hk hl hS; simp only [At] at hS; exact (hF8 k hk).1 (.inr (by omega))))
                             replace hdr := hdr.upd hu21 (by first | exact (fun _ _ _ h => h) | (intro k hk hl hS; have h4 := hFS k hk; first | exact h4.1 hS | exact h4.1 (.inl hS) | exact h4.1 (.inr (.inl hS)) | (simp only [At] at hS; first | omega | exact h4.1 (.inr hS))))
                             have hS41 := Upd.refl No w21
                             have hB80 := hB8
                             refine WN.calm _ rfl rfl rfl rfl rfl (fun _ => r_move rfl (ev_t rfl)) ?_
                             refine WN.held _ rfl rfl rfl rfl rfl hS41 (fun w' hS => r_loadAgg (vs := [_, _, _]) rfl (ev_t rfl) agg_50 size_50 (Blk.cellsL (hB5.upd hS (fun h => h)))) ?_
                             refine WN.step _ rfl (SO.call (snapSt hs) rfl body_30 ⟨(ev_t rfl), trivial⟩ rfl rfl rfl rfl ?_)
                             rintro v w22 ⟨As, cs, rfl, hsn, hu22⟩
                             have hs22 := hu22.size
                             replace hS41 := Upd.transA hS41 hu22
                             replace hU := hU.trans hu22 (by first | exact (fun _ _ h => h) | exact (fun _ _ h => h.elim) | (intro k hl hk; (try simp only [At, New, Grow, From, No] at hk ⊢); omega) | (intro k hl hk; first | (have := hRw k hk; omega) | (simp only [At, New, Grow, From, No] at *; omega)))
                             replace hs := hs.upd hu22 (by first | exact (fun _ _ _ h => h) | (intro k hk hl hS; simp only [At] at hS; subst hS; first | exact hR5 hk | exact hR8 hk | (have := hRl _ hk; omega)))
                             replace hB8 := hB8.upd hu22 (by first | exact (fun h => h) | exact hR8 | (simp only [At]; omega))
                             replace hB5 := hB5.upd hu22 (by first | exact (fun h => h) | exact hR5 | (simp only [At]; omega))
                             replace hd8 := hd8.upd hu22 (by first | exact (fun _ _ _ h => h) | (intro k hk hl hS; simp only [At] at hS; exact (hF8 k hk).1 (.inr (by omega))))
                             replace hdr := hdr.upd hu22 (by first | exact (fun _ _ _ h => h) | (intro k hk hl hS; have h4 := hFS k hk; first | exact h4.1 hS | exact h4.1 (.inl hS) | exact h4.1 (.inr (.inl hS)) | (simp only [At] at hS; first | omega | exact h4.1 (.inr hS))))
                             refine ⟨hS41, ?_⟩
                             refine WN.step _ rfl (SO.call (same_ok (hsn.rd (by have h1 := hQ.sok.2.2; omega)) hdr) rfl body_29 ⟨(ev_t rfl), (ev_t rfl), trivial⟩ rfl rfl rfl rfl ?_)
                             rintro v w23 ⟨rfl, hu23⟩
                             have hs23 := hu23.size
                             replace hS41 := Upd.transA hS41 hu23
                             replace hU := hU.trans hu23 (by first | exact (fun _ _ h => h) | exact (fun _ _ h => h.elim) | (intro k hl hk; (try simp only [At, New, Grow, From, No] at hk ⊢); omega) | (intro k hl hk; first | (have := hRw k hk; omega) | (simp only [At, New, Grow, From, No] at *; omega)))
                             replace hs := hs.upd hu23 (by first | exact (fun _ _ _ h => h) | (intro k hk hl hS; simp only [At] at hS; subst hS; first | exact hR5 hk | exact hR8 hk | (have := hRl _ hk; omega)))
                             replace hB8 := hB8.upd hu23 (by first | exact (fun h => h) | exact hR8 | (simp only [At]; omega))
                             replace hB5 := hB5.upd hu23 (by first | exact (fun h => h) | exact hR5 | (simp only [At]; omega))
                             replace hd8 := hd8.upd hu23 (by first | exact (fun _ _ _ h => h) | (intro k hk hl hS; simp only [At] at hS; exact (hF8 k hk).1 (.inr (by omega))))
                             replace hdr := hdr.upd hu23 (by first | exact (fun _ _ _ h => h) | (intro k hk hl hS; have h4 := hFS k hk; first | exact h4.1 hS | exact h4.1 (.inl hS) | exact h4.1 (.inr (.inl hS)) | (simp only [At] at hS; first | omega | exact h4.1 (.inr hS))))
                             replace hsn := hsn.upd hu23 (by first | exact (fun _ _ _ h => h) | (intro k hk hl hS; simp only [At, New] at *; omega))
                             refine ⟨hS41, ?_⟩
                             refine WN.calm _ rfl rfl rfl rfl rfl (fun _ => r_not rfl (ev_t rfl)) ?_
                             refine WN.calm _ rfl rfl rfl rfl rfl (fun _ => r_move rfl (ev_t rfl)) ?_
                             refine WN.cases 131 rfl (fun hb41_5 => ?_) (fun hb41_5 => ?_)
                             · try (exfalso; first | (simp at hb41_5; done) | (simp only [decide_eq_true_eq, decide_eq_false_iff_not, Bool.not_eq_true', Bool.not_eq_false', Bool.not_eq_true, Bool.not_eq_false] at hb41_5; omega) | omega)
                               all_goals
                                try simp only [decide_eq_true_eq, decide_eq_false_iff_not, Bool.not_eq_true', Bool.not_eq_false', Bool.not_eq_true, Bool.not_eq_false, Option.isNone_none, Option.isNone_some, Option.isSome_none, Option.isSome_some, ne_eq, Decidable.not_not] at hb41_5
                                refine WN.calm _ rfl rfl rfl rfl rfl (fun _ => r_move rfl (ev_t rfl)) ?_
                                refine WN.held _ rfl rfl rfl rfl rfl hS41 (fun w' hS => r_loadAgg (vs := [_, _, _]) rfl (ev_t rfl) agg_50 size_50 (Blk.cellsL (hB80.upd hS (fun h => h)))) ?_
                                refine WN.step _ rfl (SO.call (snapSt hs) rfl body_30 ⟨(ev_t rfl), trivial⟩ rfl rfl rfl rfl ?_)
                                rintro v w24 ⟨As2, cs2, rfl, hsn2, hu24⟩
                                have hs24 := hu24.size
                                replace hS41 := Upd.transA hS41 hu24
                                replace hU := hU.trans hu24 (by first | exact (fun _ _ h => h) | exact (fun _ _ h => h.elim) | (intro k hl hk; (try simp only [At, New, Grow, From, No] at hk ⊢); omega) | (intro k hl hk; first | (have := hRw k hk; omega) | (simp only [At, New, Grow, From, No] at *; omega)))
                                replace hs := hs.upd hu24 (by first | exact (fun _ _ _ h => h) | (intro k hk hl hS; simp only [At] at hS; subst hS; first | exact hR5 hk | exact hR8 hk | (have := hRl _ hk; omega)))
                                replace hB8 := hB8.upd hu24 (by first | exact (fun h => h) | exact hR8 | (simp only [At]; omega))
                                replace hB5 := hB5.upd hu24 (by first | exact (fun h => h) | exact hR5 | (simp only [At]; omega))
                                replace hd8 := hd8.upd hu24 (by first | exact (fun _ _ _ h => h) | (intro k hk hl hS; simp only [At] at hS; exact (hF8 k hk).1 (.inr (by omega))))
                                replace hdr := hdr.upd hu24 (by first | exact (fun _ _ _ h => h) | (intro k hk hl hS; have h4 := hFS k hk; first | exact h4.1 hS | exact h4.1 (.inl hS) | exact h4.1 (.inr (.inl hS)) | (simp only [At] at hS; first | omega | exact h4.1 (.inr hS))))
                                replace hsn := hsn.upd hu24 (by first | exact (fun _ _ _ h => h) | (intro k hk hl hS; simp only [At, New] at *; omega))
                                refine ⟨hS41, ?_⟩
                                refine WN.step _ rfl (SO.call (same_ok (hsn2.rd (by have h1 := hQ.sok.2.2; omega)) hd8) rfl body_29 ⟨(ev_t rfl), (ev_t rfl), trivial⟩ rfl rfl rfl rfl ?_)
                                rintro v w25 ⟨rfl, hu25⟩
                                have hs25 := hu25.size
                                try replace hS41 := Upd.transA hS41 hu25
                                replace hU := hU.trans hu25 (by first | exact (fun _ _ h => h) | exact (fun _ _ h => h.elim) | (intro k hl hk; (try simp only [At, New, Grow, From, No] at hk ⊢); omega) | (intro k hl hk; first | (have := hRw k hk; omega) | (simp only [At, New, Grow, From, No] at *; omega)))
                                replace hs := hs.upd hu25 (by first | exact (fun _ _ _ h => h) | (intro k hk hl hS; simp only [At] at hS; subst hS; first | exact hR5 hk | exact hR8 hk | (have := hRl _ hk; omega)))
                                replace hB8 := hB8.upd hu25 (by first | exact (fun h => h) | exact hR8 | (simp only [At]; omega))
                                replace hB5 := hB5.upd hu25 (by first | exact (fun h => h) | exact hR5 | (simp only [At]; omega))
                                replace hd8 := hd8.upd hu25 (by first | exact (fun _ _ _ h => h) | (intro k hk hl hS; simp only [At] at hS; exact (hF8 k hk).1 (.inr (by omega))))
                                replace hdr := hdr.upd hu25 (by first | exact (fun _ _ _ h => h) | (intro k hk hl hS; have h4 := hFS k hk; first | exact h4.1 hS | exact h4.1 (.inl hS) | exact h4.1 (.inr (.inl hS)) | (simp only [At] at hS; first | omega | exact h4.1 (.inr hS))))
                                replace hsn := hsn.upd hu25 (by first | exact (fun _ _ _ h => h) | (intro k hk hl hS; simp only [At, New] at *; omega))
                                refine ⟨trivial, ?_⟩
                                refine WN.calm _ rfl rfl rfl rfl rfl (fun _ => r_not rfl (ev_t rfl)) ?_
                                refine WN.calm _ rfl rfl rfl rfl rfl (fun _ => r_pickT rfl (ev_t rfl) (ev_t rfl)) ?_
                                refine WN.done ?_
                                refine WX.keep [(0, _), (3, _), (4, _), (5, _), (6, _), (137, _)] ⟨rfl, rfl, rfl, rfl, rfl, rfl, trivial⟩ ?_
                                refine WX.next ?_
                                refine WC.cond rfl (ev_t rfl) (fun hc41 => ?_) (fun hc41 => ?_)
                                · try simp only [decide_eq_true_eq, decide_eq_false_iff_not, Bool.not_eq_true', Bool.not_eq_false', Bool.not_eq_true, Bool.not_eq_false, Option.isNone_none, Option.isNone_some, Option.isSome_none, Option.isSome_some, ne_eq, Decidable.not_not] at hc41
                                  exfalso
                                  simp_all
                                · try (exfalso; first | (simp at hc41; done) | (simp only [decide_eq_true_eq, decide_eq_false_iff_not, Bool.not_eq_true', Bool.not_eq_false', Bool.not_eq_true, Bool.not_eq_false] at hc41; omega) | omega)
                                  all_goals
                                   try simp only [decide_eq_true_eq, decide_eq_false_iff_not, Bool.not_eq_true', Bool.not_eq_false', Bool.not_eq_true, Bool.not_eq_false, Option.isNone_none, Option.isNone_some, Option.isSome_none, Option.isSome_some, ne_eq, Decidable.not_not] at hc41
                                   refine WC.skip ?_
                                   refine WX.next ?_
                                   refine WC.region ?_
                                   refine WL.val rfl rfl rfl rfl (r_move rfl (ev_t rfl)) ?_
                                   refine WL.cons (SO.call (snapSt hs) rfl body_30 ⟨(ev_t rfl), trivial⟩ rfl rfl rfl rfl ?_)
                                   rintro v w26 ⟨As3, cs3, rfl, hsn3, hu26⟩
                                   have hs26 := hu26.size
                                   replace hU := hU.trans hu26 (by first | exact (fun _ _ h => h) | exact (fun _ _ h => h.elim) | (intro k hl hk; (try simp only [At, New, Grow, From, No] at hk ⊢); omega) | (intro k hl hk; first | (have := hRw k hk; omega) | (simp only [At, New, Grow, From, No] at *; omega)))
                                   replace hs := hs.upd hu26 (by first | exact (fun _ _ _ h => h) | (intro k hk hl hS; simp only [At] at hS; subst hS; first | exact hR5 hk | exact hR8 hk | (have := hRl _ hk; omega)))
                                   replace hB8 := hB8.upd hu26 (by first | exact (fun h => h) | exact hR8 | (simp only [At]; omega))
                                   replace hB5 := hB5.upd hu26 (by first | exact (fun h => h) | exact hR5 | (simp only [At]; omega))
                                   replace hd8 := hd8.upd hu26 (by first | exact (fun _ _ _ h => h) | (intro k hk hl hS; simp only [At] at hS; exact (hF8 k hk).1 (.inr (by omega))))
                                   replace hdr := hdr.upd hu26 (by first | exact (fun _ _ _ h => h) | (intro k hk hl hS; have h4 := hFS k hk; first | exact h4.1 hS | exact h4.1 (.inl hS) | exact h4.1 (.inr (.inl hS)) | (simp only [At] at hS; first | omega | exact h4.1 (.inr hS))))
                                   replace hsn := hsn.upd hu26 (by first | exact (fun _ _ _ h => h) | (intro k hk hl hS; simp only [At, New] at *; omega))
                                   refine WL.cons (SO.storeAll (us := [_, _, _]) rfl (ev_t rfl) (ev_t rfl) size_50 hB5 rfl rfl rfl rfl rfl ?_)
                                   intro w27 hu27 hB5 hz27
                                   have hs27 := hu27.size
                                   replace hU := hU.trans hu27 (by first | exact (fun _ _ h => h) | exact (fun _ _ h => h.elim) | (intro k hl hk; (try simp only [At, New, Grow, From, No] at hk ⊢); omega) | (intro k hl hk; first | (have := hRw k hk; omega) | (simp only [At, New, Grow, From, No] at *; omega)))
                                   replace hs := hs.upd hu27 (by first | exact (fun _ _ _ h => h) | (intro k hk hl hS; simp only [At] at hS; subst hS; first | exact hR5 hk | exact hR8 hk | (have := hRl _ hk; omega)))
                                   replace hB8 := hB8.upd hu27 (by first | exact (fun h => h) | exact hR8 | (simp only [At]; omega))
                                   replace hd8 := hd8.upd hu27 (by first | exact (fun _ _ _ h => h) | (intro k hk hl hS; simp only [At] at hS; exact (hF8 k hk).1 (.inr (by omega))))
                                   replace hdr := hdr.upd hu27 (by first | exact (fun _ _ _ h => h) | (intro k hk hl hS; have h4 := hFS k hk; first | exact h4.1 hS | exact h4.1 (.inl hS) | exact h4.1 (.inr (.inl hS)) | (simp only [At] at hS; first | omega | exact h4.1 (.inr hS))))
                                   replace hsn := hsn.upd hu27 (by first | exact (fun _ _ _ h => h) | (intro k hk hl hS; simp only [At, New] at *; omega))
                                   replace hsn3 := hsn3.upd hu27 (by first | exact (fun _ _ _ h => h) | (intro k hk hl hS; simp only [At, New] at *; omega))
                                   refine WL.nil ?_
                                   refine WX.keep [(0, _), (3, _), (4, _), (5, _), (6, _)] ⟨rfl, rfl, rfl, rfl, rfl, trivial⟩ ?_
                                   have hSF : SnapAt w27 (fun k => R5 k ∨ k = w2.heap.size) w2.heap.size T5.s := ⟨_, _, _, _, hB5, hsn3.rd (by have h1 := hQ.sok.2.2; omega), fun k hk => by simp only [New] at hk; exact ⟨fun h => h.elim (fun h => by have := hRl k h; omega) (fun h => by omega), by omega⟩⟩
                                   refine WX.meet [(0, _), (3, _), (4, _), (5, _), (6, _)] ⟨rfl, rfl, rfl, rfl, rfl, trivial⟩ ?_
                                   exact ⟨_, _, _, _, hU, by omega, hQ, hs, hRw, (fun k hk => by have := hRl k hk; omega), hR5, hSF, rfl⟩
                             · try (exfalso; first | (simp at hb41_5; done) | (simp only [decide_eq_true_eq, decide_eq_false_iff_not, Bool.not_eq_true', Bool.not_eq_false', Bool.not_eq_true, Bool.not_eq_false] at hb41_5; omega) | omega)
                               all_goals
                                try simp only [decide_eq_true_eq, decide_eq_false_iff_not, Bool.not_eq_true', Bool.not_eq_false', Bool.not_eq_true, Bool.not_eq_false, Option.isNone_none, Option.isNone_some, Option.isSome_none, Option.isSome_some, ne_eq, Decidable.not_not] at hb41_5
                                refine WN.skip _ rfl rfl rfl rfl ?_
                                refine WN.heldSkip _ rfl rfl rfl rfl hS41 ?_
                                refine WN.step _ rfl (SO.skip rfl rfl rfl ?_)
                                refine ⟨hS41, ?_⟩
                                refine WN.step _ rfl (SO.skip rfl rfl rfl ?_)
                                refine ⟨trivial, ?_⟩
                                refine WN.skip _ rfl rfl rfl rfl ?_
                                refine WN.calm _ rfl rfl rfl rfl rfl (fun _ => r_pickF rfl (ev_t rfl) ev_c) ?_
                                refine WN.done ?_
                                refine WX.keep [(0, _), (3, _), (4, _), (5, _), (6, _), (137, _)] ⟨rfl, rfl, rfl, rfl, rfl, rfl, trivial⟩ ?_
                                refine WX.next ?_
                                refine WC.cond_false rfl (ev_t rfl) ?_
                                refine WC.skip ?_
                                refine WX.next ?_
                                refine WC.region ?_
                                refine WL.val rfl rfl rfl rfl (r_move rfl (ev_t rfl)) ?_
                                refine WL.cons (SO.call (snapSt hs) rfl body_30 ⟨(ev_t rfl), trivial⟩ rfl rfl rfl rfl ?_)
                                rintro v w28 ⟨As3, cs3, rfl, hsn3, hu28⟩
                                have hs28 := hu28.size
                                replace hU := hU.trans hu28 (by first | exact (fun _ _ h => h) | exact (fun _ _ h => h.elim) | (intro k hl hk; (try simp only [At, New, Grow, From, No] at hk ⊢); omega) | (intro k hl hk; first | (have := hRw k hk; omega) | (simp only [At, New, Grow, From, No] at *; omega)))
                                replace hs := hs.upd hu28 (by first | exact (fun _ _ _ h => h) | (intro k hk hl hS; simp only [At] at hS; subst hS; first | exact hR5 hk | exact hR8 hk | (have := hRl _ hk; omega)))
                                replace hB8 := hB8.upd hu28 (by first | exact (fun h => h) | exact hR8 | (simp only [At]; omega))
                                replace hB5 := hB5.upd hu28 (by first | exact (fun h => h) | exact hR5 | (simp only [At]; omega))
                                replace hd8 := hd8.upd hu28 (by first | exact (fun _ _ _ h => h) | (intro k hk hl hS; simp only [At] at hS; exact (hF8 k hk).1 (.inr (by omega))))
                                replace hdr := hdr.upd hu28 (by first | exact (fun _ _ _ h => h) | (intro k hk hl hS; have h4 := hFS k hk; first | exact h4.1 hS | exact h4.1 (.inl hS) | exact h4.1 (.inr (.inl hS)) | (simp only [At] at hS; first | omega | exact h4.1 (.inr hS))))
                                replace hsn := hsn.upd hu28 (by first | exact (fun _ _ _ h => h) | (intro k hk hl hS; simp only [At, New] at *; omega))
                                refine WL.cons (SO.storeAll (us := [_, _, _]) rfl (ev_t rfl) (ev_t rfl) size_50 hB5 rfl rfl rfl rfl rfl ?_)
                                intro w29 hu29 hB5 hz29
                                have hs29 := hu29.size
                                replace hU := hU.trans hu29 (by first | exact (fun _ _ h => h) | exact (fun _ _ h => h.elim) | (intro k hl hk; (try simp only [At, New, Grow, From, No] at hk ⊢); omega) | (intro k hl hk; first | (have := hRw k hk; omega) | (simp only [At, New, Grow, From, No] at *; omega)))
                                replace hs := hs.upd hu29 (by first | exact (fun _ _ _ h => h) | (intro k hk hl hS; simp only [At] at hS; subst hS; first | exact hR5 hk | exact hR8 hk | (have := hRl _ hk; omega)))
                                replace hB8 := hB8.upd hu29 (by first | exact (fun h => h) | exact hR8 | (simp only [At]; omega))
                                replace hd8 := hd8.upd hu29 (by first | exact (fun _ _ _ h => h) | (intro k hk hl hS; simp only [At] at hS; exact (hF8 k hk).1 (.inr (by omega))))
                                replace hdr := hdr.upd hu29 (by first | exact (fun _ _ _ h => h) | (intro k hk hl hS; have h4 := hFS k hk; first | exact h4.1 hS | exact h4.1 (.inl hS) | exact h4.1 (.inr (.inl hS)) | (simp only [At] at hS; first | omega | exact h4.1 (.inr hS))))
                                replace hsn := hsn.upd hu29 (by first | exact (fun _ _ _ h => h) | (intro k hk hl hS; simp only [At, New] at *; omega))
                                replace hsn3 := hsn3.upd hu29 (by first | exact (fun _ _ _ h => h) | (intro k hk hl hS; simp only [At, New] at *; omega))
                                refine WL.nil ?_
                                refine WX.keep [(0, _), (3, _), (4, _), (5, _), (6, _)] ⟨rfl, rfl, rfl, rfl, rfl, trivial⟩ ?_
                                have hSF : SnapAt w29 (fun k => R5 k ∨ k = w2.heap.size) w2.heap.size T5.s := ⟨_, _, _, _, hB5, hsn3.rd (by have h1 := hQ.sok.2.2; omega), fun k hk => by simp only [New] at hk; exact ⟨fun h => h.elim (fun h => by have := hRl k h; omega) (fun h => by omega), by omega⟩⟩
                                refine WX.meet [(0, _), (3, _), (4, _), (5, _), (6, _)] ⟨rfl, rfl, rfl, rfl, rfl, trivial⟩ ?_
                                exact ⟨_, _, _, _, hU, by omega, hQ, hs, hRw, (fun k hk => by have := hRl k hk; omega), hR5, hSF, rfl⟩
                        · try (exfalso; first | (simp at hb28_2; done) | (simp only [decide_eq_true_eq, decide_eq_false_iff_not, Bool.not_eq_true', Bool.not_eq_false', Bool.not_eq_true, Bool.not_eq_false] at hb28_2; omega) | omega)
                          all_goals
                           try simp only [decide_eq_true_eq, decide_eq_false_iff_not, Bool.not_eq_true', Bool.not_eq_false', Bool.not_eq_true, Bool.not_eq_false, Option.isNone_none, Option.isNone_some, Option.isSome_none, Option.isSome_some, ne_eq, Decidable.not_not] at hb28_2
                           first | refine WL.val rfl rfl rfl rfl (r_field0 rfl (ev_t rfl) fld_56_0) ?_ | refine WL.val rfl rfl rfl rfl (r_fieldAt rfl (ev_t rfl) fld_56_0) ?_
                           refine WL.val rfl rfl rfl rfl (r_load rfl (ev_t rfl) flat_5 (Blk.cell hBa rfl)) ?_
                           first | refine WL.val rfl rfl rfl rfl (r_remN rfl (ev_t rfl) ev_c (by omega) (by omega)) ?_ | refine WL.val rfl rfl rfl rfl (r_rem rfl (ev_t rfl) ev_c (by omega)) ?_
                           refine WL.val rfl rfl rfl rfl (r_gtr rfl (ev_t rfl) ev_c) ?_
                           refine WL.val rfl rfl rfl rfl (r_pickF rfl (ev_t rfl) (ev_t rfl)) ?_
                           refine WL.nil ?_
                           refine WX.keep [(0, _), (3, _), (4, _), (5, _), (6, _), (7, _), (8, _), (94, _)] ⟨rfl, rfl, rfl, rfl, rfl, rfl, rfl, rfl, trivial⟩ ?_
                           refine WX.next ?_
                           refine WC.cond rfl (ev_t rfl) (fun hc28 => ?_) (fun hc28 => ?_)
                           · try (exfalso; first | (simp at hc28; done) | (simp only [decide_eq_true_eq, decide_eq_false_iff_not, Bool.not_eq_true', Bool.not_eq_false', Bool.not_eq_true, Bool.not_eq_false] at hc28; omega) | omega)
                             all_goals
                              try simp only [decide_eq_true_eq, decide_eq_false_iff_not, Bool.not_eq_true', Bool.not_eq_false', Bool.not_eq_true, Bool.not_eq_false, Option.isNone_none, Option.isNone_some, Option.isSome_none, Option.isSome_some, ne_eq, Decidable.not_not] at hc28
                              -- cut 29: live [0, 3, 4, 5, 6, 8]
                              refine WC.cut (fun E w_ => ∃ (R' : Nat → Prop) (D' : DS) (T' : SS) (t' : Nat), Upd No w w_ ∧ w5.heap.size < w_.heap.size ∧ (∀ k, R' k → w.heap.size ≤ k) ∧ (∀ k, R' k → k < w_.heap.size) ∧ (¬ R' w2.heap.size) ∧ (¬ R' g8) ∧ Quiet 20000 D' T' ∧ St w_ R' pd t' D' T' ∧ (T'.s = s ∨ T'.s = n1) ∧ SnapAt w_ (X3 R' w2.heap.size wr.heap.size g8) w2.heap.size s ∧ SnapAt w_ (X3 R' w2.heap.size wr.heap.size g8) g8 n1 ∧ E = [(0, .slice (some ⟨bl, ol, none⟩) l.length cl), (3, .pointer (some ⟨pd, 0, none⟩)), (4, .pointer (some ⟨t', 0, none⟩)), (5, .pointer (some ⟨w2.heap.size, 0, none⟩)), (6, .int .i64 (i : Int)), (8, .pointer (some ⟨g8, 0, none⟩))]) ?_ ?_
                              · refine WC.seq ?_
                                refine WC.region ?_
                                refine WL.val rfl rfl rfl rfl (r_assign rfl ev_c) ?_
                                refine WL.nil ?_
                                refine WX.keep [(0, _), (3, _), (4, _), (5, _), (6, _), (7, _), (8, _), (11, _)] ⟨rfl, rfl, rfl, rfl, rfl, rfl, rfl, rfl, trivial⟩ ?_
                                refine WX.next ?_
                                refine WC.block ?_
                                -- loop 2: live [0, 3, 4, 5, 6, 7, 8, 11]
                                refine WC.keep [(0, _), (3, _), (4, _), (5, _), (6, _), (7, _), (8, _), (11, _)] ⟨rfl, rfl, rfl, rfl, rfl, rfl, rfl, rfl, trivial⟩ ?_
                                refine WC.loop (fun q E w_ => ∃ (c : Nat) (R' : Nat → Prop) (D' : DS) (T' : SS) (x : Sn), c ≤ 2 ∧ q = 6 - c ∧ Upd No w w_ ∧ w5.heap.size < w_.heap.size ∧ Falls D' T' x ∧ IsD w_ R' pd D' ∧ T'.s = s ∧ (x = n1 ∨ x.idx = 0) ∧ (∀ k, R' k → w.heap.size ≤ k) ∧ (∀ k, R' k → k < w_.heap.size) ∧ (¬ R' w2.heap.size) ∧ (¬ R' wr.heap.size) ∧ (¬ R' g8) ∧ Blk w_ wr.heap.size #[.int .u8 a.kind, .int .u64 (a.s.idx : Int), .int .u64 (a.s.term : Int), .slice Aa a.s.data.length ca, .int .u8 a.near, .int .u16 a.n, .slice Ac a.cuts.length cc] 56 ∧ SnapAt w_ (X3 R' w2.heap.size wr.heap.size g8) w2.heap.size s ∧ SnapAt w_ (X3 R' w2.heap.size wr.heap.size g8) g8 n1 ∧ E = [(0, .slice (some ⟨bl, ol, none⟩) l.length cl), (3, .pointer (some ⟨pd, 0, none⟩)), (4, .pointer (some ⟨t, 0, none⟩)), (5, .pointer (some ⟨w2.heap.size, 0, none⟩)), (6, .int .i64 (i : Int)), (7, .pointer (some ⟨wr.heap.size, 0, none⟩)), (8, .pointer (some ⟨g8, 0, none⟩)), (11, .int .i64 (c : Int))]) (6) ?_ ?_
                                · obtain ⟨T', x, hF, hd, hTs, hx⟩ := hst
                                  exact ⟨0, _, _, _, _, by omega, rfl, hU, by omega, hF, hd, hTs, hx, hRw, hRl, hR5, hRa, hR8, hBa, hS5, hS8, rfl⟩
                                · clear hU hRw hRl hR5 hRa hR8 hBa hS5 hS8 hC
                                  rintro q E wl ⟨c, R2, D2, T2, x, hc2, rfl, hU, hwl, hF, hd, hTs, hx, hRw, hRl, hR5, hRa, hR8, hBa, hS5, hS8, rfl⟩
                                  refine WC.seq ?_
                                  refine WC.seq ?_
                                  refine WC.region ?_
                                  refine WL.val rfl rfl rfl rfl (r_move rfl (ev_t rfl)) ?_
                                  refine WL.val rfl rfl rfl rfl (r_lss rfl (ev_t rfl) ev_c) ?_
                                  refine WL.nil ?_
                                  refine WX.keep [(0, _), (3, _), (4, _), (5, _), (6, _), (7, _), (8, _), (11, _), (96, _)] ⟨rfl, rfl, rfl, rfl, rfl, rfl, rfl, rfl, rfl, trivial⟩ ?_
                                  refine WX.next ?_
                                  refine WC.cond rfl (ev_t rfl) (fun hc30 => ?_) (fun hc30 => ?_)
                                  · try (exfalso; first | (simp at hc30; done) | (simp only [decide_eq_true_eq, decide_eq_false_iff_not, Bool.not_eq_true', Bool.not_eq_false', Bool.not_eq_true, Bool.not_eq_false] at hc30; omega) | omega)
                                    all_goals
                                     try simp only [decide_eq_true_eq, decide_eq_false_iff_not, Bool.not_eq_true', Bool.not_eq_false', Bool.not_eq_true, Bool.not_eq_false, Option.isNone_none, Option.isNone_some, Option.isSome_none, Option.isSome_some, ne_eq, Decidable.not_not] at hc30
                                     refine WC.skip ?_
                                     refine WX.next ?_
                                     refine WC.seq ?_
                                     refine WC.block ?_
                                     refine WC.seq ?_
                                     refine WC.region ?_
                                     refine WL.val rfl rfl rfl rfl (r_move rfl (ev_t rfl)) ?_
                                     first | refine WL.val rfl rfl rfl rfl (r_field0 rfl (ev_t rfl) fld_56_4) ?_ | refine WL.val rfl rfl rfl rfl (r_fieldAt rfl (ev_t rfl) fld_56_4) ?_
                                     refine WL.val rfl rfl rfl rfl (r_load rfl (ev_t rfl) flat_23 (Blk.cell hBa rfl)) ?_
                                     refine WL.cons (SO.call (Restart_ok hd (hac.upd hU (fun _ _ _ h => h)) (fun k hk hl hR => by have := hRw k hR; have : k < w.heap.size := hk; omega)) rfl body_19 ⟨(ev_t rfl), (ev_t rfl), trivial⟩ rfl rfl rfl rfl ?_)
                                     clear hd
                                     rintro v w30 ⟨rfl, hd, hu30⟩
                                     replace hS5 := hS5.grow hu30 hR5 (by omega) (by omega) (by omega)
                                     replace hS8 := hS8.grow hu30 hR8 (by omega) (by omega) (by omega)
                                     have hH : Half 20000 (D2.restart a.cuts) T2 x := hF a.cuts
                                     have hoff : (D2.restart a.cuts).off = false := rfl
                                     have harm : (D2.restart a.cuts).armed = 0 := rfl
                                     have hs30 := hu30.size
                                     replace hU := hU.trans hu30 (by first | exact (fun _ _ h => h) | exact (fun _ _ h => h.elim) | (intro k hl hk; (try simp only [At, New, Grow, From, No] at hk ⊢); omega) | (intro k hl hk; first | (have := hRw k hk; omega) | (simp only [At, New, Grow, From, No] at *; omega)))
                                     replace hBa := hBa.upd hu30 (by first | exact (fun h => h) | exact hRa | (simp only [At]; omega))
                                     replace hRw : ∀ k, Grow R2 wl w30 k → w.heap.size ≤ k := fun k hk => hk.elim (hRw k) (fun h => by omega)
                                     replace hRl : ∀ k, Grow R2 wl w30 k → k < w30.heap.size := fun k hk => hk.elim (fun h => by have := hRl k h; omega) (fun h => h.2)
                                     replace hR5 : ¬ Grow R2 wl w30 w2.heap.size := fun h => h.elim hR5 (fun h => by omega)
                                     replace hRa : ¬ Grow R2 wl w30 wr.heap.size := fun h => h.elim hRa (fun h => by omega)
                                     replace hR8 : ¬ Grow R2 wl w30 g8 := fun h => h.elim hR8 (fun h => by omega)
                                     generalize Grow R2 wl w30 = R3 at *
                                     generalize D2.restart a.cuts = D3 at *
                                     refine WL.nil ?_
                                     refine WX.keep [(0, _), (3, _), (4, _), (5, _), (6, _), (7, _), (8, _), (11, _)] ⟨rfl, rfl, rfl, rfl, rfl, rfl, rfl, rfl, trivial⟩ ?_
                                     refine WX.next ?_
                                     -- cut 33: live [0, 3, 4, 5, 6, 7, 8, 11]
                                     refine WC.cut (fun E w_ => ∃ D', Upd No w w_ ∧ w5.heap.size < w_.heap.size ∧ (∀ k, R3 k → k < w_.heap.size) ∧ IsD w_ R3 pd D' ∧ Half 20000 D' T2 x ∧ D'.off = false ∧ (c = 2 → D'.armed = 0) ∧ Blk w_ wr.heap.size #[.int .u8 a.kind, .int .u64 (a.s.idx : Int), .int .u64 (a.s.term : Int), .slice Aa a.s.data.length ca, .int .u8 a.near, .int .u16 a.n, .slice Ac a.cuts.length cc] 56 ∧ SnapAt w_ (X3 R3 w2.heap.size wr.heap.size g8) w2.heap.size s ∧ SnapAt w_ (X3 R3 w2.heap.size wr.heap.size g8) g8 n1 ∧ E = [(0, .slice (some ⟨bl, ol, none⟩) l.length cl), (3, .pointer (some ⟨pd, 0, none⟩)), (4, .pointer (some ⟨t, 0, none⟩)), (5, .pointer (some ⟨w2.heap.size, 0, none⟩)), (6, .int .i64 (i : Int)), (7, .pointer (some ⟨wr.heap.size, 0, none⟩)), (8, .pointer (some ⟨g8, 0, none⟩)), (11, .int .i64 (c : Int))]) ?_ ?_
                                     · refine WC.seq ?_
                                       refine WC.region ?_
                                       refine WL.val rfl rfl rfl rfl (r_move rfl (ev_t rfl)) ?_
                                       refine WL.val rfl rfl rfl rfl (r_lss rfl (ev_t rfl) ev_c) ?_
                                       refine WL.nil ?_
                                       refine WX.keep [(0, _), (3, _), (4, _), (5, _), (6, _), (7, _), (8, _), (11, _), (104, _)] ⟨rfl, rfl, rfl, rfl, rfl, rfl, rfl, rfl, rfl, trivial⟩ ?_
                                       refine WX.next ?_
                                       refine WC.cond rfl (ev_t rfl) (fun hc33 => ?_) (fun hc33 => ?_)
                                       · try (exfalso; first | (simp at hc33; done) | (simp only [decide_eq_true_eq, decide_eq_false_iff_not, Bool.not_eq_true', Bool.not_eq_false', Bool.not_eq_true, Bool.not_eq_false] at hc33; omega) | omega)
                                         all_goals
                                          try simp only [decide_eq_true_eq, decide_eq_false_iff_not, Bool.not_eq_true', Bool.not_eq_false', Bool.not_eq_true, Bool.not_eq_false, Option.isNone_none, Option.isNone_some, Option.isSome_none, Option.isSome_some, ne_eq, Decidable.not_not] at hc33
                                          refine WC.region ?_
                                          refine WL.val rfl rfl rfl rfl (r_move rfl (ev_t rfl)) ?_
                                          first | refine WL.val rfl rfl rfl rfl (r_field0 rfl (ev_t rfl) fld_56_3) ?_ | refine WL.val rfl rfl rfl rfl (r_fieldAt rfl (ev_t rfl) fld_56_3) ?_
                                          refine WL.val rfl rfl rfl rfl (r_load rfl (ev_t rfl) flat_43 (Blk.cell hBa rfl)) ?_
                                          refine WL.val rfl rfl rfl rfl (r_move rfl (ev_t rfl)) ?_
                                          first | refine WL.val rfl rfl rfl rfl (r_mulN rfl ev_c (ev_t rfl) (by simp only [inK]; omega)) ?_ | refine WL.val rfl rfl rfl rfl (r_mul rfl ev_c (ev_t rfl)) ?_
                                          refine WL.val rfl rfl rfl rfl (r_shr rfl (ev_t rfl) (ev_t rfl) (by omega) (by simp only [IntKind.bits]; omega)) ?_
                                          obtain ⟨y, hy, hy0, hy1⟩ : ∃ y : Int, a.n / 2 ^ (4 * (c : Int)).toNat = y ∧ 0 ≤ y ∧ y ≤ 65535 := by
                                            rcases (show c = 0 ∨ c = 1 by omega) with rfl | rfl
                                            · exact ⟨_, rfl, by simp; omega, by simp; omega⟩
                                            · exact ⟨_, rfl, by simp; omega, by simp; omega⟩
                                          rw [hy]
                                          first | refine WL.val rfl rfl rfl rfl (r_convN rfl (ev_t rfl) some_43 int_3 (by simp only [inK]; omega)) ?_ | refine WL.val rfl rfl rfl rfl (r_conv rfl (ev_t rfl) some_43 int_3) ?_
                                          first | refine WL.val rfl rfl rfl rfl (r_remN rfl (ev_t rfl) ev_c (by omega) (by omega)) ?_ | refine WL.val rfl rfl rfl rfl (r_rem rfl (ev_t rfl) ev_c (by omega)) ?_
                                          refine WL.cons (SO.call (armD hd (by omega)) rfl body_21 ⟨(ev_t rfl), (ev_t rfl), trivial⟩ rfl rfl rfl rfl ?_)
                                          clear hd
                                          rintro v w31 ⟨rfl, hd, hu31⟩
                                          have hs31 := hu31.size
                                          replace hU := hU.trans hu31 (by first | exact (fun _ _ h => h) | exact (fun _ _ h => h.elim) | (intro k hl hk; (try simp only [At, New, Grow, From, No] at hk ⊢); omega) | (intro k hl hk; first | (have := hRw k hk; omega) | (simp only [At, New, Grow, From, No] at *; omega)))
                                          replace hBa := hBa.upd hu31 (by first | exact (fun h => h) | exact hRa | (simp only [At]; omega))
                                          replace hS5 := hS5.upd hu31 (by first | exact (fun h => h) | exact hR5 | (simp only [At]; omega)) (by first | exact (fun _ h _ => h.elim) | exact (fun k h _ => .inl h) | (intro k h _; simp only [At] at h; subst h; exact .inr (.inr (.inr rfl))) | (intro k h hl; simp only [At] at h; omega))
                                          replace hS8 := hS8.upd hu31 (by first | exact (fun h => h) | exact hR8 | (simp only [At]; omega)) (by first | exact (fun _ h _ => h.elim) | exact (fun k h _ => .inl h) | (intro k h _; simp only [At] at h; subst h; exact .inr (.inl rfl)) | (intro k h hl; simp only [At] at h; omega))
                                          replace hH := hH.arm (n := y % 3) (by omega)
                                          refine WL.nil ?_
                                          refine WX.keep [(0, _), (3, _), (4, _), (5, _), (6, _), (7, _), (8, _), (11, _)] ⟨rfl, rfl, rfl, rfl, rfl, rfl, rfl, rfl, trivial⟩ ?_
                                          refine WX.meet [(0, _), (3, _), (4, _), (5, _), (6, _), (7, _), (8, _), (11, _)] ⟨rfl, rfl, rfl, rfl, rfl, rfl, rfl, rfl, trivial⟩ ?_
                                          exact ⟨_, hU, by omega, (fun k hk => by have := hRl k hk; omega), hd, hH, hoff, (fun h => by first | exact harm | omega), hBa, hS5, hS8, rfl⟩
                                       · try (exfalso; first | (simp at hc33; done) | (simp only [decide_eq_true_eq, decide_eq_false_iff_not, Bool.not_eq_true', Bool.not_eq_false', Bool.not_eq_true, Bool.not_eq_false] at hc33; omega) | omega)
                                         all_goals
                                          try simp only [decide_eq_true_eq, decide_eq_false_iff_not, Bool.not_eq_true', Bool.not_eq_false', Bool.not_eq_true, Bool.not_eq_false, Option.isNone_none, Option.isNone_some, Option.isSome_none, Option.isSome_some, ne_eq, Decidable.not_not] at hc33
                                          refine WC.skip ?_
                                          refine WX.meet [(0, _), (3, _), (4, _), (5, _), (6, _), (7, _), (8, _), (11, _)] ⟨rfl, rfl, rfl, rfl, rfl, rfl, rfl, rfl, trivial⟩ ?_
                                          exact ⟨_, hU, by omega, (fun k hk => by have := hRl k hk; omega), hd, hH, hoff, (fun h => by first | exact harm | omega), hBa, hS5, hS8, rfl⟩
                                     · clear hU hRl hd hH hoff harm hBa hS5 hS8
                                       rintro E wk ⟨D4, hU, hwk, hRl, hd, hH, hoff, harm, hBa, hS5, hS8, rfl⟩
                                       refine WC.seq ?_
                                       refine WC.region ?_
                                       refine WL.val rfl rfl rfl rfl (r_move rfl (ev_t rfl)) ?_
                                       refine WL.cons (SO.call (openCase hd hRl hH hoff hx) rfl body_32 ⟨(ev_t rfl), ev_c, trivial⟩ rfl rfl rfl rfl ?_)
                                       clear hd
                                       rintro v w32 ⟨tv, e3, rfl, hu32, he0, hc⟩
                                       replace hS5 := hS5.grow hu32 hR5 (by omega) (by omega) (by omega)
                                       replace hS8 := hS8.grow hu32 hR8 (by omega) (by omega) (by omega)
                                       have hs32 := hu32.size
                                       replace hU := hU.trans hu32 (by first | exact (fun _ _ h => h) | exact (fun _ _ h => h.elim) | (intro k hl hk; (try simp only [At, New, Grow, From, No] at hk ⊢); omega) | (intro k hl hk; first | (have := hRw k hk; omega) | (simp only [At, New, Grow, From, No] at *; omega)))
                                       replace hBa := hBa.upd hu32 (by first | exact (fun h => h) | exact hRa | (simp only [At]; omega))
                                       replace hRw : ∀ k, Grow R3 wk w32 k → w.heap.size ≤ k := fun k hk => hk.elim (hRw k) (fun h => by omega)
                                       replace hRl : ∀ k, Grow R3 wk w32 k → k < w32.heap.size := fun k hk => hk.elim (fun h => by have := hRl k h; omega) (fun h => h.2)
                                       replace hR5 : ¬ Grow R3 wk w32 w2.heap.size := fun h => h.elim hR5 (fun h => by omega)
                                       replace hRa : ¬ Grow R3 wk w32 wr.heap.size := fun h => h.elim hRa (fun h => by omega)
                                       replace hR8 : ¬ Grow R3 wk w32 g8 := fun h => h.elim hR8 (fun h => by omega)
                                       refine WL.val rfl rfl rfl rfl (r_move rfl (ev_t rfl)) ?_
                                       refine WL.val rfl rfl rfl rfl (r_extract rfl (ev_t rfl) rfl) ?_
                                       refine WL.val rfl rfl rfl rfl (r_extract rfl (ev_t rfl) rfl) ?_
                                       refine WL.val rfl rfl rfl rfl (r_assign rfl (ev_t rfl)) ?_
                                       refine WL.val rfl rfl rfl rfl (r_assign rfl (ev_t rfl)) ?_
                                       refine WL.nil ?_
                                       refine WX.keep [(0, _), (3, _), (4, _), (5, _), (6, _), (7, _), (8, _), (11, _), (12, _), (13, _)] ⟨rfl, rfl, rfl, rfl, rfl, rfl, rfl, rfl, rfl, rfl, trivial⟩ ?_
                                       refine WX.next ?_
                                       refine WC.seq ?_
                                       refine WC.seq ?_
                                       refine WC.region ?_
                                       refine WL.val rfl rfl rfl rfl (r_move rfl (ev_t rfl)) ?_
                                       refine WL.val rfl rfl rfl rfl (r_eql rfl (ev_t rfl) ev_c) ?_
                                       refine WL.nil ?_
                                       refine WX.keep [(0, _), (3, _), (4, _), (5, _), (6, _), (7, _), (8, _), (11, _), (12, _), (13, _), (120, _)] ⟨rfl, rfl, rfl, rfl, rfl, rfl, rfl, rfl, rfl, rfl, rfl, trivial⟩ ?_
                                       refine WX.next ?_
                                       refine WC.cond rfl (ev_t rfl) (fun hc36 => ?_) (fun hc36 => ?_)
                                       · try (exfalso; first | (simp at hc36; done) | (simp only [decide_eq_true_eq, decide_eq_false_iff_not, Bool.not_eq_true', Bool.not_eq_false', Bool.not_eq_true, Bool.not_eq_false] at hc36; omega) | omega)
                                         all_goals
                                          try simp only [decide_eq_true_eq, decide_eq_false_iff_not, Bool.not_eq_true', Bool.not_eq_false', Bool.not_eq_true, Bool.not_eq_false, Option.isNone_none, Option.isNone_some, Option.isSome_none, Option.isSome_some, ne_eq, Decidable.not_not] at hc36
                                          obtain ⟨_, t3, D5, T5, rfl, hQ, hs, hT5⟩ := hc.resolve_right (fun h => by omega)
                                          rw [hTs] at hT5
                                          refine WC.seq ?_
                                          refine WC.region ?_
                                          refine WL.val rfl rfl rfl rfl (r_move rfl (ev_t rfl)) ?_
                                          refine WL.val rfl rfl rfl rfl (r_assign rfl (ev_t rfl)) ?_
                                          refine WL.nil ?_
                                          refine WX.keep [(0, _), (3, _), (4, _), (5, _), (6, _), (8, _)] ⟨rfl, rfl, rfl, rfl, rfl, rfl, trivial⟩ ?_
                                          refine WX.next ?_
                                          refine WC.exit ?_
                                          refine WX.thenExit ?_
                                          refine WX.blockPast rfl ?_
                                          refine WX.thenExit ?_
                                          refine WX.thenExit ?_
                                          refine WX.blockHere ?_
                                          refine WX.meet [(0, _), (3, _), (4, _), (5, _), (6, _), (8, _)] ⟨rfl, rfl, rfl, rfl, rfl, rfl, trivial⟩ ?_
                                          exact ⟨_, _, _, _, hU, by omega, hRw, hRl, hR5, hR8, hQ, hs, hT5, hS5, hS8, rfl⟩
                                       · try (exfalso; first | (simp at hc36; done) | (simp only [decide_eq_true_eq, decide_eq_false_iff_not, Bool.not_eq_true', Bool.not_eq_false', Bool.not_eq_true, Bool.not_eq_false] at hc36; omega) | omega)
                                         all_goals
                                          try simp only [decide_eq_true_eq, decide_eq_false_iff_not, Bool.not_eq_true', Bool.not_eq_false', Bool.not_eq_true, Bool.not_eq_false, Option.isNone_none, Option.isNone_some, Option.isSome_none, Option.isSome_some, ne_eq, Decidable.not_not] at hc36
                                          obtain ⟨he12, D5, hF5, hd⟩ := hc.resolve_left (fun h => by omega)
                                          have hc1 : c + 1 ≤ 2 := by have := fun h => he0 (harm h); omega
                                          refine WC.skip ?_
                                          refine WX.next ?_
                                          refine WC.seq ?_
                                          refine WC.region ?_
                                          refine WL.val rfl rfl rfl rfl (r_move rfl (ev_t rfl)) ?_
                                          refine WL.val rfl rfl rfl rfl (r_neq rfl (ev_t rfl) ev_c) ?_
                                          refine WL.nil ?_
                                          refine WX.keep [(0, _), (3, _), (4, _), (5, _), (6, _), (7, _), (8, _), (11, _), (123, _)] ⟨rfl, rfl, rfl, rfl, rfl, rfl, rfl, rfl, rfl, trivial⟩ ?_
                                          refine WX.next ?_
                                          refine WC.cond rfl (ev_t rfl) (fun hc38 => ?_) (fun hc38 => ?_)
                                          · try simp only [decide_eq_true_eq, decide_eq_false_iff_not, Bool.not_eq_true', Bool.not_eq_false', Bool.not_eq_true, Bool.not_eq_false, Option.isNone_none, Option.isNone_some, Option.isSome_none, Option.isSome_some, ne_eq, Decidable.not_not] at hc38
                                            exfalso
                                            omega
                                          · try (exfalso; first | (simp at hc38; done) | (simp only [decide_eq_true_eq, decide_eq_false_iff_not, Bool.not_eq_true', Bool.not_eq_false', Bool.not_eq_true, Bool.not_eq_false] at hc38; omega) | omega)
                                            all_goals
                                             try simp only [decide_eq_true_eq, decide_eq_false_iff_not, Bool.not_eq_true', Bool.not_eq_false', Bool.not_eq_true, Bool.not_eq_false, Option.isNone_none, Option.isNone_some, Option.isSome_none, Option.isSome_some, ne_eq, Decidable.not_not] at hc38
                                             refine WC.skip ?_
                                             refine WX.blockNormal ?_
                                             refine WX.next ?_
                                             refine WC.region ?_
                                             refine WL.val rfl rfl rfl rfl (r_move rfl (ev_t rfl)) ?_
                                             first | refine WL.val rfl rfl rfl rfl (r_addN rfl (ev_t rfl) ev_c (by simp only [inK]; omega)) ?_ | refine WL.val rfl rfl rfl rfl (r_add rfl (ev_t rfl) ev_c) ?_
                                             refine WL.val rfl rfl rfl rfl (r_assign rfl (ev_t rfl)) ?_
                                             refine WL.nil ?_
                                             refine WX.keep [(0, _), (3, _), (4, _), (5, _), (6, _), (7, _), (8, _), (11, _)] ⟨rfl, rfl, rfl, rfl, rfl, rfl, rfl, rfl, trivial⟩ ?_
                                             refine WX.meet [(0, _), (3, _), (4, _), (5, _), (6, _), (7, _), (8, _), (11, _)] ⟨rfl, rfl, rfl, rfl, rfl, rfl, rfl, rfl, trivial⟩ ?_
                                             exact ⟨6 - (c + 1), by omega, c + 1, _, _, _, _, hc1, rfl, hU, by omega, hF5, hd, hTs, hx, hRw, hRl, hR5, hRa, hR8, hBa, hS5, hS8, rfl⟩
                                  · try simp only [decide_eq_true_eq, decide_eq_false_iff_not, Bool.not_eq_true', Bool.not_eq_false', Bool.not_eq_true, Bool.not_eq_false, Option.isNone_none, Option.isNone_some, Option.isSome_none, Option.isSome_some, ne_eq, Decidable.not_not] at hc30
                                    exfalso
                                    omega
                              · clear hU hRw hRl hR5 hRa hR8 hBa hS5 hS8 hC
                                rintro E wm ⟨R5, D5, T5, t5, hU, hwm, hRw, hRl, hR5, hR8, hQ, hs, hT5, hS5, hS8, rfl⟩
                                refine WC.seq ?_
                                refine WC.region ?_
                                refine WL.val rfl rfl rfl rfl (r_move rfl (ev_t rfl)) ?_
                                refine WL.cons (SO.call (armSt (n := 0) hs (by omega)) rfl body_21 ⟨(ev_t rfl), ev_c, trivial⟩ rfl rfl rfl rfl ?_)
                                clear hs
                                rintro v w33 ⟨rfl, hs, hu33⟩
                                replace hQ := hQ.arm (n := 0) (by omega)
                                have hs33 := hu33.size
                                replace hU := hU.trans hu33 (by first | exact (fun _ _ h => h) | exact (fun _ _ h => h.elim) | (intro k hl hk; (try simp only [At, New, Grow, From, No] at hk ⊢); omega) | (intro k hl hk; first | (have := hRw k hk; omega) | (simp only [At, New, Grow, From, No] at *; omega)))
                                replace hS5 := hS5.upd hu33 (by first | exact (fun h => h) | exact hR5 | (simp only [At]; omega)) (by first | exact (fun _ h _ => h.elim) | exact (fun k h _ => .inl h) | (intro k h _; simp only [At] at h; subst h; exact .inr (.inr (.inr rfl))) | (intro k h hl; simp only [At] at h; omega))
                                replace hS8 := hS8.upd hu33 (by first | exact (fun h => h) | exact hR8 | (simp only [At]; omega)) (by first | exact (fun _ h _ => h.elim) | exact (fun k h _ => .inl h) | (intro k h _; simp only [At] at h; subst h; exact .inr (.inl rfl)) | (intro k h hl; simp only [At] at h; omega))
                                refine WL.nil ?_
                                refine WX.keep [(0, _), (3, _), (4, _), (5, _), (6, _), (8, _)] ⟨rfl, rfl, rfl, rfl, rfl, rfl, trivial⟩ ?_
                                refine WX.next ?_
                                refine WC.seq ?_
                                refine WC.seq ?_
                                obtain ⟨A8, n8, c8, F8, hB8, hd8, hF8⟩ := hS8
                                obtain ⟨A5, n5, c5, FS, hB5, hdr, hFS⟩ := hS5
                                refine WC.draws' (fun u0_ u1_ => Upd No u0_ u1_) (fun j => [0, 1, 0, 1, 0, 0, 0, 1, 0, 2, 0, 0].getD j 0) (.calm 0 (.held 2 (.one 1 (.one 3 (.calm 4 (.calm 5 (.calm 6 (.held 8 (.one 7 (.one 9 (.calm 10 (.calm 11 (.done))))))))))))) mixed (by kernel_rfl) (by repeat (first | with_reducible exact Deaf.body | with_reducible apply Deaf.then | with_reducible apply Deaf.block)) ?_
                                intro w34 hu34
                                have hz34 := congrArg Array.size hu34.2.2.2
                                replace hu34 := Upd.of_draw hu34
                                have hs34 := hu34.size
                                replace hU := hU.trans hu34 (by first | exact (fun _ _ h => h) | exact (fun _ _ h => h.elim) | (intro k hl hk; (try simp only [At, New, Grow, From, No] at hk ⊢); omega) | (intro k hl hk; first | (have := hRw k hk; omega) | (simp only [At, New, Grow, From, No] at *; omega)))
                                replace hs := hs.upd hu34 (by first | exact (fun _ _ _ h => h) | (intro k hk hl hS; simp only [At] at hS; subst hS; first | exact hR5 hk | exact hR8 hk | (have := hRl _ hk; omega)))
                                replace hB8 := hB8.upd hu34 (by first | exact (fun h => h) | exact hR8 | (simp only [At]; omega))
                                replace hB5 := hB5.upd hu34 (by first | exact (fun h => h) | exact hR5 | (simp only [At]; omega))
                                replace hd8 := hd8.upd hu34 (by first | exact (fun _ _ _ h => h) | (intro k hk hl hS; simp only [At] at hS; exact (hF8 k hk).1 (.inr (by omega))))
                                replace hdr := hdr.upd hu34 (by first | exact (fun _ _ _ h => h) | (intro k hk hl hS; have h4 := hFS k hk; first | exact h4.1 hS | exact h4.1 (.inl hS) | exact h4.1 (.inr (.inl hS)) | (simp only [At] at hS; first | omega | exact h4.1 (.inr hS))))
                                have hS41 := Upd.refl No w34
                                have hB80 := hB8
                                refine WN.calm _ rfl rfl rfl rfl rfl (fun _ => r_move rfl (ev_t rfl)) ?_
                                refine WN.held _ rfl rfl rfl rfl rfl hS41 (fun w' hS => r_loadAgg (vs := [_, _, _]) rfl (ev_t rfl) agg_50 size_50 (Blk.cellsL (hB5.upd hS (fun h => h)))) ?_
                                refine WN.step _ rfl (SO.call (snapSt hs) rfl body_30 ⟨(ev_t rfl), trivial⟩ rfl rfl rfl rfl ?_)
                                rintro v w35 ⟨As, cs, rfl, hsn, hu35⟩
                                have hs35 := hu35.size
                                replace hS41 := Upd.transA hS41 hu35
                                replace hU := hU.trans hu35 (by first | exact (fun _ _ h => h) | exact (fun _ _ h => h.elim) | (intro k hl hk; (try simp only [At, New, Grow, From, No] at hk ⊢); omega) | (intro k hl hk; first | (have := hRw k hk; omega) | (simp only [At, New, Grow, From, No] at *; omega)))
                                replace hs := hs.upd hu35 (by first | exact (fun _ _ _ h => h) | (intro k hk hl hS; simp only [At] at hS; subst hS; first | exact hR5 hk | exact hR8 hk | (have := hRl _ hk; omega)))
                                replace hB8 := hB8.upd hu35 (by first | exact (fun h => h) | exact hR8 | (simp only [At]; omega))
                                replace hB5 := hB5.upd hu35 (by first | exact (fun h => h) | exact hR5 | (simp only [At]; omega))
                                replace hd8 := hd8.upd hu35 (by first | exact (fun _ _ _ h => h) | (intro k hk hl hS; simp only [At] at hS; exact (hF8 k hk).1 (.inr (by omega))))
                                replace hdr := hdr.upd hu35 (by first | exact (fun _ _ _ h => h) | (intro k hk hl hS; have h4 := hFS k hk; first | exact h4.1 hS | exact h4.1 (.inl hS) | exact h4.1 (.inr (.inl hS)) | (simp only [At] at hS; first | omega | exact h4.1 (.inr hS))))
                                refine ⟨hS41, ?_⟩
                                refine WN.step _ rfl (SO.call (same_ok (hsn.rd (by have h1 := hQ.sok.2.2; omega)) hdr) rfl body_29 ⟨(ev_t rfl), (ev_t rfl), trivial⟩ rfl rfl rfl rfl ?_)
                                rintro v w36 ⟨rfl, hu36⟩
                                have hs36 := hu36.size
                                replace hS41 := Upd.transA hS41 hu36
                                replace hU := hU.trans hu36 (by first | exact (fun _ _ h => h) | exact (fun _ _ h => h.elim) | (intro k hl hk; (try simp only [At, New, Grow, From, No] at hk ⊢); omega) | (intro k hl hk; first | (have := hRw k hk; omega) | (simp only [At, New, Grow, From, No] at *; omega)))
                                replace hs := hs.upd hu36 (by first | exact (fun _ _ _ h => h) | (intro k hk hl hS; simp only [At] at hS; subst hS; first | exact hR5 hk | exact hR8 hk | (have := hRl _ hk; omega)))
                                replace hB8 := hB8.upd hu36 (by first | exact (fun h => h) | exact hR8 | (simp only [At]; omega))
                                replace hB5 := hB5.upd hu36 (by first | exact (fun h => h) | exact hR5 | (simp only [At]; omega))
                                replace hd8 := hd8.upd hu36 (by first | exact (fun _ _ _ h => h) | (intro k hk hl hS; simp only [At] at hS; exact (hF8 k hk).1 (.inr (by omega))))
                                replace hdr := hdr.upd hu36 (by first | exact (fun _ _ _ h => h) | (intro k hk hl hS; have h4 := hFS k hk; first | exact h4.1 hS | exact h4.1 (.inl hS) | exact h4.1 (.inr (.inl hS)) | (simp only [At] at hS; first | omega | exact h4.1 (.inr hS))))
                                replace hsn := hsn.upd hu36 (by first | exact (fun _ _ _ h => h) | (intro k hk hl hS; simp only [At, New] at *; omega))
                                refine ⟨hS41, ?_⟩
                                refine WN.calm _ rfl rfl rfl rfl rfl (fun _ => r_not rfl (ev_t rfl)) ?_
                                refine WN.calm _ rfl rfl rfl rfl rfl (fun _ => r_move rfl (ev_t rfl)) ?_
                                refine WN.cases 131 rfl (fun hb41_5 => ?_) (fun hb41_5 => ?_)
                                · try (exfalso; first | (simp at hb41_5; done) | (simp only [decide_eq_true_eq, decide_eq_false_iff_not, Bool.not_eq_true', Bool.not_eq_false', Bool.not_eq_true, Bool.not_eq_false] at hb41_5; omega) | omega)
                                  all_goals
                                   try simp only [decide_eq_true_eq, decide_eq_false_iff_not, Bool.not_eq_true', Bool.not_eq_false', Bool.not_eq_true, Bool.not_eq_false, Option.isNone_none, Option.isNone_some, Option.isSome_none, Option.isSome_some, ne_eq, Decidable.not_not] at hb41_5
                                   refine WN.calm _ rfl rfl rfl rfl rfl (fun _ => r_move rfl (ev_t rfl)) ?_
                                   refine WN.held _ rfl rfl rfl rfl rfl hS41 (fun w' hS => r_loadAgg (vs := [_, _, _]) rfl (ev_t rfl) agg_50 size_50 (Blk.cellsL (hB80.upd hS (fun h => h)))) ?_
                                   refine WN.step _ rfl (SO.call (snapSt hs) rfl body_30 ⟨(ev_t rfl), trivial⟩ rfl rfl rfl rfl ?_)
                                   rintro v w37 ⟨As2, cs2, rfl, hsn2, hu37⟩
                                   have hs37 := hu37.size
                                   replace hS41 := Upd.transA hS41 hu37
                                   replace hU := hU.trans hu37 (by first | exact (fun _ _ h => h) | exact (fun _ _ h => h.elim) | (intro k hl hk; (try simp only [At, New, Grow, From, No] at hk ⊢); omega) | (intro k hl hk; first | (have := hRw k hk; omega) | (simp only [At, New, Grow, From, No] at *; omega)))
                                   replace hs := hs.upd hu37 (by first | exact (fun _ _ _ h => h) | (intro k hk hl hS; simp only [At] at hS; subst hS; first | exact hR5 hk | exact hR8 hk | (have := hRl _ hk; omega)))
                                   replace hB8 := hB8.upd hu37 (by first | exact (fun h => h) | exact hR8 | (simp only [At]; omega))
                                   replace hB5 := hB5.upd hu37 (by first | exact (fun h => h) | exact hR5 | (simp only [At]; omega))
                                   replace hd8 := hd8.upd hu37 (by first | exact (fun _ _ _ h => h) | (intro k hk hl hS; simp only [At] at hS; exact (hF8 k hk).1 (.inr (by omega))))
                                   replace hdr := hdr.upd hu37 (by first | exact (fun _ _ _ h => h) | (intro k hk hl hS; have h4 := hFS k hk; first | exact h4.1 hS | exact h4.1 (.inl hS) | exact h4.1 (.inr (.inl hS)) | (simp only [At] at hS; first | omega | exact h4.1 (.inr hS))))
                                   replace hsn := hsn.upd hu37 (by first | exact (fun _ _ _ h => h) | (intro k hk hl hS; simp only [At, New] at *; omega))
                                   refine ⟨hS41, ?_⟩
                                   refine WN.step _ rfl (SO.call (same_ok (hsn2.rd (by have h1 := hQ.sok.2.2; omega)) hd8) rfl body_29 ⟨(ev_t rfl), (ev_t rfl), trivial⟩ rfl rfl rfl rfl ?_)
                                   rintro v w38 ⟨rfl, hu38⟩
                                   have hs38 := hu38.size
                                   try replace hS41 := Upd.transA hS41 hu38
                                   replace hU := hU.trans hu38 (by first | exact (fun _ _ h => h) | exact (fun _ _ h => h.elim) | (intro k hl hk; (try simp only [At, New, Grow, From, No] at hk ⊢); omega) | (intro k hl hk; first | (have := hRw k hk; omega) | (simp only [At, New, Grow, From, No] at *; omega)))
                                   replace hs := hs.upd hu38 (by first | exact (fun _ _ _ h => h) | (intro k hk hl hS; simp only [At] at hS; subst hS; first | exact hR5 hk | exact hR8 hk | (have := hRl _ hk; omega)))
                                   replace hB8 := hB8.upd hu38 (by first | exact (fun h => h) | exact hR8 | (simp only [At]; omega))
                                   replace hB5 := hB5.upd hu38 (by first | exact (fun h => h) | exact hR5 | (simp only [At]; omega))
                                   replace hd8 := hd8.upd hu38 (by first | exact (fun _ _ _ h => h) | (intro k hk hl hS; simp only [At] at hS; exact (hF8 k hk).1 (.inr (by omega))))
                                   replace hdr := hdr.upd hu38 (by first | exact (fun _ _ _ h => h) | (intro k hk hl hS; have h4 := hFS k hk; first | exact h4.1 hS | exact h4.1 (.inl hS) | exact h4.1 (.inr (.inl hS)) | (simp only [At] at hS; first | omega | exact h4.1 (.inr hS))))
                                   replace hsn := hsn.upd hu38 (by first | exact (fun _ _ _ h => h) | (intro k hk hl hS; simp only [At, New] at *; omega))
                                   refine ⟨trivial, ?_⟩
                                   refine WN.calm _ rfl rfl rfl rfl rfl (fun _ => r_not rfl (ev_t rfl)) ?_
                                   refine WN.calm _ rfl rfl rfl rfl rfl (fun _ => r_pickT rfl (ev_t rfl) (ev_t rfl)) ?_
                                   refine WN.done ?_
                                   refine WX.keep [(0, _), (3, _), (4, _), (5, _), (6, _), (137, _)] ⟨rfl, rfl, rfl, rfl, rfl, rfl, trivial⟩ ?_
                                   refine WX.next ?_
                                   refine WC.cond rfl (ev_t rfl) (fun hc41 => ?_) (fun hc41 => ?_)
                                   · try simp only [decide_eq_true_eq, decide_eq_false_iff_not, Bool.not_eq_true', Bool.not_eq_false', Bool.not_eq_true, Bool.not_eq_false, Option.isNone_none, Option.isNone_some, Option.isSome_none, Option.isSome_some, ne_eq, Decidable.not_not] at hc41
                                     exfalso
                                     simp_all
                                   · try (exfalso; first | (simp at hc41; done) | (simp only [decide_eq_true_eq, decide_eq_false_iff_not, Bool.not_eq_true', Bool.not_eq_false', Bool.not_eq_true, Bool.not_eq_false] at hc41; omega) | omega)
                                     all_goals
                                      try simp only [decide_eq_true_eq, decide_eq_false_iff_not, Bool.not_eq_true', Bool.not_eq_false', Bool.not_eq_true, Bool.not_eq_false, Option.isNone_none, Option.isNone_some, Option.isSome_none, Option.isSome_some, ne_eq, Decidable.not_not] at hc41
                                      refine WC.skip ?_
                                      refine WX.next ?_
                                      refine WC.region ?_
                                      refine WL.val rfl rfl rfl rfl (r_move rfl (ev_t rfl)) ?_
                                      refine WL.cons (SO.call (snapSt hs) rfl body_30 ⟨(ev_t rfl), trivial⟩ rfl rfl rfl rfl ?_)
                                      rintro v w39 ⟨As3, cs3, rfl, hsn3, hu39⟩
                                      have hs39 := hu39.size
                                      replace hU := hU.trans hu39 (by first | exact (fun _ _ h => h) | exact (fun _ _ h => h.elim) | (intro k hl hk; (try simp only [At, New, Grow, From, No] at hk ⊢); omega) | (intro k hl hk; first | (have := hRw k hk; omega) | (simp only [At, New, Grow, From, No] at *; omega)))
                                      replace hs := hs.upd hu39 (by first | exact (fun _ _ _ h => h) | (intro k hk hl hS; simp only [At] at hS; subst hS; first | exact hR5 hk | exact hR8 hk | (have := hRl _ hk; omega)))
                                      replace hB8 := hB8.upd hu39 (by first | exact (fun h => h) | exact hR8 | (simp only [At]; omega))
                                      replace hB5 := hB5.upd hu39 (by first | exact (fun h => h) | exact hR5 | (simp only [At]; omega))
                                      replace hd8 := hd8.upd hu39 (by first | exact (fun _ _ _ h => h) | (intro k hk hl hS; simp only [At] at hS; exact (hF8 k hk).1 (.inr (by omega))))
                                      replace hdr := hdr.upd hu39 (by first | exact (fun _ _ _ h => h) | (intro k hk hl hS; have h4 := hFS k hk; first | exact h4.1 hS | exact h4.1 (.inl hS) | exact h4.1 (.inr (.inl hS)) | (simp only [At] at hS; first | omega | exact h4.1 (.inr hS))))
                                      replace hsn := hsn.upd hu39 (by first | exact (fun _ _ _ h => h) | (intro k hk hl hS; simp only [At, New] at *; omega))
                                      refine WL.cons (SO.storeAll (us := [_, _, _]) rfl (ev_t rfl) (ev_t rfl) size_50 hB5 rfl rfl rfl rfl rfl ?_)
                                      intro w40 hu40 hB5 hz40
                                      have hs40 := hu40.size
                                      replace hU := hU.trans hu40 (by first | exact (fun _ _ h => h) | exact (fun _ _ h => h.elim) | (intro k hl hk; (try simp only [At, New, Grow, From, No] at hk ⊢); omega) | (intro k hl hk; first | (have := hRw k hk; omega) | (simp only [At, New, Grow, From, No] at *; omega)))
                                      replace hs := hs.upd hu40 (by first | exact (fun _ _ _ h => h) | (intro k hk hl hS; simp only [At] at hS; subst hS; first | exact hR5 hk | exact hR8 hk | (have := hRl _ hk; omega)))
                                      replace hB8 := hB8.upd hu40 (by first | exact (fun h => h) | exact hR8 | (simp only [At]; omega))
                                      replace hd8 := hd8.upd hu40 (by first | exact (fun _ _ _ h => h) | (intro k hk hl hS; simp only [At] at hS; exact (hF8 k hk).1 (.inr (by omega))))
                                      replace hdr := hdr.upd hu40 (by first | exact (fun _ _ _ h => h) | (intro k hk hl hS; have h4 := hFS k hk; first | exact h4.1 hS | exact h4.1 (.inl hS) | exact h4.1 (.inr (.inl hS)) | (simp only [At] at hS; first | omega | exact h4.1 (.inr hS))))
                                      replace hsn := hsn.upd hu40 (by first | exact (fun _ _ _ h => h) | (intro k hk hl hS; simp only [At, New] at *; omega))
                                      replace hsn3 := hsn3.upd hu40 (by first | exact (fun _ _ _ h => h) | (intro k hk hl hS; simp only [At, New] at *; omega))
                                      refine WL.nil ?_
                                      refine WX.keep [(0, _), (3, _), (4, _), (5, _), (6, _)] ⟨rfl, rfl, rfl, rfl, rfl, trivial⟩ ?_
                                      have hSF : SnapAt w40 (fun k => R5 k ∨ k = w2.heap.size) w2.heap.size T5.s := ⟨_, _, _, _, hB5, hsn3.rd (by have h1 := hQ.sok.2.2; omega), fun k hk => by simp only [New] at hk; exact ⟨fun h => h.elim (fun h => by have := hRl k h; omega) (fun h => by omega), by omega⟩⟩
                                      refine WX.meet [(0, _), (3, _), (4, _), (5, _), (6, _)] ⟨rfl, rfl, rfl, rfl, rfl, trivial⟩ ?_
                                      exact ⟨_, _, _, _, hU, by omega, hQ, hs, hRw, (fun k hk => by have := hRl k hk; omega), hR5, hSF, rfl⟩
                                · try (exfalso; first | (simp at hb41_5; done) | (simp only [decide_eq_true_eq, decide_eq_false_iff_not, Bool.not_eq_true', Bool.not_eq_false', Bool.not_eq_true, Bool.not_eq_false] at hb41_5; omega) | omega)
                                  all_goals
                                   try simp only [decide_eq_true_eq, decide_eq_false_iff_not, Bool.not_eq_true', Bool.not_eq_false', Bool.not_eq_true, Bool.not_eq_false, Option.isNone_none, Option.isNone_some, Option.isSome_none, Option.isSome_some, ne_eq, Decidable.not_not] at hb41_5
                                   refine WN.skip _ rfl rfl rfl rfl ?_
                                   refine WN.heldSkip _ rfl rfl rfl rfl hS41 ?_
                                   refine WN.step _ rfl (SO.skip rfl rfl rfl ?_)
                                   refine ⟨hS41, ?_⟩
                                   refine WN.step _ rfl (SO.skip rfl rfl rfl ?_)
                                   refine ⟨trivial, ?_⟩
                                   refine WN.skip _ rfl rfl rfl rfl ?_
                                   refine WN.calm _ rfl rfl rfl rfl rfl (fun _ => r_pickF rfl (ev_t rfl) ev_c) ?_
                                   refine WN.done ?_
                                   refine WX.keep [(0, _), (3, _), (4, _), (5, _), (6, _), (137, _)] ⟨rfl, rfl, rfl, rfl, rfl, rfl, trivial⟩ ?_
                                   refine WX.next ?_
                                   refine WC.cond_false rfl (ev_t rfl) ?_
                                   refine WC.skip ?_
                                   refine WX.next ?_
                                   refine WC.region ?_
                                   refine WL.val rfl rfl rfl rfl (r_move rfl (ev_t rfl)) ?_
                                   refine WL.cons (SO.call (snapSt hs) rfl body_30 ⟨(ev_t rfl), trivial⟩ rfl rfl rfl rfl ?_)
                                   rintro v w41 ⟨As3, cs3, rfl, hsn3, hu41⟩
                                   have hs41 := hu41.size
                                   replace hU := hU.trans hu41 (by first | exact (fun _ _ h => h) | exact (fun _ _ h => h.elim) | (intro k hl hk; (try simp only [At, New, Grow, From, No] at hk ⊢); omega) | (intro k hl hk; first | (have := hRw k hk; omega) | (simp only [At, New, Grow, From, No] at *; omega)))
                                   replace hs := hs.upd hu41 (by first | exact (fun _ _ _ h => h) | (intro k hk hl hS; simp only [At] at hS; subst hS; first | exact hR5 hk | exact hR8 hk | (have := hRl _ hk; omega)))
                                   replace hB8 := hB8.upd hu41 (by first | exact (fun h => h) | exact hR8 | (simp only [At]; omega))
                                   replace hB5 := hB5.upd hu41 (by first | exact (fun h => h) | exact hR5 | (simp only [At]; omega))
                                   replace hd8 := hd8.upd hu41 (by first | exact (fun _ _ _ h => h) | (intro k hk hl hS; simp only [At] at hS; exact (hF8 k hk).1 (.inr (by omega))))
                                   replace hdr := hdr.upd hu41 (by first | exact (fun _ _ _ h => h) | (intro k hk hl hS; have h4 := hFS k hk; first | exact h4.1 hS | exact h4.1 (.inl hS) | exact h4.1 (.inr (.inl hS)) | (simp only [At] at hS; first | omega | exact h4.1 (.inr hS))))
                                   replace hsn := hsn.upd hu41 (by first | exact (fun _ _ _ h => h) | (intro k hk hl hS; simp only [At, New] at *; omega))
                                   refine WL.cons (SO.storeAll (us := [_, _, _]) rfl (ev_t rfl) (ev_t rfl) size_50 hB5 rfl rfl rfl rfl rfl ?_)
                                   intro w42 hu42 hB5 hz42
                                   have hs42 := hu42.size
                                   replace hU := hU.trans hu42 (by first | exact (fun _ _ h => h) | exact (fun _ _ h => h.elim) | (intro k hl hk; (try simp only [At, New, Grow, From, No] at hk ⊢); omega) | (intro k hl hk; first | (have := hRw k hk; omega) | (simp only [At, New, Grow, From, No] at *; omega)))
                                   replace hs := hs.upd hu42 (by first | exact (fun _ _ _ h => h) | (intro k hk hl hS; simp only [At] at hS; subst hS; first | exact hR5 hk | exact hR8 hk | (have := hRl _ hk; omega)))
                                   replace hB8 := hB8.upd hu42 (by first | exact (fun h => h) | exact hR8 | (simp only [At]; omega))
                                   replace hd8 := hd8.upd hu42 (by first | exact (fun _ _ _ h => h) | (intro k hk hl hS; simp only [At] at hS; exact (hF8 k hk).1 (.inr (by omega))))
                                   replace hdr := hdr.upd hu42 (by first | exact (fun _ _ _ h => h) | (intro k hk hl hS; have h4 := hFS k hk; first | exact h4.1 hS | exact h4.1 (.inl hS) | exact h4.1 (.inr (.inl hS)) | (simp only [At] at hS; first | omega | exact h4.1 (.inr hS))))
                                   replace hsn := hsn.upd hu42 (by first | exact (fun _ _ _ h => h) | (intro k hk hl hS; simp only [At, New] at *; omega))
                                   replace hsn3 := hsn3.upd hu42 (by first | exact (fun _ _ _ h => h) | (intro k hk hl hS; simp only [At, New] at *; omega))
                                   refine WL.nil ?_
                                   refine WX.keep [(0, _), (3, _), (4, _), (5, _), (6, _)] ⟨rfl, rfl, rfl, rfl, rfl, trivial⟩ ?_
                                   have hSF : SnapAt w42 (fun k => R5 k ∨ k = w2.heap.size) w2.heap.size T5.s := ⟨_, _, _, _, hB5, hsn3.rd (by have h1 := hQ.sok.2.2; omega), fun k hk => by simp only [New] at hk; exact ⟨fun h => h.elim (fun h => by have := hRl k h; omega) (fun h => by omega), by omega⟩⟩
                                   refine WX.meet [(0, _), (3, _), (4, _), (5, _), (6, _)] ⟨rfl, rfl, rfl, rfl, rfl, trivial⟩ ?_
                                   exact ⟨_, _, _, _, hU, by omega, hQ, hs, hRw, (fun k hk => by have := hRl k hk; omega), hR5, hSF, rfl⟩
                           · try (exfalso; first | (simp at hc28; done) | (simp only [decide_eq_true_eq, decide_eq_false_iff_not, Bool.not_eq_true', Bool.not_eq_false', Bool.not_eq_true, Bool.not_eq_false] at hc28; omega) | omega)
                             all_goals
                              try simp only [decide_eq_true_eq, decide_eq_false_iff_not, Bool.not_eq_true', Bool.not_eq_false', Bool.not_eq_true, Bool.not_eq_false, Option.isNone_none, Option.isNone_some, Option.isSome_none, Option.isSome_some, ne_eq, Decidable.not_not] at hc28
                              obtain ⟨_, T', hQ, hs, hx⟩ := hC.resolve_right (fun h => by omega)
                              have hSF : SnapAt wB (fun k => R1 k ∨ k = w2.heap.size) w2.heap.size T'.s := by rw [hx]; exact hS5.mono (fun k _ h => h.elim .inl (fun h => .inr (.inl h)))
                              refine WC.skip ?_
                              refine WX.meet [(0, _), (3, _), (4, _), (5, _), (6, _)] ⟨rfl, rfl, rfl, rfl, rfl, trivial⟩ ?_
                              exact ⟨_, _, _, _, hU, by omega, hQ, hs, hRw, (fun k hk => by have := hRl k hk; omega), hR5, hSF, rfl⟩
                      · clear hU hRw hRl hR5 hRa hR8 hBa hS5 hS8 hC
                        rintro E wD ⟨R6, D6, T6, t6, hU, hwD, hQ, hs, hRw, hRl, hR5, ⟨A5, n5, c5, FS, hB5, hdr, hFS⟩, rfl⟩
                        refine WC.seq ?_
                        refine WC.draws' (fun u0_ u1_ => Upd No u0_ u1_) (fun j => [0, 1, 0, 2, 0].getD j 0) (.calm 0 (.held 2 (.one 1 (.one 3 (.calm 4 (.done)))))) mixed (by kernel_rfl) (by repeat (first | with_reducible exact Deaf.body | with_reducible apply Deaf.then | with_reducible apply Deaf.block)) ?_
                        intro w43 hu43
                        have hz43 := congrArg Array.size hu43.2.2.2
                        replace hu43 := Upd.of_draw hu43
                        have hs43 := hu43.size
                        replace hU := hU.trans hu43 (by first | exact (fun _ _ h => h) | exact (fun _ _ h => h.elim) | (intro k hl hk; (try simp only [At, New, Grow, From, No] at hk ⊢); omega) | (intro k hl hk; first | (have := hRw k hk; omega) | (simp only [At, New, Grow, From, No] at *; omega)))
                        replace hs := hs.upd hu43 (by first | exact (fun _ _ _ h => h) | (intro k hk hl hS; simp only [At] at hS; subst hS; first | exact hR5 hk | exact hR8 hk | (have := hRl _ hk; omega)))
                        replace hB5 := hB5.upd hu43 (by first | exact (fun h => h) | exact hR5 | (simp only [At]; omega))
                        replace hdr := hdr.upd hu43 (by first | exact (fun _ _ _ h => h) | (intro k hk hl hS; have h4 := hFS k hk; first | exact h4.1 hS | exact h4.1 (.inl hS) | exact h4.1 (.inr (.inl hS)) | (simp only [At] at hS; first | omega | exact h4.1 (.inr hS))))
                        have hS44 := Upd.refl No w43
                        refine WN.calm _ rfl rfl rfl rfl rfl (fun _ => r_move rfl (ev_t rfl)) ?_
                        refine WN.held _ rfl rfl rfl rfl rfl hS44 (fun w' hS => r_loadAgg (vs := [_, _, _]) rfl (ev_t rfl) agg_50 size_50 (Blk.cellsL (hB5.upd hS (fun h => h)))) ?_
                        refine WN.step _ rfl (SO.call (snapSt hs) rfl body_30 ⟨(ev_t rfl), trivial⟩ rfl rfl rfl rfl ?_)
                        rintro v w44 ⟨As, cs, rfl, hsn, hu44⟩
                        have hs44 := hu44.size
                        replace hS44 := Upd.transA hS44 hu44
                        replace hU := hU.trans hu44 (by first | exact (fun _ _ h => h) | exact (fun _ _ h => h.elim) | (intro k hl hk; (try simp only [At, New, Grow, From, No] at hk ⊢); omega) | (intro k hl hk; first | (have := hRw k hk; omega) | (simp only [At, New, Grow, From, No] at *; omega)))
                        replace hs := hs.upd hu44 (by first | exact (fun _ _ _ h => h) | (intro k hk hl hS; simp only [At] at hS; subst hS; first | exact hR5 hk | exact hR8 hk | (have := hRl _ hk; omega)))
                        replace hB5 := hB5.upd hu44 (by first | exact (fun h => h) | exact hR5 | (simp only [At]; omega))
                        replace hdr := hdr.upd hu44 (by first | exact (fun _ _ _ h => h) | (intro k hk hl hS; have h4 := hFS k hk; first | exact h4.1 hS | exact h4.1 (.inl hS) | exact h4.1 (.inr (.inl hS)) | (simp only [At] at hS; first | omega | exact h4.1 (.inr hS))))
                        refine ⟨hS44, ?_⟩
                        refine WN.step _ rfl (SO.call (same_ok (hsn.rd (by have h1 := hdr.le; have h2 := hdr.lenB; omega)) hdr) rfl body_29 ⟨(ev_t rfl), (ev_t rfl), trivial⟩ rfl rfl rfl rfl ?_)
                        rintro v w45 ⟨rfl, hu45⟩
                        have hs45 := hu45.size
                        try replace hS44 := Upd.transA hS44 hu45
                        replace hU := hU.trans hu45 (by first | exact (fun _ _ h => h) | exact (fun _ _ h => h.elim) | (intro k hl hk; (try simp only [At, New, Grow, From, No] at hk ⊢); omega) | (intro k hl hk; first | (have := hRw k hk; omega) | (simp only [At, New, Grow, From, No] at *; omega)))
                        replace hs := hs.upd hu45 (by first | exact (fun _ _ _ h => h) | (intro k hk hl hS; simp only [At] at hS; subst hS; first | exact hR5 hk | exact hR8 hk | (have := hRl _ hk; omega)))
                        replace hB5 := hB5.upd hu45 (by first | exact (fun h => h) | exact hR5 | (simp only [At]; omega))
                        replace hdr := hdr.upd hu45 (by first | exact (fun _ _ _ h => h) | (intro k hk hl hS; have h4 := hFS k hk; first | exact h4.1 hS | exact h4.1 (.inl hS) | exact h4.1 (.inr (.inl hS)) | (simp only [At] at hS; first | omega | exact h4.1 (.inr hS))))
                        replace hsn := hsn.upd hu45 (by first | exact (fun _ _ _ h => h) | (intro k hk hl hS; simp only [At, New] at *; omega))
                        have hSF : SnapAt w45 (fun k => R6 k ∨ k = w2.heap.size) w2.heap.size T6.s := ⟨_, _, _, _, hB5, hdr, fun k hk => ⟨(hFS k hk).1, by have := (hFS k hk).2; omega⟩⟩
                        refine ⟨trivial, ?_⟩
                        refine WN.calm _ rfl rfl rfl rfl rfl (fun _ => r_not rfl (ev_t rfl)) ?_
                        refine WN.done ?_
                        refine WX.keep [(0, _), (3, _), (4, _), (5, _), (6, _), (144, _)] ⟨rfl, rfl, rfl, rfl, rfl, rfl, trivial⟩ ?_
                        refine WX.next ?_
                        refine WC.cond rfl (ev_t rfl) (fun hc44 => ?_) (fun hc44 => ?_)
                        · try simp only [decide_eq_true_eq, decide_eq_false_iff_not, Bool.not_eq_true', Bool.not_eq_false', Bool.not_eq_true, Bool.not_eq_false, Option.isNone_none, Option.isNone_some, Option.isSome_none, Option.isSome_some, ne_eq, Decidable.not_not] at hc44
                          exfalso
                          simp at hc44
                        · try (exfalso; first | (simp at hc44; done) | (simp only [decide_eq_true_eq, decide_eq_false_iff_not, Bool.not_eq_true', Bool.not_eq_false', Bool.not_eq_true, Bool.not_eq_false] at hc44; omega) | omega)
                          all_goals
                           try simp only [decide_eq_true_eq, decide_eq_false_iff_not, Bool.not_eq_true', Bool.not_eq_false', Bool.not_eq_true, Bool.not_eq_false, Option.isNone_none, Option.isNone_some, Option.isSome_none, Option.isSome_some, ne_eq, Decidable.not_not] at hc44
                           refine WC.skip ?_
                           refine WX.blockNormal ?_
                           refine WX.next ?_
                           refine WC.region ?_
                           refine WL.val rfl rfl rfl rfl (r_move rfl (ev_t rfl)) ?_
                           first | refine WL.val rfl rfl rfl rfl (r_addN rfl (ev_t rfl) ev_c (by simp only [inK]; omega)) ?_ | refine WL.val rfl rfl rfl rfl (r_add rfl (ev_t rfl) ev_c) ?_
                           refine WL.val rfl rfl rfl rfl (r_assign rfl (ev_t rfl)) ?_
                           refine WL.nil ?_
                           refine WX.keep [(0, _), (3, _), (4, _), (5, _), (6, _)] ⟨rfl, rfl, rfl, rfl, rfl, trivial⟩ ?_
                           refine WX.meet [(0, _), (3, _), (4, _), (5, _), (6, _)] ⟨rfl, rfl, rfl, rfl, rfl, trivial⟩ ?_
                           exact ⟨l.length - (i + 1), by omega, i + 1, _, _, _, _, by omega, rfl, hU, by omega, hQ, hs, hRw, (fun k hk => by have := hRl k hk; omega), hR5, hSF, rfl⟩
          · try (exfalso; first | (simp at hc6; done) | (simp only [decide_eq_true_eq, decide_eq_false_iff_not, Bool.not_eq_true', Bool.not_eq_false', Bool.not_eq_true, Bool.not_eq_false] at hc6; omega) | omega)
            all_goals
             try simp only [decide_eq_true_eq, decide_eq_false_iff_not, Bool.not_eq_true', Bool.not_eq_false', Bool.not_eq_true, Bool.not_eq_false, Option.isNone_none, Option.isNone_some, Option.isSome_none, Option.isSome_some, ne_eq, Decidable.not_not] at hc6
             refine WC.exit ?_
             refine WX.thenExit ?_
             refine WX.thenExit ?_
             refine WX.blockHere ?_
             refine WX.next ?_
             refine WC.seq ?_
             refine WC.region ?_
             refine WL.val rfl rfl rfl rfl (r_assign rfl ev_c) ?_
             refine WL.nil ?_
             refine WX.keep [(2, _)] ⟨rfl, trivial⟩ ?_
             refine WX.next ?_
             refine WC.ret ?_
             refine WX.retE1 rfl rfl ?_
             exact ⟨rfl, hU⟩
       · try (exfalso; first | (simp at hb6_4; done) | (simp only [decide_eq_true_eq, decide_eq_false_iff_not, Bool.not_eq_true', Bool.not_eq_false', Bool.not_eq_true, Bool.not_eq_false] at hb6_4; omega) | omega)
         all_goals
          try simp only [decide_eq_true_eq, decide_eq_false_iff_not, Bool.not_eq_true', Bool.not_eq_false', Bool.not_eq_true, Bool.not_eq_false, Option.isNone_none, Option.isNone_some, Option.isSome_none, Option.isSome_some, ne_eq, Decidable.not_not] at hb6_4
          refine WL.skip rfl rfl rfl ?_
          refine WL.skip rfl rfl rfl ?_
          refine WL.val rfl rfl rfl rfl (r_pickF rfl (ev_t rfl) ev_c) ?_
          refine WL.nil ?_
          refine WX.keep [(0, _), (3, _), (4, _), (5, _), (6, _), (27, _)] ⟨rfl, rfl, rfl, rfl, rfl, rfl, trivial⟩ ?_
          refine WX.next ?_
          refine WC.cond_false rfl (ev_t rfl) ?_
          refine WC.exit ?_
          refine WX.thenExit ?_
          refine WX.thenExit ?_
          refine WX.blockHere ?_
          refine WX.next ?_
          refine WC.seq ?_
          refine WC.region ?_
          refine WL.val rfl rfl rfl rfl (r_assign rfl ev_c) ?_
          refine WL.nil ?_
          refine WX.keep [(2, _)] ⟨rfl, trivial⟩ ?_
          refine WX.next ?_
          refine WC.ret ?_
          refine WX.retE1 rfl rfl ?_
          exact ⟨rfl, hU⟩
end Go.Proofs.Ytejlmcdmoghmaaa
