/-
  The store: Snap, Open.
-/
import Derived.Test.YtejlmcdmoghmaaaSt
namespace Go.Proofs.Ytejlmcdmoghmaaa
open Go
set_option linter.unusedSimpArgs false
set_option linter.unusedVariables false

def hdS (p : Nat) (a : Int) (T : SS) (dv : Value) : Array Value := #[.pointer (some ⟨p, 0, none⟩), .int .i64 a, .int .i64 (T.side : Int), .int .u64 (T.s.idx : Int), .int .u64 (T.s.term : Int), dv]
/-- a store at block t over the drum at p -/
def IsS (w : World) (F : Nat → Prop) (t p : Nat) (a : Int) (T : SS) : Prop :=
  ∃ dv FD, Blk w t (hdS p a T dv) 89 ∧ Rd w FD dv T.s.data.length 1 (T.s.data.map U8) ∧ (¬ FD t) ∧ F t ∧ ∀ k, FD k → F k ∧ k < w.heap.size
theorem IsS.upd {w w' : World} {F S : Nat → Prop} {t p : Nat} {a : Int} {T : SS} (h : IsS w F t p a T) (hu : Upd S w w') (hn : ∀ k, F k → k < w.heap.size → ¬ S k) : IsS w' F t p a T := by
  obtain ⟨dv, FD, hb, hr, h1, h2, h3⟩ := h
  exact ⟨dv, FD, hb.upd hu (hn t h2 hb.lt), hr.upd hu (fun k hk hl => hn k (h3 k hk).1 hl), h1, h2, fun k hk => ⟨(h3 k hk).1, Nat.lt_of_lt_of_le (h3 k hk).2 hu.size⟩⟩
theorem IsS.mono {w : World} {F F' : Nat → Prop} {t p : Nat} {a : Int} {T : SS} (h : IsS w F t p a T) (hF : ∀ k, F k → k < w.heap.size → F' k) : IsS w F' t p a T := by
  obtain ⟨dv, FD, hb, hr, h1, h2, h3⟩ := h
  exact ⟨dv, FD, hb, hr, h1, hF t h2 hb.lt, fun k hk => ⟨hF k (h3 k hk).1 (h3 k hk).2, (h3 k hk).2⟩⟩

theorem Snap_ok {w : World} {F : Nat → Prop} {t p : Nat} {a : Int} {T : SS} (h : IsS w F t p a T) :
    Ret Try.prog 30 #[.pointer (some ⟨t, 0, none⟩)] w fun v w' => ∃ dv, v = .agg #[.int .u64 (T.s.idx : Int), .int .u64 (T.s.term : Int), dv] ∧ Own w' (New w w') 5 1 dv T.s.data.length (T.s.data.map U8) ∧ Upd No w w' := by
  obtain ⟨dv, FD, hb, hr, h1, h2, h3⟩ := h
  obtain ⟨Ad, cd, rfl, hcd⟩ := hr.slice_form
  have hdm := hr.le
  replace hr := hr.bound
  refine enterRet (vs := [_]) (N := 16) Try.func30 rfl rfl rfl ?_
  have hU := Upd.refl No w
  have htl := hb.lt
  refine WC.keep [(0, _)] ⟨rfl, trivial⟩ ?_
  refine WC.seq ?_
  refine WC.region ?_
  refine WL.cons (SO.alloc rfl rfl rfl rfl (r_alloc rfl zero_50) ?_)
  intro w1 hu1 hB1 hz1
  have hs1 := hu1.size
  replace hU := hU.transA hu1
  replace hb := hb.upd hu1 (by first | exact (fun h => h) | (have := hb.lt; simp only [At]; omega))
  replace hr := hr.upd hu1 (by first | exact (fun _ _ _ h => h) | (intro k hk hl hS; have := (h3 k hk.1).2; simp only [At, New, Grow, From, No] at *; omega))
  refine WL.nil ?_
  refine WX.keep [(0, _), (2, _)] ⟨rfl, rfl, trivial⟩ ?_
  refine WX.next ?_
  refine WC.seq ?_
  refine WC.seq ?_
  refine WC.region ?_
  refine WL.val rfl rfl rfl rfl (r_move rfl (ev_t rfl)) ?_
  refine WL.val rfl rfl rfl rfl (r_eqlPtrNil rfl (ev_t rfl) ev_c ptr_44) ?_
  refine WL.nil ?_
  refine WX.keep [(0, _), (2, _), (5, _)] ⟨rfl, rfl, rfl, trivial⟩ ?_
  refine WX.next ?_
  refine WC.cond rfl (ev_t rfl) (fun hc1 => ?_) (fun hc1 => ?_)
  · try (exfalso; first | (simp at hc1; done) | (simp only [decide_eq_true_eq, decide_eq_false_iff_not, Bool.not_eq_true', Bool.not_eq_false', Bool.not_eq_true, Bool.not_eq_false] at hc1; omega) | omega)
    all_goals
     try simp only [decide_eq_true_eq, decide_eq_false_iff_not, Bool.not_eq_true', Bool.not_eq_false', Bool.not_eq_true, Bool.not_eq_false, Option.isNone_none, Option.isNone_some, Option.isSome_none, Option.isSome_some, ne_eq, Decidable.not_not] at hc1
     refine WC.seq ?_
     refine WC.region ?_
     refine WL.val rfl rfl rfl rfl (r_build (cs := #[_, _, _]) (vs := []) rfl trivial plc_50 zero_50 rfl) ?_
     fail -- store 2.1: which block? (st 2.1: name)
  · try (exfalso; first | (simp at hc1; done) | (simp only [decide_eq_true_eq, decide_eq_false_iff_not, Bool.not_eq_true', Bool.not_eq_false', Bool.not_eq_true, Bool.not_eq_false] at hc1; omega) | omega)
    all_goals
     try simp only [decide_eq_true_eq, decide_eq_false_iff_not, Bool.not_eq_true', Bool.not_eq_false', Bool.not_eq_true, Bool.not_eq_false, Option.isNone_none, Option.isNone_some, Option.isSome_none, Option.isSome_some, ne_eq, Decidable.not_not] at hc1
     refine WC.skip ?_
     refine WX.next ?_
     refine WC.seq ?_
     refine WC.region ?_
     refine WL.val rfl rfl rfl rfl (r_move rfl (ev_t rfl)) ?_
     refine WL.val rfl rfl rfl rfl (r_nilCheck rfl (ev_t rfl)) ?_
     first | refine WL.val rfl rfl rfl rfl (r_field0 rfl (ev_t rfl) fld_89_3) ?_ | refine WL.val rfl rfl rfl rfl (r_fieldAt rfl (ev_t rfl) fld_89_3) ?_
     refine WL.val rfl rfl rfl rfl (r_loadAgg (vs := [_, _, _]) rfl (ev_t rfl) agg_50 size_50 (Blk.cellsP (us := [.int .u64 (T.s.idx : Int), .int .u64 (T.s.term : Int), .slice Ad T.s.data.length cd]) (off := 3) hb (by intro j v hj; match j, hj with | 0, hj => exact hj | 1, hj => exact hj | 2, hj => exact hj))) ?_
     refine WL.cons (SO.alloc rfl rfl rfl rfl (r_alloc rfl zero_50) ?_)
     intro w2 hu2 hB2 hz2
     have hs2 := hu2.size
     replace hU := hU.transA hu2
     replace hb := hb.upd hu2 (by first | exact (fun h => h) | (have := hb.lt; simp only [At]; omega))
     replace hr := hr.upd hu2 (by first | exact (fun _ _ _ h => h) | (intro k hk hl hS; have := (h3 k hk.1).2; simp only [At, New, Grow, From, No] at *; omega))
     replace hB1 := hB1.updA hu2
     refine WL.cons (SO.storeAll (us := [_, _, _]) rfl (ev_t rfl) (ev_t rfl) size_50 hB2 rfl rfl rfl rfl rfl ?_)
     intro w3 hu3 hB2 hz3
     have hs3 := hu3.size
     replace hU := hU.transA hu3
     replace hb := hb.upd hu3 (by first | exact (fun h => h) | (have := hb.lt; simp only [At]; omega))
     replace hr := hr.upd hu3 (by first | exact (fun _ _ _ h => h) | (intro k hk hl hS; have := (h3 k hk.1).2; simp only [At, New, Grow, From, No] at *; omega))
     replace hB1 := hB1.updA hu3
     refine WL.nil ?_
     refine WX.keep [(2, _), (3, _)] ⟨rfl, rfl, trivial⟩ ?_
     refine WX.next ?_
     refine WC.seq ?_
     refine WC.region ?_
     first | refine WL.val rfl rfl rfl rfl (r_field0 rfl (ev_t rfl) fld_50_2) ?_ | refine WL.val rfl rfl rfl rfl (r_fieldAt rfl (ev_t rfl) fld_50_2) ?_
     refine WL.val rfl rfl rfl rfl (r_load rfl (ev_t rfl) flat_22 (Blk.cell hB2 rfl)) ?_
     refine WL.cons (SO.append (Own.nil _ (fun _ => False) _ _) hr row_22 (U8_one _) (le_maxLen (by omega)) (by omega) rfl ev_c (ev_t rfl) rfl rfl rfl rfl ?_)
     intro v4 w4 hd hu4
     have hs4 := hu4.size
     replace hU := hU.transA hu4
     replace hb := hb.upd hu4 (by first | exact (fun h => h) | (have := hb.lt; simp only [At]; omega))
     replace hr := hr.upd hu4 (by first | exact (fun _ _ _ h => h) | (intro k hk hl hS; have := (h3 k hk.1).2; simp only [At, New, Grow, From, No] at *; omega))
     replace hB1 := hB1.updA hu4
     replace hB2 := hB2.updA hu4
     obtain ⟨A4, c4, rfl, hc4⟩ := Own.form hd
     simp only [Nat.zero_add, List.nil_append] at hd ⊢
     replace hd := Own.nilGrow hd
     first | refine WL.val rfl rfl rfl rfl (r_field0 rfl (ev_t rfl) fld_50_2) ?_ | refine WL.val rfl rfl rfl rfl (r_fieldAt rfl (ev_t rfl) fld_50_2) ?_
     refine WL.cons (SO.store rfl (ev_t rfl) (ev_t rfl) size_22 hB2 rfl rfl rfl rfl rfl ?_)
     intro w5 hu5 hB2 hz5
     have hs5 := hu5.size
     replace hU := hU.transA hu5
     replace hb := hb.upd hu5 (by first | exact (fun h => h) | (have := hb.lt; simp only [At]; omega))
     replace hr := hr.upd hu5 (by first | exact (fun _ _ _ h => h) | (intro k hk hl hS; have := (h3 k hk.1).2; simp only [At, New, Grow, From, No] at *; omega))
     replace hB1 := hB1.updA hu5
     replace hd := hd.upd hu5 (by first | exact (fun _ _ _ h => h) | (intro k hk hl hS; simp only [At, New, Grow, From, No] at *; omega))
     refine WL.nil ?_
     refine WX.keep [(2, _), (3, _)] ⟨rfl, rfl, trivial⟩ ?_
     refine WX.next ?_
     refine WC.seq ?_
     refine WC.region ?_
     replace hB2 : Blk w5 _ #[.int .u64 (T.s.idx : Int), .int .u64 (T.s.term : Int), .slice A4 T.s.data.length c4] 50 := hB2
     refine WL.val rfl rfl rfl rfl (r_loadAgg (vs := [_, _, _]) rfl (ev_t rfl) agg_50 size_50 (Blk.cellsL hB2)) ?_
     refine WL.cons (SO.storeAll (us := [_, _, _]) rfl (ev_t rfl) (ev_t rfl) size_50 hB1 rfl rfl rfl rfl rfl ?_)
     intro w6 hu6 hB1 hz6
     have hs6 := hu6.size
     replace hU := hU.transA hu6
     replace hb := hb.upd hu6 (by first | exact (fun h => h) | (have := hb.lt; simp only [At]; omega))
     replace hr := hr.upd hu6 (by first | exact (fun _ _ _ h => h) | (intro k hk hl hS; have := (h3 k hk.1).2; simp only [At, New, Grow, From, No] at *; omega))
     replace hB2 := hB2.updA hu6
     replace hd := hd.upd hu6 (by first | exact (fun _ _ _ h => h) | (intro k hk hl hS; simp only [At, New, Grow, From, No] at *; omega))
     refine WL.nil ?_
     refine WX.keep [(2, _)] ⟨rfl, trivial⟩ ?_
     refine WX.next ?_
     refine WC.ret ?_
     refine WX.retC (vs := [_, _, _]) rfl rfl agg_50 size_50 (Blk.cellsL hB1) ?_
     exact ⟨_, rfl, hd.mono (fun k hk => ⟨by have := hk.1; omega, by have := hk.2; omega⟩), hU⟩

def pickN (D : DS) : Nat → SS
  | 0 => ss0
  | i + 1 => pick (pickN D i) i (D.track (1 + i)).now
theorem pickN_two (D : DS) : pickN D 2 = pick2 (D.track 1).now (D.track 2).now := rfl
theorem pickN_side (D : DS) : ∀ i, (pickN D i).side < max 1 i
  | 0 => Nat.zero_lt_one
  | i + 1 => by
    have ih := pickN_side D i
    unfold pickN pick
    split
    · split
      · simp only; omega
      · omega
    · omega
/-- what opening does to the drum -/
def openD (D : DS) : DS × Nat := if (pickN D 2).s.idx = 0 then (D, 0) else D.sync (1 + ((pickN D 2).side : Int))

set_option maxHeartbeats 1000000 in
theorem Open_ok {w : World} {F : Nat → Prop} {p : Nat} {D : DS} (hd : IsD w F p D) (hlen : D.l.length = 3) (hoff : D.off = false) (hF : ∀ k, F k → k < w.heap.size) :
    Ret Try.prog 32 #[.pointer (some ⟨p, 0, none⟩), .int .i64 1] w fun v w' => Upd F w w' ∧ ∃ F', IsD w' F' p (openD D).1 ∧ (∀ k, F' k → Grow F w w' k) ∧
      (((openD D).2 ≠ 0 ∧ v = .tuple #[.pointer none, .int .i64 ((openD D).2 : Int)]) ∨ ((openD D).2 = 0 ∧ ∃ t G, v = .tuple #[.pointer (some ⟨t, 0, none⟩), .int .i64 0] ∧ IsS w' G t p 1 (pickN D 2) ∧ (∀ k, F' k → ¬ G k) ∧ ∀ k, G k → New w w' k)) := by
  have hwf := hd.wf
  have hlook : ∀ i : Nat, i < 2 → D.look (1 + (i : Int)) = 0 := fun i hi => by
    have := look_of (D := D) (i := 1 + i) (by omega) hoff
    rw [show (((1 + i : Nat)) : Int) = 1 + (i : Int) by omega] at this
    exact this
  have htr : ∀ i : Nat, i < 2 → ((D.track (1 + (i : Int)).toNat).now.length : Int) ≤ D.most ∧ (D.track (1 + (i : Int)).toNat).now.length ≤ 1048576 := fun i hi => by
    have h1 := (hwf.trk _ (DS.track_mem (D := D) (i := (1 + (i : Int)).toNat) (by omega))).2
    have h2 := hwf.most
    exact ⟨h1, by omega⟩
  refine enterRet (vs := [_, _]) (N := 85) Try.func32 rfl rfl rfl ?_
  have hU := Upd.refl F w
  refine WC.keep [(0, _), (1, _)] ⟨rfl, rfl, trivial⟩ ?_
  refine WC.seq ?_
  refine WC.region ?_
  refine WL.val rfl rfl rfl rfl (r_assign rfl ev_c) ?_
  refine WL.val rfl rfl rfl rfl (r_assign rfl ev_c) ?_
  refine WL.nil ?_
  refine WX.keep [(0, _), (1, _)] ⟨rfl, rfl, trivial⟩ ?_
  refine WX.next ?_
  refine WC.seq ?_
  refine WC.seq ?_
  refine WC.region ?_
  refine WL.val rfl rfl rfl rfl (r_move rfl (ev_t rfl)) ?_
  refine WL.val rfl rfl rfl rfl (r_eqlPtrNil rfl (ev_t rfl) ev_c ptr_25) ?_
  refine WL.nil ?_
  refine WX.keep [(0, _), (1, _), (14, _)] ⟨rfl, rfl, rfl, trivial⟩ ?_
  refine WX.next ?_
  refine WC.cond rfl (ev_t rfl) (fun hc1 => ?_) (fun hc1 => ?_)
  · try (exfalso; first | (simp at hc1; done) | (simp only [decide_eq_true_eq, decide_eq_false_iff_not, Bool.not_eq_true', Bool.not_eq_false', Bool.not_eq_true, Bool.not_eq_false] at hc1; omega) | omega)
    all_goals
     try simp only [decide_eq_true_eq, decide_eq_false_iff_not, Bool.not_eq_true', Bool.not_eq_false', Bool.not_eq_true, Bool.not_eq_false, Option.isNone_none, Option.isNone_some, Option.isSome_none, Option.isSome_some, ne_eq, Decidable.not_not] at hc1
     refine WC.seq ?_
     refine WC.region ?_
     refine WL.val rfl rfl rfl rfl (r_assign rfl ev_c) ?_
     refine WL.val rfl rfl rfl rfl (r_assign rfl ev_c) ?_
     refine WL.nil ?_
     refine WX.keep [(4, _), (5, _)] ⟨rfl, rfl, trivial⟩ ?_
     refine WX.next ?_
     refine WC.ret ?_
     refine WX.thenRet ?_
     refine WX.retE2 rfl rfl rfl ?_
     first
       | (have hz : (openD D).2 = 0 := by omega
          exact ⟨hU, _, hd, (fun k hk => hk.elim .inl (fun h => .inr ⟨by omega, by omega⟩)), .inr ⟨hz, w.heap.size, fun k => w.heap.size ≤ k ∧ k < w'.heap.size, rfl, ⟨_, FD, hbt, hdr, (fun h => by have := hFD _ h; omega), ⟨by omega, by omega⟩, fun k hk => by have := hFD k hk; omega⟩, (fun k hk hG => by rcases hk with hk | hk; (have := hF k hk; omega); omega), fun k hk => ⟨hk.1, by omega⟩⟩⟩)
       | (rw [hop]
          exact ⟨hU, _, hd, (fun k hk => .inl hk), .inr ⟨rfl, w.heap.size, fun k => w.heap.size ≤ k ∧ k < w'.heap.size, rfl, ⟨_, FD, hbt, hdr, (fun h => by have := hFD _ h; omega), ⟨by omega, by omega⟩, fun k hk => by have := hFD k hk; omega⟩, (fun k hk hG => by have := hF k hk; omega), fun k hk => ⟨hk.1, by omega⟩⟩⟩)
  · try (exfalso; first | (simp at hc1; done) | (simp only [decide_eq_true_eq, decide_eq_false_iff_not, Bool.not_eq_true', Bool.not_eq_false', Bool.not_eq_true, Bool.not_eq_false] at hc1; omega) | omega)
    all_goals
     try simp only [decide_eq_true_eq, decide_eq_false_iff_not, Bool.not_eq_true', Bool.not_eq_false', Bool.not_eq_true, Bool.not_eq_false, Option.isNone_none, Option.isNone_some, Option.isSome_none, Option.isSome_some, ne_eq, Decidable.not_not] at hc1
     refine WC.skip ?_
     refine WX.next ?_
     refine WC.seq ?_
     refine WC.seq ?_
     refine WC.region ?_
     refine WL.val rfl rfl rfl rfl (r_move rfl (ev_t rfl)) ?_
     refine WL.val rfl rfl rfl rfl (r_lss rfl (ev_t rfl) ev_c) ?_
     refine WL.val rfl rfl rfl rfl (r_move rfl (ev_t rfl)) ?_
     refine WL.cases 17 rfl (fun hb3_2 => ?_) (fun hb3_2 => ?_)
     · try (exfalso; first | (simp at hb3_2; done) | (simp only [decide_eq_true_eq, decide_eq_false_iff_not, Bool.not_eq_true', Bool.not_eq_false', Bool.not_eq_true, Bool.not_eq_false] at hb3_2; omega) | omega)
       all_goals
        try simp only [decide_eq_true_eq, decide_eq_false_iff_not, Bool.not_eq_true', Bool.not_eq_false', Bool.not_eq_true, Bool.not_eq_false, Option.isNone_none, Option.isNone_some, Option.isSome_none, Option.isSome_some, ne_eq, Decidable.not_not] at hb3_2
        refine WL.skip rfl rfl rfl ?_
        refine WL.skip rfl rfl rfl ?_
        refine WL.skip rfl rfl rfl ?_
        refine WL.skip rfl rfl rfl ?_
        refine WL.skip rfl rfl rfl ?_
        refine WL.val rfl rfl rfl rfl (r_pickT rfl (ev_t rfl) ev_c) ?_
        refine WL.nil ?_
        refine WX.keep [(0, _), (1, _), (23, _)] ⟨rfl, rfl, rfl, trivial⟩ ?_
        refine WX.next ?_
        refine WC.cond_true rfl (ev_t rfl) ?_
        refine WC.seq ?_
        refine WC.region ?_
        refine WL.val rfl rfl rfl rfl (r_assign rfl ev_c) ?_
        refine WL.val rfl rfl rfl rfl (r_assign rfl ev_c) ?_
        refine WL.nil ?_
        refine WX.keep [(4, _), (5, _)] ⟨rfl, rfl, trivial⟩ ?_
        refine WX.next ?_
        refine WC.ret ?_
        refine WX.thenRet ?_
        refine WX.retE2 rfl rfl rfl ?_
        first
          | (have hz : (openD D).2 = 0 := by omega
             exact ⟨hU, _, hd, (fun k hk => hk.elim .inl (fun h => .inr ⟨by omega, by omega⟩)), .inr ⟨hz, w.heap.size, fun k => w.heap.size ≤ k ∧ k < w'.heap.size, rfl, ⟨_, FD, hbt, hdr, (fun h => by have := hFD _ h; omega), ⟨by omega, by omega⟩, fun k hk => by have := hFD k hk; omega⟩, (fun k hk hG => by rcases hk with hk | hk; (have := hF k hk; omega); omega), fun k hk => ⟨hk.1, by omega⟩⟩⟩)
          | (rw [hop]
             exact ⟨hU, _, hd, (fun k hk => .inl hk), .inr ⟨rfl, w.heap.size, fun k => w.heap.size ≤ k ∧ k < w'.heap.size, rfl, ⟨_, FD, hbt, hdr, (fun h => by have := hFD _ h; omega), ⟨by omega, by omega⟩, fun k hk => by have := hFD k hk; omega⟩, (fun k hk hG => by have := hF k hk; omega), fun k hk => ⟨hk.1, by omega⟩⟩⟩)
     · try (exfalso; first | (simp at hb3_2; done) | (simp only [decide_eq_true_eq, decide_eq_false_iff_not, Bool.not_eq_true', Bool.not_eq_false', Bool.not_eq_true, Bool.not_eq_false] at hb3_2; omega) | omega)
       all_goals
        try simp only [decide_eq_true_eq, decide_eq_false_iff_not, Bool.not_eq_true', Bool.not_eq_false', Bool.not_eq_true, Bool.not_eq_false, Option.isNone_none, Option.isNone_some, Option.isSome_none, Option.isSome_some, ne_eq, Decidable.not_not] at hb3_2
        refine WL.val rfl rfl rfl rfl (r_move rfl (ev_t rfl)) ?_
        refine WL.val rfl rfl rfl rfl (r_move rfl (ev_t rfl)) ?_
        refine WL.cons (SO.call (Tracks_ok hd) rfl body_24 ⟨(ev_t rfl), trivial⟩ rfl rfl rfl rfl ?_)
        rintro v _ ⟨rfl, rfl⟩
        rw [hlen]
        first | refine WL.val rfl rfl rfl rfl (r_subN rfl (ev_t rfl) ev_c (by simp only [inK]; omega)) ?_ | refine WL.val rfl rfl rfl rfl (r_sub rfl (ev_t rfl) ev_c) ?_
        refine WL.val rfl rfl rfl rfl (r_gtr rfl (ev_t rfl) (ev_t rfl)) ?_
        refine WL.val rfl rfl rfl rfl (r_pickF rfl (ev_t rfl) (ev_t rfl)) ?_
        refine WL.nil ?_
        refine WX.keep [(0, _), (1, _), (23, _)] ⟨rfl, rfl, rfl, trivial⟩ ?_
        refine WX.next ?_
        refine WC.cond rfl (ev_t rfl) (fun hc3 => ?_) (fun hc3 => ?_)
        · try simp only [decide_eq_true_eq, decide_eq_false_iff_not, Bool.not_eq_true', Bool.not_eq_false', Bool.not_eq_true, Bool.not_eq_false, Option.isNone_none, Option.isNone_some, Option.isSome_none, Option.isSome_some, ne_eq, Decidable.not_not] at hc3
          exfalso
          omega
        · try (exfalso; first | (simp at hc3; done) | (simp only [decide_eq_true_eq, decide_eq_false_iff_not, Bool.not_eq_true', Bool.not_eq_false', Bool.not_eq_true, Bool.not_eq_false] at hc3; omega) | omega)
          all_goals
           try simp only [decide_eq_true_eq, decide_eq_false_iff_not, Bool.not_eq_true', Bool.not_eq_false', Bool.not_eq_true, Bool.not_eq_false, Option.isNone_none, Option.isNone_some, Option.isSome_none, Option.isSome_some, ne_eq, Decidable.not_not] at hc3
           refine WC.skip ?_
           refine WX.next ?_
           refine WC.seq ?_
           refine WC.region ?_
           refine WL.val rfl rfl rfl rfl (r_move rfl (ev_t rfl)) ?_
           refine WL.val rfl rfl rfl rfl (r_move rfl (ev_t rfl)) ?_
           refine WL.val rfl rfl rfl rfl (r_build (cs := #[_, _, _, _, _, _]) (vs := [(0, _), (1, _)]) rfl ⟨⟨rfl, (ev_t rfl)⟩, ⟨rfl, (ev_t rfl)⟩, trivial⟩ plc_89 zero_89 rfl) ?_
           refine WL.cons (SO.alloc rfl rfl rfl rfl (r_boxAgg rfl (ev_t rfl)) ?_)
           intro w2 hu2 hB2 hz2
           have hs2 := hu2.size
           replace hU := hU.transA hu2
           replace hd := hd.upd hu2 (by first | exact (fun _ _ _ h => h) | (intro k hk hl hS; have := hF k hk; simp only [At, New, Grow, From, No] at *; omega))
           refine WL.val rfl rfl rfl rfl (r_assign rfl (ev_t rfl)) ?_
           refine WL.nil ?_
           refine WX.keep [(0, _), (1, _), (6, _)] ⟨rfl, rfl, rfl, trivial⟩ ?_
           replace hB2 : Blk w2 w.heap.size (hdS p 1 ss0 (.slice none 0 0)) 89 := hB2
           refine WX.next ?_
           refine WC.seq ?_
           refine WC.seq ?_
           refine WC.region ?_
           refine WL.val rfl rfl rfl rfl (r_move rfl ev_c) ?_
           refine WL.nil ?_
           refine WX.keep [(0, _), (1, _), (6, _), (28, _)] ⟨rfl, rfl, rfl, rfl, trivial⟩ ?_
           refine WX.next ?_
           refine WC.block ?_
           -- loop 1: live [0, 1, 6, 28]
           refine WC.keep [(0, _), (1, _), (6, _), (28, _)] ⟨rfl, rfl, rfl, rfl, trivial⟩ ?_
           refine WC.loop (fun q E w' => ∃ (i : Nat) (dv : Value) (FD : Nat → Prop), i ≤ 2 ∧ q = 2 - i ∧ Upd F w w' ∧ w.heap.size < w'.heap.size ∧ IsD w' F p D ∧ Blk w' w.heap.size (hdS p 1 (pickN D i) dv) 89 ∧ Rd w' FD dv (pickN D i).s.data.length 1 ((pickN D i).s.data.map U8) ∧ (∀ k, FD k → w.heap.size < k ∧ k < w'.heap.size) ∧   E = [(0, .pointer (some ⟨p, 0, none⟩)), (1, .int .i64 1), (6, .pointer (some ⟨w.heap.size, 0, none⟩)), (28, .int .i64 (i : Int))]) (2) ?_ ?_
           · exact ⟨0, _, fun _ => False, by omega, by omega, hU, by omega, hd, hB2, Rd.nil _ _ _, fun k h => h.elim, rfl⟩
           · clear hU hd
             rintro q E w' ⟨i, dv, FD, hi, rfl, hU, hsz, hd, hbt, hdr, hFD, rfl⟩
             obtain ⟨Ad, cd, rfl, hcd⟩ := hdr.slice_form
             refine WC.seq ?_
             refine WC.region ?_
             refine WL.val rfl rfl rfl rfl (r_lss rfl (ev_t rfl) ev_c) ?_
             refine WL.nil ?_
             refine WX.keep [(0, _), (1, _), (6, _), (28, _), (29, _)] ⟨rfl, rfl, rfl, rfl, rfl, trivial⟩ ?_
             refine WX.next ?_
             refine WC.seq ?_
             refine WC.cond rfl (ev_t rfl) (fun hc7 => ?_) (fun hc7 => ?_)
             · try (exfalso; first | (simp at hc7; done) | (simp only [decide_eq_true_eq, decide_eq_false_iff_not, Bool.not_eq_true', Bool.not_eq_false', Bool.not_eq_true, Bool.not_eq_false] at hc7; omega) | omega)
               all_goals
                try simp only [decide_eq_true_eq, decide_eq_false_iff_not, Bool.not_eq_true', Bool.not_eq_false', Bool.not_eq_true, Bool.not_eq_false, Option.isNone_none, Option.isNone_some, Option.isSome_none, Option.isSome_some, ne_eq, Decidable.not_not] at hc7
                refine WC.skip ?_
                refine WX.next ?_
                refine WC.seq ?_
                refine WC.block ?_
                refine WC.seq ?_
                refine WC.region ?_
                refine WL.val rfl rfl rfl rfl (r_move rfl (ev_t rfl)) ?_
                refine WL.val rfl rfl rfl rfl (r_assign rfl (ev_t rfl)) ?_
                refine WL.nil ?_
                refine WX.keep [(0, _), (1, _), (6, _), (7, _), (28, _)] ⟨rfl, rfl, rfl, rfl, rfl, trivial⟩ ?_
                refine WX.next ?_
                refine WC.seq ?_
                refine WC.region ?_
                refine WL.val rfl rfl rfl rfl (r_move rfl (ev_t rfl)) ?_
                refine WL.val rfl rfl rfl rfl (r_move rfl (ev_t rfl)) ?_
                refine WL.val rfl rfl rfl rfl (r_move rfl (ev_t rfl)) ?_
                first | refine WL.val rfl rfl rfl rfl (r_addN rfl (ev_t rfl) (ev_t rfl) (by simp only [inK]; omega)) ?_ | refine WL.val rfl rfl rfl rfl (r_add rfl (ev_t rfl) (ev_t rfl)) ?_
                refine WL.cons (SO.call (Read_good hd (hlook i (by omega))) rfl body_20 ⟨(ev_t rfl), (ev_t rfl), trivial⟩ rfl rfl rfl rfl ?_)
                rintro v w3 ⟨v, rfl, hp, hu3⟩
                have htr' := htr i (by omega)
                have hpk : pickN D (i + 1) = pick (pickN D i) i (D.track (1 + (i : Int)).toNat).now := by rw [show (1 + (i : Int)).toNat = 1 + i by omega]; rfl
                generalize (D.track (1 + (i : Int)).toNat).now = pb at *
                have hs3 := hu3.size
                replace hU := hU.transA hu3
                replace hd := hd.upd hu3 (by first | exact (fun _ _ _ h => h) | (intro k hk hl hS; have := hF k hk; simp only [At, New, Grow, From, No] at *; omega))
                replace hbt := hbt.upd hu3 (by first | exact (fun h => h) | (simp only [At]; omega) | (intro h; have := hF _ h; omega))
                replace hdr := hdr.upd hu3 (by first | exact (fun _ _ _ h => h) | (intro k hk hl hS; have := hFD k hk; first | (have := hF k hS; omega) | (simp only [At, New, Grow, From, No] at hS; omega)))
                refine WL.val rfl rfl rfl rfl (r_move rfl (ev_t rfl)) ?_
                refine WL.val rfl rfl rfl rfl (r_extract rfl (ev_t rfl) rfl) ?_
                refine WL.val rfl rfl rfl rfl (r_extract rfl (ev_t rfl) rfl) ?_
                refine WL.val rfl rfl rfl rfl (r_assign rfl (ev_t rfl)) ?_
                refine WL.val rfl rfl rfl rfl (r_assign rfl (ev_t rfl)) ?_
                refine WL.nil ?_
                refine WX.keep [(0, _), (1, _), (6, _), (7, _), (8, _), (9, _), (28, _)] ⟨rfl, rfl, rfl, rfl, rfl, rfl, rfl, trivial⟩ ?_
                refine WX.next ?_
                refine WC.seq ?_
                refine WC.seq ?_
                refine WC.region ?_
                refine WL.val rfl rfl rfl rfl (r_move rfl (ev_t rfl)) ?_
                refine WL.val rfl rfl rfl rfl (r_neq rfl (ev_t rfl) ev_c) ?_
                refine WL.nil ?_
                refine WX.keep [(0, _), (1, _), (6, _), (7, _), (8, _), (9, _), (28, _), (40, _)] ⟨rfl, rfl, rfl, rfl, rfl, rfl, rfl, rfl, trivial⟩ ?_
                refine WX.next ?_
                refine WC.cond rfl (ev_t rfl) (fun hc10 => ?_) (fun hc10 => ?_)
                · try (exfalso; first | (simp at hc10; done) | (simp only [decide_eq_true_eq, decide_eq_false_iff_not, Bool.not_eq_true', Bool.not_eq_false', Bool.not_eq_true, Bool.not_eq_false] at hc10; omega) | omega)
                  all_goals
                   try simp only [decide_eq_true_eq, decide_eq_false_iff_not, Bool.not_eq_true', Bool.not_eq_false', Bool.not_eq_true, Bool.not_eq_false, Option.isNone_none, Option.isNone_some, Option.isSome_none, Option.isSome_some, ne_eq, Decidable.not_not] at hc10
                   refine WC.seq ?_
                   refine WC.region ?_
                   refine WL.val rfl rfl rfl rfl (r_move rfl (ev_t rfl)) ?_
                   refine WL.val rfl rfl rfl rfl (r_assign rfl ev_c) ?_
                   refine WL.val rfl rfl rfl rfl (r_assign rfl (ev_t rfl)) ?_
                   refine WL.nil ?_
                   refine WX.keep [(4, _), (5, _)] ⟨rfl, rfl, trivial⟩ ?_
                   refine WX.next ?_
                   refine WC.ret ?_
                   refine WX.thenRet ?_
                   refine WX.blockRet ?_
                   refine WX.thenRet ?_
                   refine WX.thenRet ?_
                   refine WX.blockRet ?_
                   refine WX.thenRet ?_
                   refine WX.retE2 rfl rfl rfl ?_
                   first
                     | (have hz : (openD D).2 = 0 := by omega
                        exact ⟨hU, _, hd, (fun k hk => hk.elim .inl (fun h => .inr ⟨by omega, by omega⟩)), .inr ⟨hz, w.heap.size, fun k => w.heap.size ≤ k ∧ k < w'.heap.size, rfl, ⟨_, FD, hbt, hdr, (fun h => by have := hFD _ h; omega), ⟨by omega, by omega⟩, fun k hk => by have := hFD k hk; omega⟩, (fun k hk hG => by rcases hk with hk | hk; (have := hF k hk; omega); omega), fun k hk => ⟨hk.1, by omega⟩⟩⟩)
                     | (rw [hop]
                        exact ⟨hU, _, hd, (fun k hk => .inl hk), .inr ⟨rfl, w.heap.size, fun k => w.heap.size ≤ k ∧ k < w'.heap.size, rfl, ⟨_, FD, hbt, hdr, (fun h => by have := hFD _ h; omega), ⟨by omega, by omega⟩, fun k hk => by have := hFD k hk; omega⟩, (fun k hk hG => by have := hF k hk; omega), fun k hk => ⟨hk.1, by omega⟩⟩⟩)
                · try (exfalso; first | (simp at hc10; done) | (simp only [decide_eq_true_eq, decide_eq_false_iff_not, Bool.not_eq_true', Bool.not_eq_false', Bool.not_eq_true, Bool.not_eq_false] at hc10; omega) | omega)
                  all_goals
                   try simp only [decide_eq_true_eq, decide_eq_false_iff_not, Bool.not_eq_true', Bool.not_eq_false', Bool.not_eq_true, Bool.not_eq_false, Option.isNone_none, Option.isNone_some, Option.isSome_none, Option.isSome_some, ne_eq, Decidable.not_not] at hc10
                   refine WC.skip ?_
                   refine WX.next ?_
                   refine WC.seq ?_
                   refine WC.region ?_
                   refine WL.val rfl rfl rfl rfl (r_move rfl (ev_t rfl)) ?_
                   refine WL.cons (SO.call (unlay_ok' (hp.rd (by omega)) htr'.2) rfl body_44 ⟨(ev_t rfl), trivial⟩ rfl rfl rfl rfl ?_)
                   rintro v w4 ⟨xi, xt, xv, xd, rfl, hx, hun, hu4, hxl⟩
                   have hs4 := hu4.size
                   replace hU := hU.transA hu4
                   replace hd := hd.upd hu4 (by first | exact (fun _ _ _ h => h) | (intro k hk hl hS; have := hF k hk; simp only [At, New, Grow, From, No] at *; omega))
                   replace hbt := hbt.upd hu4 (by first | exact (fun h => h) | (simp only [At]; omega) | (intro h; have := hF _ h; omega))
                   replace hdr := hdr.upd hu4 (by first | exact (fun _ _ _ h => h) | (intro k hk hl hS; have := hFD k hk; first | (have := hF k hS; omega) | (simp only [At, New, Grow, From, No] at hS; omega)))
                   replace hp := hp.upd hu4 (by first | exact (fun _ _ _ h => h) | (intro k hk hl hS; simp only [At, New, Grow, From, No] at *; omega))
                   obtain ⟨Ax, cx, rfl, hcx⟩ := Own.form hx
                   refine WL.val rfl rfl rfl rfl (r_move rfl (ev_t rfl)) ?_
                   refine WL.val rfl rfl rfl rfl (r_extract rfl (ev_t rfl) rfl) ?_
                   refine WL.val rfl rfl rfl rfl (r_extract rfl (ev_t rfl) rfl) ?_
                   refine WL.cons (SO.alloc rfl rfl rfl rfl (r_alloc rfl zero_50) ?_)
                   intro w5 hu5 hB5 hz5
                   have hs5 := hu5.size
                   replace hU := hU.transA hu5
                   replace hd := hd.upd hu5 (by first | exact (fun _ _ _ h => h) | (intro k hk hl hS; have := hF k hk; simp only [At, New, Grow, From, No] at *; omega))
                   replace hbt := hbt.upd hu5 (by first | exact (fun h => h) | (simp only [At]; omega) | (intro h; have := hF _ h; omega))
                   replace hdr := hdr.upd hu5 (by first | exact (fun _ _ _ h => h) | (intro k hk hl hS; have := hFD k hk; first | (have := hF k hS; omega) | (simp only [At, New, Grow, From, No] at hS; omega)))
                   replace hx := hx.upd hu5 (by first | exact (fun _ _ _ h => h) | (intro k hk hl hS; simp only [At, New, Grow, From, No] at *; omega))
                   refine WL.cons (SO.storeAll (us := [_, _, _]) rfl (ev_t rfl) (ev_t rfl) size_50 hB5 rfl rfl rfl rfl rfl ?_)
                   intro w6 hu6 hB5 hz6
                   have hs6 := hu6.size
                   replace hU := hU.transA hu6
                   replace hd := hd.upd hu6 (by first | exact (fun _ _ _ h => h) | (intro k hk hl hS; have := hF k hk; simp only [At, New, Grow, From, No] at *; omega))
                   replace hbt := hbt.upd hu6 (by first | exact (fun h => h) | (simp only [At]; omega) | (intro h; have := hF _ h; omega))
                   replace hdr := hdr.upd hu6 (by first | exact (fun _ _ _ h => h) | (intro k hk hl hS; have := hFD k hk; first | (have := hF k hS; omega) | (simp only [At, New, Grow, From, No] at hS; omega)))
                   replace hx := hx.upd hu6 (by first | exact (fun _ _ _ h => h) | (intro k hk hl hS; simp only [At, New, Grow, From, No] at *; omega))
                   refine WL.val rfl rfl rfl rfl (r_assign rfl (ev_t rfl)) ?_
                   refine WL.nil ?_
                   refine WX.keep [(0, _), (1, _), (6, _), (7, _), (10, _), (11, _), (28, _)] ⟨rfl, rfl, rfl, rfl, rfl, rfl, rfl, trivial⟩ ?_
                   refine WX.next ?_
                   refine WC.seq ?_
                   refine WC.draws' (fun u0_ u1_ => Upd No u0_ u1_) (fun j => [0, 0, 0, 0, 0, 0, 0, 0, 1, 0, 0].getD j 0) (.calm 0 (.calm 1 (.calm 2 (.calm 4 (.calm 5 (.calm 6 (.calm 7 (.held 3 (.one 8 (.calm 9 (.calm 10 (.done)))))))))))) mixed (by kernel_rfl) (by repeat (first | with_reducible exact Deaf.body | with_reducible apply Deaf.then | with_reducible apply Deaf.block)) ?_
                   intro w7 hu7
                   have hz7 := congrArg Array.size hu7.2.2.2
                   replace hu7 := Upd.of_draw hu7
                   have hs7 := hu7.size
                   replace hU := hU.transA hu7
                   replace hd := hd.upd hu7 (by first | exact (fun _ _ _ h => h) | (intro k hk hl hS; have := hF k hk; simp only [At, New, Grow, From, No] at *; omega))
                   replace hbt := hbt.upd hu7 (by first | exact (fun h => h) | (simp only [At]; omega) | (intro h; have := hF _ h; omega))
                   replace hdr := hdr.upd hu7 (by first | exact (fun _ _ _ h => h) | (intro k hk hl hS; have := hFD k hk; first | (have := hF k hS; omega) | (simp only [At, New, Grow, From, No] at hS; omega)))
                   replace hx := hx.upd hu7 (by first | exact (fun _ _ _ h => h) | (intro k hk hl hS; simp only [At, New, Grow, From, No] at *; omega))
                   replace hB5 := hB5.updA hu7
                   have hS13 := Upd.refl No w7
                   refine WN.calm _ rfl rfl rfl rfl rfl (fun _ => r_move rfl (ev_t rfl)) ?_
                   refine WN.calm _ rfl rfl rfl rfl rfl (fun _ => r_move rfl (ev_t rfl)) ?_
                   refine WN.cases 48 rfl (fun hb13_1 => ?_) (fun hb13_1 => ?_)
                   · try (exfalso; first | (simp at hb13_1; done) | (simp only [decide_eq_true_eq, decide_eq_false_iff_not, Bool.not_eq_true', Bool.not_eq_false', Bool.not_eq_true, Bool.not_eq_false] at hb13_1; omega) | omega)
                     all_goals
                      try simp only [decide_eq_true_eq, decide_eq_false_iff_not, Bool.not_eq_true', Bool.not_eq_false', Bool.not_eq_true, Bool.not_eq_false, Option.isNone_none, Option.isNone_some, Option.isSome_none, Option.isSome_some, ne_eq, Decidable.not_not] at hb13_1
                      first | refine WN.calm _ rfl rfl rfl rfl rfl (fun _ => r_field0 rfl (ev_t rfl) fld_50_0) ?_ | refine WN.calm _ rfl rfl rfl rfl rfl (fun _ => r_fieldAt rfl (ev_t rfl) fld_50_0) ?_
                      refine WN.calm _ rfl rfl rfl rfl rfl (fun _ => r_move rfl (ev_t rfl)) ?_
                      refine WN.calm _ rfl rfl rfl rfl rfl (fun _ => r_nilCheck rfl (ev_t rfl)) ?_
                      first | refine WN.calm _ rfl rfl rfl rfl rfl (fun _ => r_field0 rfl (ev_t rfl) fld_89_3) ?_ | refine WN.calm _ rfl rfl rfl rfl rfl (fun _ => r_fieldAt rfl (ev_t rfl) fld_89_3) ?_
                      first | refine WN.calm _ rfl rfl rfl rfl rfl (fun _ => r_field0 rfl (ev_t rfl) fld_50_0) ?_ | refine WN.calm _ rfl rfl rfl rfl rfl (fun _ => r_fieldAt rfl (ev_t rfl) fld_50_0) ?_
                      refine WN.held _ rfl rfl rfl rfl rfl hS13 (fun w' hS => r_load rfl (ev_t rfl) flat_48 (Blk.cell (hB5.upd hS (fun h => h)) rfl)) ?_
                      refine WN.step _ rfl (SO.val rfl rfl rfl rfl (r_load rfl (ev_t rfl) flat_48 (Blk.cell hbt rfl)) ?_)
                      refine ⟨hS13, ?_⟩
                      refine WN.calm _ rfl rfl rfl rfl rfl (fun _ => r_gtr rfl (ev_t rfl) (ev_t rfl)) ?_
                      refine WN.calm _ rfl rfl rfl rfl rfl (fun _ => r_pickT rfl (ev_t rfl) (ev_t rfl)) ?_
                      refine WN.done ?_
                      refine WX.keep [(0, _), (1, _), (6, _), (7, _), (10, _), (28, _), (57, _)] ⟨rfl, rfl, rfl, rfl, rfl, rfl, rfl, trivial⟩ ?_
                      refine WX.next ?_
                      refine WC.cond rfl (ev_t rfl) (fun hc13 => ?_) (fun hc13 => ?_)
                      · try (exfalso; first | (simp at hc13; done) | (simp only [decide_eq_true_eq, decide_eq_false_iff_not, Bool.not_eq_true', Bool.not_eq_false', Bool.not_eq_true, Bool.not_eq_false] at hc13; omega) | omega)
                        all_goals
                         try simp only [decide_eq_true_eq, decide_eq_false_iff_not, Bool.not_eq_true', Bool.not_eq_false', Bool.not_eq_true, Bool.not_eq_false, Option.isNone_none, Option.isNone_some, Option.isSome_none, Option.isSome_some, ne_eq, Decidable.not_not] at hc13
                         skip
                         refine WC.region ?_
                         refine WL.val rfl rfl rfl rfl (r_move rfl (ev_t rfl)) ?_
                         refine WL.val rfl rfl rfl rfl (r_move rfl (ev_t rfl)) ?_
                         refine WL.val rfl rfl rfl rfl (r_loadAgg (vs := [_, _, _]) rfl (ev_t rfl) agg_50 size_50 (Blk.cellsL hB5)) ?_
                         refine WL.val rfl rfl rfl rfl (r_move rfl (ev_t rfl)) ?_
                         refine WL.val rfl rfl rfl rfl (r_nilCheck rfl (ev_t rfl)) ?_
                         first | refine WL.val rfl rfl rfl rfl (r_field0 rfl (ev_t rfl) fld_89_3) ?_ | refine WL.val rfl rfl rfl rfl (r_fieldAt rfl (ev_t rfl) fld_89_3) ?_
                         refine WL.cons (SO.storeN (us := [_, _, _]) rfl (ev_t rfl) (ev_t rfl) size_50 hbt (Nat.le_of_ble_eq_true rfl) rfl rfl rfl rfl ?_)
                         intro w8 hu8 hbt hzt
                         have hs8 := hu8.size
                         replace hU := hU.transA hu8
                         replace hd := hd.upd hu8 (by first | exact (fun _ _ _ h => h) | (intro k hk hl hS; have := hF k hk; simp only [At, New, Grow, From, No] at *; omega))
                         replace hdr := hdr.upd hu8 (by first | exact (fun _ _ _ h => h) | (intro k hk hl hS; have := hFD k hk; first | (have := hF k hS; omega) | (simp only [At, New, Grow, From, No] at hS; omega)))
                         replace hx := hx.upd hu8 (by first | exact (fun _ _ _ h => h) | (intro k hk hl hS; simp only [At, New, Grow, From, No] at *; omega))
                         replace hB5 := hB5.updA hu8
                         refine WL.val rfl rfl rfl rfl (r_nilCheck rfl (ev_t rfl)) ?_
                         first | refine WL.val rfl rfl rfl rfl (r_field0 rfl (ev_t rfl) fld_89_2) ?_ | refine WL.val rfl rfl rfl rfl (r_fieldAt rfl (ev_t rfl) fld_89_2) ?_
                         refine WL.cons (SO.store rfl (ev_t rfl) (ev_t rfl) size_3 hbt rfl rfl rfl rfl rfl ?_)
                         intro w9 hu9 hbt hz9
                         have hs9 := hu9.size
                         replace hU := hU.transA hu9
                         replace hd := hd.upd hu9 (by first | exact (fun _ _ _ h => h) | (intro k hk hl hS; have := hF k hk; simp only [At, New, Grow, From, No] at *; omega))
                         replace hdr := hdr.upd hu9 (by first | exact (fun _ _ _ h => h) | (intro k hk hl hS; have := hFD k hk; first | (have := hF k hS; omega) | (simp only [At, New, Grow, From, No] at hS; omega)))
                         replace hx := hx.upd hu9 (by first | exact (fun _ _ _ h => h) | (intro k hk hl hS; simp only [At, New, Grow, From, No] at *; omega))
                         replace hB5 := hB5.updA hu9
                         refine WL.nil ?_
                         refine WX.keep [(0, _), (1, _), (6, _), (28, _)] ⟨rfl, rfl, rfl, rfl, trivial⟩ ?_
                         obtain ⟨xs, hxs⟩ := Option.isSome_iff_exists.1 hb13_1
                         have hxe := hun xs hxs
                         have hpk2 : pickN D (i + 1) = ⟨i, ⟨xi, xt, xd⟩⟩ := by rw [hpk]; unfold pick; rw [hxs, hxe]; simp only; rw [if_pos (by omega)]
                         replace hbt : Blk w9 w.heap.size (hdS p 1 (pickN D (i + 1)) (.slice Ax xd.length cx)) 89 := by rw [hpk2]; exact hbt
                         have hdn : Rd w9 (New w' w9) (.slice Ax xd.length cx) (pickN D (i + 1)).s.data.length 1 ((pickN D (i + 1)).s.data.map U8) := by rw [hpk2]; exact (hx.rd (by omega)).mono (fun k hk => by simp only [New] at *; omega)
                         refine WX.blockNormal ?_
                         refine WX.next ?_
                         refine WC.region ?_
                         first | refine WL.val rfl rfl rfl rfl (r_addN rfl (ev_t rfl) ev_c (by simp only [inK]; omega)) ?_ | refine WL.val rfl rfl rfl rfl (r_add rfl (ev_t rfl) ev_c) ?_
                         refine WL.val rfl rfl rfl rfl (r_move rfl (ev_t rfl)) ?_
                         refine WL.nil ?_
                         refine WX.keep [(0, _), (1, _), (6, _), (28, _)] ⟨rfl, rfl, rfl, rfl, trivial⟩ ?_
                         refine WX.meet [(0, _), (1, _), (6, _), (28, _)] ⟨rfl, rfl, rfl, rfl, trivial⟩ ?_
                         first
                           | exact ⟨2 - (i + 1), by omega, i + 1, _, _, by omega, rfl, hU, by omega, hd, hbt, hdn, fun k hk => by simp only [New] at hk; omega, rfl⟩
                           | exact ⟨2 - (i + 1), by omega, i + 1, _, FD, by omega, rfl, hU, by omega, hd, by rw [hpk2]; exact hbt, by rw [hpk2]; exact hdr, fun k hk => by have := hFD k hk; omega, rfl⟩
                      · try (exfalso; first | (simp at hc13; done) | (simp only [decide_eq_true_eq, decide_eq_false_iff_not, Bool.not_eq_true', Bool.not_eq_false', Bool.not_eq_true, Bool.not_eq_false] at hc13; omega) | omega)
                        all_goals
                         try simp only [decide_eq_true_eq, decide_eq_false_iff_not, Bool.not_eq_true', Bool.not_eq_false', Bool.not_eq_true, Bool.not_eq_false, Option.isNone_none, Option.isNone_some, Option.isSome_none, Option.isSome_some, ne_eq, Decidable.not_not] at hc13
                         have hpk2 : pickN D (i + 1) = pickN D i := by
                           obtain ⟨xs, hxs⟩ := Option.isSome_iff_exists.1 hb13_1
                           have hxe := hun xs hxs
                           rw [hpk]; unfold pick; rw [hxs, hxe]; simp only; rw [if_neg (by omega)]
                         refine WC.skip ?_
                         refine WX.blockNormal ?_
                         refine WX.next ?_
                         refine WC.region ?_
                         first | refine WL.val rfl rfl rfl rfl (r_addN rfl (ev_t rfl) ev_c (by simp only [inK]; omega)) ?_ | refine WL.val rfl rfl rfl rfl (r_add rfl (ev_t rfl) ev_c) ?_
                         refine WL.val rfl rfl rfl rfl (r_move rfl (ev_t rfl)) ?_
                         refine WL.nil ?_
                         refine WX.keep [(0, _), (1, _), (6, _), (28, _)] ⟨rfl, rfl, rfl, rfl, trivial⟩ ?_
                         refine WX.meet [(0, _), (1, _), (6, _), (28, _)] ⟨rfl, rfl, rfl, rfl, trivial⟩ ?_
                         first
                           | exact ⟨2 - (i + 1), by omega, i + 1, _, _, by omega, rfl, hU, by omega, hd, hbt, hdn, fun k hk => by simp only [New] at hk; omega, rfl⟩
                           | exact ⟨2 - (i + 1), by omega, i + 1, _, FD, by omega, rfl, hU, by omega, hd, by rw [hpk2]; exact hbt, by rw [hpk2]; exact hdr, fun k hk => by have := hFD k hk; omega, rfl⟩
                   · try (exfalso; first | (simp at hb13_1; done) | (simp only [decide_eq_true_eq, decide_eq_false_iff_not, Bool.not_eq_true', Bool.not_eq_false', Bool.not_eq_true, Bool.not_eq_false] at hb13_1; omega) | omega)
                     all_goals
                      try simp only [decide_eq_true_eq, decide_eq_false_iff_not, Bool.not_eq_true', Bool.not_eq_false', Bool.not_eq_true, Bool.not_eq_false, Option.isNone_none, Option.isNone_some, Option.isSome_none, Option.isSome_some, ne_eq, Decidable.not_not] at hb13_1
                      refine WN.skip _ rfl rfl rfl rfl ?_
                      refine WN.skip _ rfl rfl rfl rfl ?_
                      refine WN.skip _ rfl rfl rfl rfl ?_
                      refine WN.skip _ rfl rfl rfl rfl ?_
                      refine WN.skip _ rfl rfl rfl rfl ?_
                      refine WN.heldSkip _ rfl rfl rfl rfl hS13 ?_
                      refine WN.step _ rfl (SO.skip rfl rfl rfl ?_)
                      refine ⟨hS13, ?_⟩
                      refine WN.skip _ rfl rfl rfl rfl ?_
                      refine WN.calm _ rfl rfl rfl rfl rfl (fun _ => r_pickF rfl (ev_t rfl) ev_c) ?_
                      refine WN.done ?_
                      refine WX.keep [(0, _), (1, _), (6, _), (7, _), (10, _), (28, _), (57, _)] ⟨rfl, rfl, rfl, rfl, rfl, rfl, rfl, trivial⟩ ?_
                      refine WX.next ?_
                      refine WC.cond_false rfl (ev_t rfl) ?_
                      have hpk2 : pickN D (i + 1) = pickN D i := by
                        have hnone : unlayB pb = none := by simpa using hb13_1
                        rw [hpk]; unfold pick; rw [hnone]
                      refine WC.skip ?_
                      refine WX.blockNormal ?_
                      refine WX.next ?_
                      refine WC.region ?_
                      first | refine WL.val rfl rfl rfl rfl (r_addN rfl (ev_t rfl) ev_c (by simp only [inK]; omega)) ?_ | refine WL.val rfl rfl rfl rfl (r_add rfl (ev_t rfl) ev_c) ?_
                      refine WL.val rfl rfl rfl rfl (r_move rfl (ev_t rfl)) ?_
                      refine WL.nil ?_
                      refine WX.keep [(0, _), (1, _), (6, _), (28, _)] ⟨rfl, rfl, rfl, rfl, trivial⟩ ?_
                      refine WX.meet [(0, _), (1, _), (6, _), (28, _)] ⟨rfl, rfl, rfl, rfl, trivial⟩ ?_
                      first
                        | exact ⟨2 - (i + 1), by omega, i + 1, _, _, by omega, rfl, hU, by omega, hd, hbt, hdn, fun k hk => by simp only [New] at hk; omega, rfl⟩
                        | exact ⟨2 - (i + 1), by omega, i + 1, _, FD, by omega, rfl, hU, by omega, hd, by rw [hpk2]; exact hbt, by rw [hpk2]; exact hdr, fun k hk => by have := hFD k hk; omega, rfl⟩
             · try (exfalso; first | (simp at hc7; done) | (simp only [decide_eq_true_eq, decide_eq_false_iff_not, Bool.not_eq_true', Bool.not_eq_false', Bool.not_eq_true, Bool.not_eq_false] at hc7; omega) | omega)
               all_goals
                try simp only [decide_eq_true_eq, decide_eq_false_iff_not, Bool.not_eq_true', Bool.not_eq_false', Bool.not_eq_true, Bool.not_eq_false, Option.isNone_none, Option.isNone_some, Option.isSome_none, Option.isSome_some, ne_eq, Decidable.not_not] at hc7
                obtain rfl : i = 2 := by omega
                have hsd := pickN_side D 2
                refine WC.exit ?_
                refine WX.thenExit ?_
                refine WX.thenExit ?_
                refine WX.blockHere ?_
                refine WX.next ?_
                refine WC.seq ?_
                refine WC.seq ?_
                refine WC.region ?_
                refine WL.val rfl rfl rfl rfl (r_move rfl (ev_t rfl)) ?_
                refine WL.val rfl rfl rfl rfl (r_nilCheck rfl (ev_t rfl)) ?_
                first | refine WL.val rfl rfl rfl rfl (r_field0 rfl (ev_t rfl) fld_89_3) ?_ | refine WL.val rfl rfl rfl rfl (r_fieldAt rfl (ev_t rfl) fld_89_3) ?_
                first | refine WL.val rfl rfl rfl rfl (r_field0 rfl (ev_t rfl) fld_50_0) ?_ | refine WL.val rfl rfl rfl rfl (r_fieldAt rfl (ev_t rfl) fld_50_0) ?_
                refine WL.val rfl rfl rfl rfl (r_load rfl (ev_t rfl) flat_48 (Blk.cell hbt rfl)) ?_
                refine WL.val rfl rfl rfl rfl (r_gtr rfl (ev_t rfl) ev_c) ?_
                refine WL.nil ?_
                refine WX.keep [(0, _), (1, _), (6, _), (72, _)] ⟨rfl, rfl, rfl, rfl, trivial⟩ ?_
                refine WX.next ?_
                refine WC.cond rfl (ev_t rfl) (fun hc16 => ?_) (fun hc16 => ?_)
                · try (exfalso; first | (simp at hc16; done) | (simp only [decide_eq_true_eq, decide_eq_false_iff_not, Bool.not_eq_true', Bool.not_eq_false', Bool.not_eq_true, Bool.not_eq_false] at hc16; omega) | omega)
                  all_goals
                   try simp only [decide_eq_true_eq, decide_eq_false_iff_not, Bool.not_eq_true', Bool.not_eq_false', Bool.not_eq_true, Bool.not_eq_false, Option.isNone_none, Option.isNone_some, Option.isSome_none, Option.isSome_some, ne_eq, Decidable.not_not] at hc16
                   have hlk := hlook (pickN D 2).side (by omega)
                   have hop : openD D = D.sync (1 + ((pickN D 2).side : Int)) := if_neg (by omega)
                   refine WC.seq ?_
                   refine WC.region ?_
                   refine WL.val rfl rfl rfl rfl (r_move rfl (ev_t rfl)) ?_
                   refine WL.val rfl rfl rfl rfl (r_move rfl (ev_t rfl)) ?_
                   refine WL.val rfl rfl rfl rfl (r_move rfl (ev_t rfl)) ?_
                   refine WL.val rfl rfl rfl rfl (r_nilCheck rfl (ev_t rfl)) ?_
                   first | refine WL.val rfl rfl rfl rfl (r_field0 rfl (ev_t rfl) fld_89_2) ?_ | refine WL.val rfl rfl rfl rfl (r_fieldAt rfl (ev_t rfl) fld_89_2) ?_
                   refine WL.val rfl rfl rfl rfl (r_load rfl (ev_t rfl) flat_3 (Blk.cell hbt rfl)) ?_
                   first | refine WL.val rfl rfl rfl rfl (r_addN rfl (ev_t rfl) (ev_t rfl) (by simp only [inK]; omega)) ?_ | refine WL.val rfl rfl rfl rfl (r_add rfl (ev_t rfl) (ev_t rfl)) ?_
                   refine WL.cons (SO.call (Sync_good hd hlk) rfl body_17 ⟨(ev_t rfl), (ev_t rfl), trivial⟩ rfl rfl rfl rfl ?_)
                   rintro v w10 ⟨rfl, hd, hu10⟩
                   rw [← hop] at hd ⊢
                   have hs10 := hu10.size
                   replace hU := hU.transA hu10
                   replace hbt := hbt.upd hu10 (by first | exact (fun h => h) | (simp only [At]; omega) | (intro h; have := hF _ h; omega))
                   replace hdr := hdr.upd hu10 (by first | exact (fun _ _ _ h => h) | (intro k hk hl hS; have := hFD k hk; first | (have := hF k hS; omega) | (simp only [At, New, Grow, From, No] at hS; omega)))
                   refine WL.val rfl rfl rfl rfl (r_assign rfl (ev_t rfl)) ?_
                   refine WL.nil ?_
                   refine WX.keep [(6, _), (12, _)] ⟨rfl, rfl, trivial⟩ ?_
                   refine WX.next ?_
                   refine WC.seq ?_
                   refine WC.region ?_
                   refine WL.val rfl rfl rfl rfl (r_move rfl (ev_t rfl)) ?_
                   refine WL.val rfl rfl rfl rfl (r_neq rfl (ev_t rfl) ev_c) ?_
                   refine WL.nil ?_
                   refine WX.keep [(6, _), (12, _), (82, _)] ⟨rfl, rfl, rfl, trivial⟩ ?_
                   refine WX.next ?_
                   refine WC.cond rfl (ev_t rfl) (fun hc18 => ?_) (fun hc18 => ?_)
                   · try (exfalso; first | (simp at hc18; done) | (simp only [decide_eq_true_eq, decide_eq_false_iff_not, Bool.not_eq_true', Bool.not_eq_false', Bool.not_eq_true, Bool.not_eq_false] at hc18; omega) | omega)
                     all_goals
                      try simp only [decide_eq_true_eq, decide_eq_false_iff_not, Bool.not_eq_true', Bool.not_eq_false', Bool.not_eq_true, Bool.not_eq_false, Option.isNone_none, Option.isNone_some, Option.isSome_none, Option.isSome_some, ne_eq, Decidable.not_not] at hc18
                      refine WC.seq ?_
                      refine WC.region ?_
                      refine WL.val rfl rfl rfl rfl (r_move rfl (ev_t rfl)) ?_
                      refine WL.val rfl rfl rfl rfl (r_assign rfl ev_c) ?_
                      refine WL.val rfl rfl rfl rfl (r_assign rfl (ev_t rfl)) ?_
                      refine WL.nil ?_
                      refine WX.keep [(4, _), (5, _)] ⟨rfl, rfl, trivial⟩ ?_
                      refine WX.next ?_
                      refine WC.ret ?_
                      refine WX.thenRet ?_
                      refine WX.retE2 rfl rfl rfl ?_
                      exact ⟨hU, _, hd, (fun k hk => hk.elim .inl (fun h => .inr ⟨by omega, by omega⟩)), .inl ⟨by omega, rfl⟩⟩
                   · try (exfalso; first | (simp at hc18; done) | (simp only [decide_eq_true_eq, decide_eq_false_iff_not, Bool.not_eq_true', Bool.not_eq_false', Bool.not_eq_true, Bool.not_eq_false] at hc18; omega) | omega)
                     all_goals
                      try simp only [decide_eq_true_eq, decide_eq_false_iff_not, Bool.not_eq_true', Bool.not_eq_false', Bool.not_eq_true, Bool.not_eq_false, Option.isNone_none, Option.isNone_some, Option.isSome_none, Option.isSome_some, ne_eq, Decidable.not_not] at hc18
                      refine WC.skip ?_
                      refine WX.next ?_
                      refine WC.seq ?_
                      refine WC.region ?_
                      refine WL.val rfl rfl rfl rfl (r_move rfl (ev_t rfl)) ?_
                      refine WL.val rfl rfl rfl rfl (r_assign rfl (ev_t rfl)) ?_
                      refine WL.val rfl rfl rfl rfl (r_assign rfl ev_c) ?_
                      refine WL.nil ?_
                      refine WX.keep [(4, _), (5, _)] ⟨rfl, rfl, trivial⟩ ?_
                      refine WX.next ?_
                      refine WC.ret ?_
                      refine WX.retE2 rfl rfl rfl ?_
                      first
                        | (have hz : (openD D).2 = 0 := by omega
                           exact ⟨hU, _, hd, (fun k hk => hk.elim .inl (fun h => .inr ⟨by omega, by omega⟩)), .inr ⟨hz, w.heap.size, fun k => w.heap.size ≤ k ∧ k < w'.heap.size, rfl, ⟨_, FD, hbt, hdr, (fun h => by have := hFD _ h; omega), ⟨by omega, by omega⟩, fun k hk => by have := hFD k hk; omega⟩, (fun k hk hG => by rcases hk with hk | hk; (have := hF k hk; omega); omega), fun k hk => ⟨hk.1, by omega⟩⟩⟩)
                        | (rw [hop]
                           exact ⟨hU, _, hd, (fun k hk => .inl hk), .inr ⟨rfl, w.heap.size, fun k => w.heap.size ≤ k ∧ k < w'.heap.size, rfl, ⟨_, FD, hbt, hdr, (fun h => by have := hFD _ h; omega), ⟨by omega, by omega⟩, fun k hk => by have := hFD k hk; omega⟩, (fun k hk hG => by have := hF k hk; omega), fun k hk => ⟨hk.1, by omega⟩⟩⟩)
                · try (exfalso; first | (simp at hc16; done) | (simp only [decide_eq_true_eq, decide_eq_false_iff_not, Bool.not_eq_true', Bool.not_eq_false', Bool.not_eq_true, Bool.not_eq_false] at hc16; omega) | omega)
                  all_goals
                   try simp only [decide_eq_true_eq, decide_eq_false_iff_not, Bool.not_eq_true', Bool.not_eq_false', Bool.not_eq_true, Bool.not_eq_false, Option.isNone_none, Option.isNone_some, Option.isSome_none, Option.isSome_some, ne_eq, Decidable.not_not] at hc16
                   have hop : openD D = (D, 0) := if_pos (by omega)
                   refine WC.skip ?_
                   refine WX.next ?_
                   refine WC.seq ?_
                   refine WC.region ?_
                   refine WL.val rfl rfl rfl rfl (r_move rfl (ev_t rfl)) ?_
                   refine WL.val rfl rfl rfl rfl (r_assign rfl (ev_t rfl)) ?_
                   refine WL.val rfl rfl rfl rfl (r_assign rfl ev_c) ?_
                   refine WL.nil ?_
                   refine WX.keep [(4, _), (5, _)] ⟨rfl, rfl, trivial⟩ ?_
                   refine WX.next ?_
                   refine WC.ret ?_
                   refine WX.retE2 rfl rfl rfl ?_
                   first
                     | (have hz : (openD D).2 = 0 := by omega
                        exact ⟨hU, _, hd, (fun k hk => hk.elim .inl (fun h => .inr ⟨by omega, by omega⟩)), .inr ⟨hz, w.heap.size, fun k => w.heap.size ≤ k ∧ k < w'.heap.size, rfl, ⟨_, FD, hbt, hdr, (fun h => by have := hFD _ h; omega), ⟨by omega, by omega⟩, fun k hk => by have := hFD k hk; omega⟩, (fun k hk hG => by rcases hk with hk | hk; (have := hF k hk; omega); omega), fun k hk => ⟨hk.1, by omega⟩⟩⟩)
                     | (rw [hop]
                        exact ⟨hU, _, hd, (fun k hk => .inl hk), .inr ⟨rfl, w.heap.size, fun k => w.heap.size ≤ k ∧ k < w'.heap.size, rfl, ⟨_, FD, hbt, hdr, (fun h => by have := hFD _ h; omega), ⟨by omega, by omega⟩, fun k hk => by have := hFD k hk; omega⟩, (fun k hk hG => by have := hF k hk; omega), fun k hk => ⟨hk.1, by omega⟩⟩⟩)
end Go.Proofs.Ytejlmcdmoghmaaa
