/-
  octet: any bytes, read in any way: the walk.
-/
import Derived.Test.YtjiafgnibhgfbaaRre
import Derived.Test.YtjiafgnibhgfbaaAwo
namespace Go.Proofs.Ytjiafgnibhgfbaa
open Go
set_option linter.unusedSimpArgs false
set_option linter.unusedVariables false

theorem IsR.lt {w : World} {F : Nat → Prop} {g : Nat} {s : Option (List UInt8)} (h : IsR w F g s) : g < w.heap.size := by
  cases s with
  | none => obtain ⟨_, _, _, hb⟩ := h; exact hb.lt
  | some l => obtain ⟨_, _, hb, _⟩ := h; exact hb.lt
theorem IsM.lt {w : World} {F : Nat → Prop} {g : Nat} {p : List UInt8} {s : Option (List UInt8)} (h : IsM w F g p s) : g < w.heap.size := by
  obtain ⟨_, _, _, hb, _⟩ := h
  exact hb.lt
theorem StM.bad {p : List UInt8} {a : Int} {s : Option (List UInt8)} (h : StM p a s) : (!(s.isNone == decide (a < 0))) = false := by
  cases s with
  | none => simp only [StM] at h; subst h; rfl
  | some r =>
    obtain ⟨m, rfl, _, _⟩ := h
    rw [decide_eq_false (by omega)]
    rfl
theorem StM.end {p : List UInt8} {a : Int} {s : Option (List UInt8)} (h : StM p a s) : (!(decide (s = some []) == decide (a = (p.length : Int)))) = false := by
  cases s with
  | none =>
    simp only [StM] at h
    subst h
    rw [decide_eq_false (by omega : ¬ (-1 : Int) = (p.length : Int))]
    rfl
  | some r =>
    obtain ⟨m, rfl, hm, rfl⟩ := h
    have : (some (p.drop m) = some []) ↔ ((m : Int) = (p.length : Int)) := by
      rw [Option.some.injEq, List.drop_eq_nil_iff]
      omega
    have h2 : decide (some (p.drop m) = some []) = decide ((m : Int) = (p.length : Int)) := decide_eq_decide.2 this
    rw [h2]
    simp

/-- the cells of asks -/
def askC (K : Nat → UInt8) (Z : Nat → Int) (n : Nat) : List Value := (List.range (n * 2)).map fun j => if j % 2 = 0 then U8 (K (j / 2)) else .int .i64 (Z (j / 2))
theorem askC_kind {K : Nat → UInt8} {Z : Nat → Int} {n i : Nat} (h : i < n) : (askC K Z n)[i * 2]? = some (.int .u8 ((K i).toNat : Int)) := by
  unfold askC
  rw [List.getElem?_map, List.getElem?_range (by omega)]
  simp [U8]
theorem askC_most {K : Nat → UInt8} {Z : Nat → Int} {n i : Nat} (h : i < n) : (askC K Z n)[i * 2 + 1]? = some (.int .i64 (Z i)) := by
  unfold askC
  rw [List.getElem?_map, List.getElem?_range (by omega)]
  have h1 : (i * 2 + 1) % 2 = 1 := by omega
  have h2 : (i * 2 + 1) / 2 = i := by omega
  simp [h1, h2]

theorem octetReads.walk {w : World} {pv av : Value} {p : List UInt8} {K : Nat → UInt8} {Z : Nat → Int} {n : Nat} (hr1 : Rd w (fun k => k < w.heap.size) pv p.length 1 (p.map U8)) (hp : p.length ≤ 140737488351232)
    (ha : Rd w (fun k => k < w.heap.size) av n 2 (askC K Z n)) (hZ : ∀ i, i < n → inK .i64 (Z i)) :
    Ret Try.prog 13 #[pv, av] w fun v w' => v = .bool true ∧ Upd No w w' := by
  obtain ⟨A1, c1, rfl, hle1⟩ := hr1.slice_form
  obtain ⟨A2, c2, rfl, hle2⟩ := ha.slice_form
  have hn := ha.le
  refine enterRet (vs := [_, _]) (N := 122) Try.func13 rfl rfl rfl ?_
  have hU := Upd.refl No w
  refine WC.keep [(0, _), (1, _)] ⟨rfl, rfl, trivial⟩ ?_
  refine WC.seq ?_
  -- region 0 law.go:78
  refine WC.region ?_
  refine WL.val rfl rfl rfl rfl (r_assign rfl ev_c) ?_
  refine WL.nil ?_
  refine WX.keep [(0, _), (1, _)] ⟨rfl, rfl, trivial⟩ ?_
  refine WX.next ?_
  refine WC.seq ?_
  refine WC.seq ?_
  -- region 1 law.go:79
  refine WC.region ?_
  refine WL.cons (SO.call (awake1_ok _) rfl body_19 trivial rfl rfl rfl rfl ?_)
  rintro v w1 ⟨rfl, hu1⟩
  have hs1 := hu1.size
  replace hU := hU.trans hu1 (by first | exact (fun _ _ h => h) | exact (fun _ _ h => h.elim) | (intro k hl hk; (try simp only [At, New, Grow, From, No] at hk ⊢); omega))
  replace hr1 := hr1.upd hu1 (by first | exact (fun _ _ _ h => h) | (intro k hk hl hS; have : k < w.heap.size := hk; simp only [At, New, Grow, From, No] at hS; omega))
  replace ha := ha.upd hu1 (by first | exact (fun _ _ _ h => h) | (intro k hk hl hS; have : k < w.heap.size := hk; simp only [At, New, Grow, From, No] at hS; omega))
  refine WL.val rfl rfl rfl rfl (r_not rfl (ev_t rfl)) ?_
  refine WL.nil ?_
  refine WX.keep [(0, _), (1, _), (10, _)] ⟨rfl, rfl, rfl, trivial⟩ ?_
  refine WX.next ?_
  refine WC.cond rfl (ev_t rfl) (fun hc1 => ?_) (fun hc1 => ?_)
  · try (exfalso; first | (simp at hc1; done) | (simp only [decide_eq_true_eq, decide_eq_false_iff_not, Bool.not_eq_true', Bool.not_eq_false', Bool.not_eq_true, Bool.not_eq_false] at hc1; omega) | omega)
    all_goals
      try simp only [decide_eq_true_eq, decide_eq_false_iff_not, Bool.not_eq_true', Bool.not_eq_false', Bool.not_eq_true, Bool.not_eq_false, Option.isNone_none, Option.isNone_some, Option.isSome_none, Option.isSome_some, ne_eq, Decidable.not_not] at hc1
      refine WC.seq ?_
      -- region 2 law.go:80
      refine WC.region ?_
      refine WL.val rfl rfl rfl rfl (r_assign rfl ev_c) ?_
      refine WL.nil ?_
      refine WX.keep [(4, _)] ⟨rfl, trivial⟩ ?_
      refine WX.next ?_
      refine WC.ret ?_
      refine WX.thenRet ?_
      refine WX.retE1 rfl rfl ?_
      exact ⟨rfl, hU⟩
  · try (exfalso; first | (simp at hc1; done) | (simp only [decide_eq_true_eq, decide_eq_false_iff_not, Bool.not_eq_true', Bool.not_eq_false', Bool.not_eq_true, Bool.not_eq_false] at hc1; omega) | omega)
    all_goals
      try simp only [decide_eq_true_eq, decide_eq_false_iff_not, Bool.not_eq_true', Bool.not_eq_false', Bool.not_eq_true, Bool.not_eq_false, Option.isNone_none, Option.isNone_some, Option.isSome_none, Option.isSome_some, ne_eq, Decidable.not_not] at hc1
      refine WC.skip ?_
      refine WX.next ?_
      refine WC.seq ?_
      -- region 3 law.go:82
      refine WC.region ?_
      refine WL.val rfl rfl rfl rfl (r_move rfl (ev_t rfl)) ?_
      refine WL.cons (SO.call (newReader_ok hr1) rfl body_34 ⟨(ev_t rfl), trivial⟩ rfl rfl rfl rfl ?_)
      rintro v w2 ⟨rfl, hI, hu2⟩
      have hs2 := hu2.size
      replace hU := hU.trans hu2 (by first | exact (fun _ _ h => h) | exact (fun _ _ h => h.elim) | (intro k hl hk; (try simp only [At, New, Grow, From, No] at hk ⊢); omega))
      replace hr1 := hr1.upd hu2 (by first | exact (fun _ _ _ h => h) | (intro k hk hl hS; have : k < w.heap.size := hk; simp only [At, New, Grow, From, No] at hS; omega))
      replace ha := ha.upd hu2 (by first | exact (fun _ _ _ h => h) | (intro k hk hl hS; have : k < w.heap.size := hk; simp only [At, New, Grow, From, No] at hS; omega))
      have hlt1 := hI.lt
      refine WL.val rfl rfl rfl rfl (r_assign rfl (ev_t rfl)) ?_
      refine WL.nil ?_
      refine WX.keep [(0, _), (1, _), (5, _)] ⟨rfl, rfl, rfl, trivial⟩ ?_
      refine WX.next ?_
      refine WC.seq ?_
      -- region 4 law.go:83
      refine WC.region ?_
      refine WL.val rfl rfl rfl rfl (r_move rfl (ev_t rfl)) ?_
      refine WL.val rfl rfl rfl rfl (r_build (cs := #[_, _]) (vs := [(0, _)]) rfl ⟨⟨rfl, (ev_t rfl)⟩, trivial⟩ plc_71 zero_71 rfl) ?_
      refine WL.cons (SO.alloc rfl rfl rfl rfl (r_boxAgg rfl (ev_t rfl)) ?_)
      intro w3 hu3 hB3 hz3
      have hs3 := hu3.size
      replace hU := hU.trans hu3 (by first | exact (fun _ _ h => h) | exact (fun _ _ h => h.elim) | (intro k hl hk; (try simp only [At, New, Grow, From, No] at hk ⊢); omega))
      replace hr1 := hr1.upd hu3 (by first | exact (fun _ _ _ h => h) | (intro k hk hl hS; have : k < w.heap.size := hk; simp only [At, New, Grow, From, No] at hS; omega))
      replace ha := ha.upd hu3 (by first | exact (fun _ _ _ h => h) | (intro k hk hl hS; have : k < w.heap.size := hk; simp only [At, New, Grow, From, No] at hS; omega))
      replace hI := hI.upd hu3 (by first | exact (fun h => h) | (simp only [At, New, Grow, From, No]; omega)) (by first | exact (fun _ _ _ h => h) | (intro k hk hl hS; have : k < w.heap.size := hk; simp only [At, New, Grow, From, No] at hS; omega))
      refine WL.val rfl rfl rfl rfl (r_assign rfl (ev_t rfl)) ?_
      refine WL.nil ?_
      refine WX.keep [(0, _), (1, _), (5, _), (6, _)] ⟨rfl, rfl, rfl, rfl, trivial⟩ ?_
      have hM : IsM w3 (fun k => k < w.heap.size) w2.heap.size p (some p) := ⟨A1, c1, 0, hB3, hr1, 0, rfl, Nat.zero_le _, rfl⟩
      refine WX.next ?_
      refine WC.seq ?_
      refine WC.seq ?_
      -- region 5 law.go:84
      refine WC.region ?_
      refine WL.val rfl rfl rfl rfl (r_assign rfl ev_c) ?_
      refine WL.nil ?_
      refine WX.keep [(0, _), (1, _), (5, _), (6, _), (7, _)] ⟨rfl, rfl, rfl, rfl, rfl, trivial⟩ ?_
      refine WX.next ?_
      refine WC.block ?_
      -- loop 1: live [0, 1, 5, 6, 7]
      refine WC.keep [(0, _), (1, _), (5, _), (6, _), (7, _)] ⟨rfl, rfl, rfl, rfl, rfl, trivial⟩ ?_
      refine WC.loop (fun q E w' => ∃ (i : Nat) (s : Option (List UInt8)), i ≤ 50 ∧ q = 50 - i ∧ Upd No w w' ∧ w3.heap.size ≤ w'.heap.size ∧ IsR w' (fun k => k < w.heap.size) w1.heap.size s ∧ IsM w' (fun k => k < w.heap.size) w2.heap.size p s ∧   Rd w' (fun k => k < w.heap.size) (.slice A1 p.length c1) p.length 1 (p.map U8) ∧ Rd w' (fun k => k < w.heap.size) (.slice A2 n c2) n 2 (askC K Z n) ∧   E = [(0, .slice A1 p.length c1), (1, .slice A2 n c2), (5, .pointer (some ⟨w1.heap.size, 0, none⟩)), (6, .pointer (some ⟨w2.heap.size, 0, none⟩)), (7, .int .i64 (i : Int))]) (50) ?_ ?_
      · exact ⟨0, some p, by omega, by omega, hU, by omega, hI, hM, hr1, ha, rfl⟩
      · rintro q E w' ⟨i, s, hi, rfl, hU, hs3', hI, hM, hr1, ha, rfl⟩
        have hs0 := hU.size
        have hFg1 : ¬ w1.heap.size < w.heap.size := by omega
        have hFg2 : ¬ w2.heap.size < w.heap.size := by omega
        refine WC.seq ?_
        refine WC.seq ?_
        -- region 6 law.go:84
        refine WC.region ?_
        refine WL.val rfl rfl rfl rfl (r_move rfl (ev_t rfl)) ?_
        refine WL.val rfl rfl rfl rfl (r_move rfl (ev_t rfl)) ?_
        refine WL.val rfl rfl rfl rfl (r_lenSlice (ts := #[]) rfl (ev_t rfl) elem_66) ?_
        refine WL.val rfl rfl rfl rfl (r_lss rfl (ev_t rfl) (ev_t rfl)) ?_
        refine WL.val rfl rfl rfl rfl (r_move rfl (ev_t rfl)) ?_
        refine WL.cases 20 rfl (fun hb6_4 => ?_) (fun hb6_4 => ?_)
        · try (exfalso; first | (simp at hb6_4; done) | (simp only [decide_eq_true_eq, decide_eq_false_iff_not, Bool.not_eq_true', Bool.not_eq_false', Bool.not_eq_true, Bool.not_eq_false] at hb6_4; omega) | omega)
          all_goals
            try simp only [decide_eq_true_eq, decide_eq_false_iff_not, Bool.not_eq_true', Bool.not_eq_false', Bool.not_eq_true, Bool.not_eq_false, Option.isNone_none, Option.isNone_some, Option.isSome_none, Option.isSome_some, ne_eq, Decidable.not_not] at hb6_4
            have hin : i < n := by omega
            have hzi := hZ i hin
            obtain ⟨b, off, rfl, _⟩ := ha.open (by omega)
            have hk := askC_kind (K := K) (Z := Z) hin
            have hz := askC_most (K := K) (Z := Z) hin
            refine WL.val rfl rfl rfl rfl (r_move rfl (ev_t rfl)) ?_
            refine WL.val rfl rfl rfl rfl (r_lss rfl (ev_t rfl) ev_c) ?_
            refine WL.val rfl rfl rfl rfl (r_pickT rfl (ev_t rfl) (ev_t rfl)) ?_
            refine WL.nil ?_
            refine WX.keep [(0, _), (1, _), (5, _), (6, _), (7, _), (23, _)] ⟨rfl, rfl, rfl, rfl, rfl, rfl, trivial⟩ ?_
            refine WX.next ?_
            refine WC.cond rfl (ev_t rfl) (fun hc6 => ?_) (fun hc6 => ?_)
            · try (exfalso; first | (simp at hc6; done) | (simp only [decide_eq_true_eq, decide_eq_false_iff_not, Bool.not_eq_true', Bool.not_eq_false', Bool.not_eq_true, Bool.not_eq_false] at hc6; omega) | omega)
              all_goals
                try simp only [decide_eq_true_eq, decide_eq_false_iff_not, Bool.not_eq_true', Bool.not_eq_false', Bool.not_eq_true, Bool.not_eq_false, Option.isNone_none, Option.isNone_some, Option.isSome_none, Option.isSome_some, ne_eq, Decidable.not_not] at hc6
                refine WC.skip ?_
                refine WX.next ?_
                refine WC.seq ?_
                refine WC.block ?_
                refine WC.seq ?_
                -- region 8 law.go:85
                refine WC.region ?_
                refine WL.val rfl rfl rfl rfl (r_assign rfl ev_c) ?_
                refine WL.nil ?_
                refine WX.keep [(0, _), (1, _), (5, _), (6, _), (7, _)] ⟨rfl, rfl, rfl, rfl, rfl, trivial⟩ ?_
                refine WX.next ?_
                refine WC.seq ?_
                refine WC.seq ?_
                -- region 9 law.go:86
                refine WC.region ?_
                refine WL.val rfl rfl rfl rfl (r_move rfl (ev_t rfl)) ?_
                refine WL.val rfl rfl rfl rfl (r_move rfl (ev_t rfl)) ?_
                refine WL.val rfl rfl rfl rfl (r_indexAddr rfl (ev_t rfl) (ev_t rfl) elem_66 size_73 (by omega) (by omega)) ?_
                first | refine WL.val rfl rfl rfl rfl (r_field0 rfl (ev_t rfl) fld_73_0) ?_ | refine WL.val rfl rfl rfl rfl (r_fieldAt rfl (ev_t rfl) fld_73_0) ?_
                refine WL.val rfl rfl rfl rfl (r_load rfl (ev_t rfl) flat_5 (ha.cell (j := i * 2) (by omega) hk)) ?_
                first | refine WL.val rfl rfl rfl rfl (r_remN rfl (ev_t rfl) ev_c (by omega) (by omega)) ?_ | refine WL.val rfl rfl rfl rfl (r_rem rfl (ev_t rfl) ev_c (by omega)) ?_
                refine WL.nil ?_
                refine WX.keep [(0, _), (1, _), (5, _), (6, _), (7, _), (31, _)] ⟨rfl, rfl, rfl, rfl, rfl, rfl, trivial⟩ ?_
                refine WX.next ?_
                refine WC.block ?_
                refine WC.seq ?_
                -- region 11 law.go:87
                refine WC.region ?_
                refine WL.val rfl rfl rfl rfl (r_eql rfl (ev_t rfl) ev_c) ?_
                refine WL.val rfl rfl rfl rfl (r_assign rfl (ev_t rfl)) ?_
                refine WL.nil ?_
                refine WX.keep [(0, _), (1, _), (5, _), (6, _), (7, _), (31, _), (48, _)] ⟨rfl, rfl, rfl, rfl, rfl, rfl, rfl, trivial⟩ ?_
                refine WX.next ?_
                refine WC.cond rfl (ev_t rfl) (fun hc11 => ?_) (fun hc11 => ?_)
                · try (exfalso; first | (simp at hc11; done) | (simp only [decide_eq_true_eq, decide_eq_false_iff_not, Bool.not_eq_true', Bool.not_eq_false', Bool.not_eq_true, Bool.not_eq_false] at hc11; omega) | omega)
                  all_goals
                    try simp only [decide_eq_true_eq, decide_eq_false_iff_not, Bool.not_eq_true', Bool.not_eq_false', Bool.not_eq_true, Bool.not_eq_false, Option.isNone_none, Option.isNone_some, Option.isSome_none, Option.isSome_some, ne_eq, Decidable.not_not] at hc11
                    -- region 12 law.go:88
                    refine WC.region ?_
                    refine WL.val rfl rfl rfl rfl (r_move rfl (ev_t rfl)) ?_
                    refine WL.cons (SO.call (ruint_ok (x := (uintR s).1) (s' := (uintR s).2) hI hFg1 rfl) rfl body_35 ⟨(ev_t rfl), trivial⟩ rfl rfl rfl rfl ?_)
                    rintro v w4 ⟨rfl, hI, hu4⟩
                    have hs4 := hu4.size
                    replace hU := hU.trans hu4 (by first | exact (fun _ _ h => h) | exact (fun _ _ h => h.elim) | (intro k hl hk; (try simp only [At, New, Grow, From, No] at hk ⊢); omega))
                    replace hr1 := hr1.upd hu4 (by first | exact (fun _ _ _ h => h) | (intro k hk hl hS; have : k < w.heap.size := hk; simp only [At, New, Grow, From, No] at hS; omega))
                    replace ha := ha.upd hu4 (by first | exact (fun _ _ _ h => h) | (intro k hk hl hS; have : k < w.heap.size := hk; simp only [At, New, Grow, From, No] at hS; omega))
                    replace hM := hM.upd hu4 (by first | exact (fun h => h) | (simp only [At, New, Grow, From, No]; omega)) (by first | exact (fun _ _ _ h => h) | (intro k hk hl hS; have : k < w.heap.size := hk; simp only [At, New, Grow, From, No] at hS; omega))
                    refine WL.val rfl rfl rfl rfl (r_move rfl (ev_t rfl)) ?_
                    refine WL.cons (SO.call (mUint_ok (x := (uintR s).1) (s' := (uintR s).2) hM hFg2 rfl) rfl body_36 ⟨(ev_t rfl), trivial⟩ rfl rfl rfl rfl ?_)
                    rintro v w5 ⟨rfl, hM, hu5⟩
                    have hs5 := hu5.size
                    replace hU := hU.trans hu5 (by first | exact (fun _ _ h => h) | exact (fun _ _ h => h.elim) | (intro k hl hk; (try simp only [At, New, Grow, From, No] at hk ⊢); omega))
                    replace hr1 := hr1.upd hu5 (by first | exact (fun _ _ _ h => h) | (intro k hk hl hS; have : k < w.heap.size := hk; simp only [At, New, Grow, From, No] at hS; omega))
                    replace ha := ha.upd hu5 (by first | exact (fun _ _ _ h => h) | (intro k hk hl hS; have : k < w.heap.size := hk; simp only [At, New, Grow, From, No] at hS; omega))
                    replace hI := hI.upd hu5 (by first | exact (fun h => h) | (simp only [At, New, Grow, From, No]; omega)) (by first | exact (fun _ _ _ h => h) | (intro k hk hl hS; have : k < w.heap.size := hk; simp only [At, New, Grow, From, No] at hS; omega))
                    obtain ⟨s1, hs1⟩ : ∃ s1, (uintR s).2 = s1 := ⟨_, rfl⟩
                    rw [hs1] at hI hM
                    refine WL.val rfl rfl rfl rfl (r_eql rfl (ev_t rfl) (ev_t rfl)) ?_
                    refine WL.val rfl rfl rfl rfl (r_assign rfl (ev_t rfl)) ?_
                    refine WL.nil ?_
                    refine WX.keep [(0, _), (1, _), (5, _), (6, _), (7, _), (8, _)] ⟨rfl, rfl, rfl, rfl, rfl, rfl, trivial⟩ ?_
                    refine WX.blockNormal ?_
                    refine WX.next ?_
                    refine WC.seq ?_
                    -- region 19 law.go:98 DRAWS
                    refine WC.draws' (fun u0_ u1_ => Upd No u0_ u1_) (fun j => [0, 0, 0, 0, 1, 0, 0, 0, 0, 0, 0, 0, 0, 0, 1, 0, 0, 0, 0, 0, 0, 0, 0, 0].getD j 0) (.calm 0 (.calm 1 (.calm 2 (.calm 3 (.calm 5 (.calm 6 (.calm 7 (.held 8 (.calm 9 (.one 4 (.calm 10 (.calm 11 (.calm 12 (.calm 13 (.calm 15 (.calm 16 (.calm 17 (.calm 19 (.calm 20 (.held 18 (.calm 21 (.one 14 (.calm 22 (.calm 23 (.done))))))))))))))))))))))))) mixed (by kernel_rfl) (by repeat (first | with_reducible exact Deaf.body | with_reducible apply Deaf.then | with_reducible apply Deaf.block)) ?_
                    intro w6 hu6
                    have hz6 := congrArg Array.size hu6.2.2.2
                    replace hu6 := Upd.of_draw hu6
                    have hs6 := hu6.size
                    replace hU := hU.trans hu6 (by first | exact (fun _ _ h => h) | exact (fun _ _ h => h.elim) | (intro k hl hk; (try simp only [At, New, Grow, From, No] at hk ⊢); omega))
                    replace hr1 := hr1.upd hu6 (by first | exact (fun _ _ _ h => h) | (intro k hk hl hS; have : k < w.heap.size := hk; simp only [At, New, Grow, From, No] at hS; omega))
                    replace ha := ha.upd hu6 (by first | exact (fun _ _ _ h => h) | (intro k hk hl hS; have : k < w.heap.size := hk; simp only [At, New, Grow, From, No] at hS; omega))
                    replace hI := hI.upd hu6 (by first | exact (fun h => h) | (simp only [At, New, Grow, From, No]; omega)) (by first | exact (fun _ _ _ h => h) | (intro k hk hl hS; have : k < w.heap.size := hk; simp only [At, New, Grow, From, No] at hS; omega))
                    replace hM := hM.upd hu6 (by first | exact (fun h => h) | (simp only [At, New, Grow, From, No]; omega)) (by first | exact (fun _ _ _ h => h) | (intro k hk hl hS; have : k < w.heap.size := hk; simp only [At, New, Grow, From, No] at hS; omega))
                    have hS19 := Upd.refl No w6
                    refine WN.calm _ rfl rfl rfl rfl rfl (fun _ => r_move rfl (ev_t rfl)) ?_
                    refine WN.calm _ rfl rfl rfl rfl rfl (fun _ => r_not rfl (ev_t rfl)) ?_
                    refine WN.calm _ rfl rfl rfl rfl rfl (fun _ => r_move rfl (ev_t rfl)) ?_
                    refine WN.cases 100 rfl (fun hb19_2 => ?_) (fun hb19_2 => ?_)
                    · try (exfalso; first | (simp at hb19_2; done) | (simp only [decide_eq_true_eq, decide_eq_false_iff_not, Bool.not_eq_true', Bool.not_eq_false', Bool.not_eq_true, Bool.not_eq_false] at hb19_2; omega) | omega)
                      all_goals
                        try simp only [decide_eq_true_eq, decide_eq_false_iff_not, Bool.not_eq_true', Bool.not_eq_false', Bool.not_eq_true, Bool.not_eq_false, Option.isNone_none, Option.isNone_some, Option.isSome_none, Option.isSome_some, ne_eq, Decidable.not_not] at hb19_2
                        refine WN.skip _ rfl rfl rfl rfl ?_
                        refine WN.skip _ rfl rfl rfl rfl ?_
                        refine WN.skip _ rfl rfl rfl rfl ?_
                        refine WN.skip _ rfl rfl rfl rfl ?_
                        refine WN.heldSkip _ rfl rfl rfl rfl hS19 ?_
                        refine WN.skip _ rfl rfl rfl rfl ?_
                        refine WN.step _ rfl (SO.skip rfl rfl rfl ?_)
                        refine ⟨hS19, ?_⟩
                        refine WN.skip _ rfl rfl rfl rfl ?_
                        rw [hst.bad]
                        refine WN.calm _ rfl rfl rfl rfl rfl (fun _ => r_pickT rfl (ev_t rfl) ev_c) ?_
                        refine WN.calm _ rfl rfl rfl rfl rfl (fun _ => r_move rfl (ev_t rfl)) ?_
                        refine WN.skip _ rfl rfl rfl rfl ?_
                        refine WN.skip _ rfl rfl rfl rfl ?_
                        refine WN.skip _ rfl rfl rfl rfl ?_
                        refine WN.skip _ rfl rfl rfl rfl ?_
                        refine WN.skip _ rfl rfl rfl rfl ?_
                        refine WN.skip _ rfl rfl rfl rfl ?_
                        refine WN.heldSkip _ rfl rfl rfl rfl hS19 ?_
                        refine WN.skip _ rfl rfl rfl rfl ?_
                        refine WN.step _ rfl (SO.skip rfl rfl rfl ?_)
                        refine ⟨hS19, ?_⟩
                        refine WN.skip _ rfl rfl rfl rfl ?_
                        rw [hst.end]
                        refine WN.calm _ rfl rfl rfl rfl rfl (fun _ => r_pickT rfl (ev_t rfl) ev_c) ?_
                        refine WN.done ?_
                        refine WX.keep [(0, _), (1, _), (5, _), (6, _), (7, _), (121, _)] ⟨rfl, rfl, rfl, rfl, rfl, rfl, trivial⟩ ?_
                        refine WX.next ?_
                        refine WC.cond_true rfl (ev_t rfl) ?_
                        refine WC.seq ?_
                        -- region 20 law.go:99
                        refine WC.region ?_
                        refine WL.val rfl rfl rfl rfl (r_assign rfl ev_c) ?_
                        refine WL.nil ?_
                        refine WX.keep [(4, _)] ⟨rfl, trivial⟩ ?_
                        refine WX.next ?_
                        refine WC.ret ?_
                        refine WX.blockRet ?_
                        refine WX.thenRet ?_
                        refine WX.thenRet ?_
                        refine WX.blockRet ?_
                        refine WX.thenRet ?_
                        refine WX.retE1 rfl rfl ?_
                        exact ⟨rfl, hU⟩
                    · try (exfalso; first | (simp at hb19_2; done) | (simp only [decide_eq_true_eq, decide_eq_false_iff_not, Bool.not_eq_true', Bool.not_eq_false', Bool.not_eq_true, Bool.not_eq_false] at hb19_2; omega) | omega)
                      all_goals
                        try simp only [decide_eq_true_eq, decide_eq_false_iff_not, Bool.not_eq_true', Bool.not_eq_false', Bool.not_eq_true, Bool.not_eq_false, Option.isNone_none, Option.isNone_some, Option.isSome_none, Option.isSome_some, ne_eq, Decidable.not_not] at hb19_2
                        have hM0 := hM
                        obtain ⟨A3, c3, at_, hb2, hr2, hst⟩ := hM0
                        refine WN.calm _ rfl rfl rfl rfl rfl (fun _ => r_move rfl (ev_t rfl)) ?_
                        refine WN.calm _ rfl rfl rfl rfl rfl (fun _ => r_move rfl (ev_t rfl)) ?_
                        refine WN.calm _ rfl rfl rfl rfl rfl (fun _ => r_nilCheck rfl (ev_t rfl)) ?_
                        first | refine WN.calm _ rfl rfl rfl rfl rfl (fun _ => r_field0 rfl (ev_t rfl) fld_71_1) ?_ | refine WN.calm _ rfl rfl rfl rfl rfl (fun _ => r_fieldAt rfl (ev_t rfl) fld_71_1) ?_
                        refine WN.held _ rfl rfl rfl rfl rfl hS19 (fun w' hS => r_load rfl (ev_t rfl) flat_3 ((hb2.upd hS (fun h => h)).cell rfl)) ?_
                        refine WN.calm _ rfl rfl rfl rfl rfl (fun _ => r_lss rfl (ev_t rfl) ev_c) ?_
                        refine WN.step _ rfl (SO.call (bad_ok hI) rfl body_44 ⟨(ev_t rfl), trivial⟩ rfl rfl rfl rfl ?_)
                        rintro v w7 ⟨rfl, rfl⟩
                        refine ⟨hS19, ?_⟩
                        refine WN.calm _ rfl rfl rfl rfl rfl (fun _ => r_neqBool rfl (ev_t rfl) (ev_t rfl) bool_4) ?_
                        rw [hst.bad]
                        refine WN.calm _ rfl rfl rfl rfl rfl (fun _ => r_pickF rfl (ev_t rfl) (ev_t rfl)) ?_
                        refine WN.calm _ rfl rfl rfl rfl rfl (fun _ => r_move rfl (ev_t rfl)) ?_
                        refine WN.cases 110 rfl (fun hb19_12 => ?_) (fun hb19_12 => ?_)
                        · try (exfalso; first | (simp at hb19_12; done) | (simp only [decide_eq_true_eq, decide_eq_false_iff_not, Bool.not_eq_true', Bool.not_eq_false', Bool.not_eq_true, Bool.not_eq_false] at hb19_12; omega) | omega)
                          all_goals
                            try simp only [decide_eq_true_eq, decide_eq_false_iff_not, Bool.not_eq_true', Bool.not_eq_false', Bool.not_eq_true, Bool.not_eq_false, Option.isNone_none, Option.isNone_some, Option.isSome_none, Option.isSome_some, ne_eq, Decidable.not_not] at hb19_12
                            refine WN.skip _ rfl rfl rfl rfl ?_
                            refine WN.skip _ rfl rfl rfl rfl ?_
                            refine WN.skip _ rfl rfl rfl rfl ?_
                            refine WN.skip _ rfl rfl rfl rfl ?_
                            refine WN.skip _ rfl rfl rfl rfl ?_
                            refine WN.skip _ rfl rfl rfl rfl ?_
                            refine WN.heldSkip _ rfl rfl rfl rfl hS19 ?_
                            refine WN.skip _ rfl rfl rfl rfl ?_
                            refine WN.step _ rfl (SO.skip rfl rfl rfl ?_)
                            refine ⟨hS19, ?_⟩
                            refine WN.skip _ rfl rfl rfl rfl ?_
                            rw [hst.end]
                            refine WN.calm _ rfl rfl rfl rfl rfl (fun _ => r_pickT rfl (ev_t rfl) ev_c) ?_
                            refine WN.done ?_
                            refine WX.keep [(0, _), (1, _), (5, _), (6, _), (7, _), (121, _)] ⟨rfl, rfl, rfl, rfl, rfl, rfl, trivial⟩ ?_
                            refine WX.next ?_
                            refine WC.cond_true rfl (ev_t rfl) ?_
                            refine WC.seq ?_
                            -- region 20 law.go:99
                            refine WC.region ?_
                            refine WL.val rfl rfl rfl rfl (r_assign rfl ev_c) ?_
                            refine WL.nil ?_
                            refine WX.keep [(4, _)] ⟨rfl, trivial⟩ ?_
                            refine WX.next ?_
                            refine WC.ret ?_
                            refine WX.blockRet ?_
                            refine WX.thenRet ?_
                            refine WX.thenRet ?_
                            refine WX.blockRet ?_
                            refine WX.thenRet ?_
                            refine WX.retE1 rfl rfl ?_
                            exact ⟨rfl, hU⟩
                        · try (exfalso; first | (simp at hb19_12; done) | (simp only [decide_eq_true_eq, decide_eq_false_iff_not, Bool.not_eq_true', Bool.not_eq_false', Bool.not_eq_true, Bool.not_eq_false] at hb19_12; omega) | omega)
                          all_goals
                            try simp only [decide_eq_true_eq, decide_eq_false_iff_not, Bool.not_eq_true', Bool.not_eq_false', Bool.not_eq_true, Bool.not_eq_false, Option.isNone_none, Option.isNone_some, Option.isSome_none, Option.isSome_some, ne_eq, Decidable.not_not] at hb19_12
                            refine WN.calm _ rfl rfl rfl rfl rfl (fun _ => r_move rfl (ev_t rfl)) ?_
                            refine WN.calm _ rfl rfl rfl rfl rfl (fun _ => r_move rfl (ev_t rfl)) ?_
                            refine WN.calm _ rfl rfl rfl rfl rfl (fun _ => r_nilCheck rfl (ev_t rfl)) ?_
                            first | refine WN.calm _ rfl rfl rfl rfl rfl (fun _ => r_field0 rfl (ev_t rfl) fld_71_1) ?_ | refine WN.calm _ rfl rfl rfl rfl rfl (fun _ => r_fieldAt rfl (ev_t rfl) fld_71_1) ?_
                            refine WN.calm _ rfl rfl rfl rfl rfl (fun _ => r_move rfl (ev_t rfl)) ?_
                            refine WN.calm _ rfl rfl rfl rfl rfl (fun _ => r_lenSlice (ts := #[]) rfl (ev_t rfl) elem_37) ?_
                            refine WN.held _ rfl rfl rfl rfl rfl hS19 (fun w' hS => r_load rfl (ev_t rfl) flat_3 ((hb2.upd hS (fun h => h)).cell rfl)) ?_
                            refine WN.calm _ rfl rfl rfl rfl rfl (fun _ => r_eql rfl (ev_t rfl) (ev_t rfl)) ?_
                            refine WN.step _ rfl (SO.call (end_ok hI) rfl body_45 ⟨(ev_t rfl), trivial⟩ rfl rfl rfl rfl ?_)
                            rintro v w8 ⟨rfl, rfl⟩
                            refine ⟨hS19, ?_⟩
                            refine WN.calm _ rfl rfl rfl rfl rfl (fun _ => r_neqBool rfl (ev_t rfl) (ev_t rfl) bool_4) ?_
                            rw [hst.end]
                            refine WN.calm _ rfl rfl rfl rfl rfl (fun _ => r_pickF rfl (ev_t rfl) (ev_t rfl)) ?_
                            refine WN.done ?_
                            refine WX.keep [(0, _), (1, _), (5, _), (6, _), (7, _), (121, _)] ⟨rfl, rfl, rfl, rfl, rfl, rfl, trivial⟩ ?_
                            refine WX.next ?_
                            refine WC.cond rfl (ev_t rfl) (fun hc19 => ?_) (fun hc19 => ?_)
                            · try (exfalso; first | (simp at hc19; done) | (simp only [decide_eq_true_eq, decide_eq_false_iff_not, Bool.not_eq_true', Bool.not_eq_false', Bool.not_eq_true, Bool.not_eq_false] at hc19; omega) | omega)
                              all_goals
                                try simp only [decide_eq_true_eq, decide_eq_false_iff_not, Bool.not_eq_true', Bool.not_eq_false', Bool.not_eq_true, Bool.not_eq_false, Option.isNone_none, Option.isNone_some, Option.isSome_none, Option.isSome_some, ne_eq, Decidable.not_not] at hc19
                                refine WC.seq ?_
                                -- region 20 law.go:99
                                refine WC.region ?_
                                refine WL.val rfl rfl rfl rfl (r_assign rfl ev_c) ?_
                                refine WL.nil ?_
                                refine WX.keep [(4, _)] ⟨rfl, trivial⟩ ?_
                                refine WX.next ?_
                                refine WC.ret ?_
                                refine WX.blockRet ?_
                                refine WX.thenRet ?_
                                refine WX.thenRet ?_
                                refine WX.blockRet ?_
                                refine WX.thenRet ?_
                                refine WX.retE1 rfl rfl ?_
                                exact ⟨rfl, hU⟩
                            · try (exfalso; first | (simp at hc19; done) | (simp only [decide_eq_true_eq, decide_eq_false_iff_not, Bool.not_eq_true', Bool.not_eq_false', Bool.not_eq_true, Bool.not_eq_false] at hc19; omega) | omega)
                              all_goals
                                try simp only [decide_eq_true_eq, decide_eq_false_iff_not, Bool.not_eq_true', Bool.not_eq_false', Bool.not_eq_true, Bool.not_eq_false, Option.isNone_none, Option.isNone_some, Option.isSome_none, Option.isSome_some, ne_eq, Decidable.not_not] at hc19
                                refine WC.skip ?_
                                refine WX.blockNormal ?_
                                refine WX.next ?_
                                -- region 7 law.go:84
                                refine WC.region ?_
                                refine WL.val rfl rfl rfl rfl (r_move rfl (ev_t rfl)) ?_
                                first | refine WL.val rfl rfl rfl rfl (r_addN rfl (ev_t rfl) ev_c (by simp only [inK]; omega)) ?_ | refine WL.val rfl rfl rfl rfl (r_add rfl (ev_t rfl) ev_c) ?_
                                refine WL.val rfl rfl rfl rfl (r_assign rfl (ev_t rfl)) ?_
                                refine WL.nil ?_
                                refine WX.keep [(0, _), (1, _), (5, _), (6, _), (7, _)] ⟨rfl, rfl, rfl, rfl, rfl, trivial⟩ ?_
                                refine WX.meet [(0, _), (1, _), (5, _), (6, _), (7, _)] ⟨rfl, rfl, rfl, rfl, rfl, trivial⟩ ?_
                                exact ⟨50 - (i + 1), by omega, i + 1, s1, by omega, rfl, hU, by omega, hI, hM, hr1, ha, rfl⟩
                · try (exfalso; first | (simp at hc11; done) | (simp only [decide_eq_true_eq, decide_eq_false_iff_not, Bool.not_eq_true', Bool.not_eq_false', Bool.not_eq_true, Bool.not_eq_false] at hc11; omega) | omega)
                  all_goals
                    try simp only [decide_eq_true_eq, decide_eq_false_iff_not, Bool.not_eq_true', Bool.not_eq_false', Bool.not_eq_true, Bool.not_eq_false, Option.isNone_none, Option.isNone_some, Option.isSome_none, Option.isSome_some, ne_eq, Decidable.not_not] at hc11
                    refine WC.seq ?_
                    -- region 13 law.go:89
                    refine WC.region ?_
                    refine WL.val rfl rfl rfl rfl (r_eql rfl (ev_t rfl) ev_c) ?_
                    refine WL.val rfl rfl rfl rfl (r_assign rfl (ev_t rfl)) ?_
                    refine WL.nil ?_
                    refine WX.keep [(0, _), (1, _), (5, _), (6, _), (7, _), (31, _), (55, _)] ⟨rfl, rfl, rfl, rfl, rfl, rfl, rfl, trivial⟩ ?_
                    refine WX.next ?_
                    refine WC.cond rfl (ev_t rfl) (fun hc13 => ?_) (fun hc13 => ?_)
                    · try (exfalso; first | (simp at hc13; done) | (simp only [decide_eq_true_eq, decide_eq_false_iff_not, Bool.not_eq_true', Bool.not_eq_false', Bool.not_eq_true, Bool.not_eq_false] at hc13; omega) | omega)
                      all_goals
                        try simp only [decide_eq_true_eq, decide_eq_false_iff_not, Bool.not_eq_true', Bool.not_eq_false', Bool.not_eq_true, Bool.not_eq_false, Option.isNone_none, Option.isNone_some, Option.isSome_none, Option.isSome_some, ne_eq, Decidable.not_not] at hc13
                        -- region 14 law.go:90
                        refine WC.region ?_
                        refine WL.val rfl rfl rfl rfl (r_move rfl (ev_t rfl)) ?_
                        refine WL.cons (SO.call (int_ok (x := (uintR s).1) (s' := (uintR s).2) hI hFg1 rfl) rfl body_37 ⟨(ev_t rfl), trivial⟩ rfl rfl rfl rfl ?_)
                        rintro v w9 ⟨rfl, hI, hu9⟩
                        have hs9 := hu9.size
                        replace hU := hU.trans hu9 (by first | exact (fun _ _ h => h) | exact (fun _ _ h => h.elim) | (intro k hl hk; (try simp only [At, New, Grow, From, No] at hk ⊢); omega))
                        replace hr1 := hr1.upd hu9 (by first | exact (fun _ _ _ h => h) | (intro k hk hl hS; have : k < w.heap.size := hk; simp only [At, New, Grow, From, No] at hS; omega))
                        replace ha := ha.upd hu9 (by first | exact (fun _ _ _ h => h) | (intro k hk hl hS; have : k < w.heap.size := hk; simp only [At, New, Grow, From, No] at hS; omega))
                        replace hM := hM.upd hu9 (by first | exact (fun h => h) | (simp only [At, New, Grow, From, No]; omega)) (by first | exact (fun _ _ _ h => h) | (intro k hk hl hS; have : k < w.heap.size := hk; simp only [At, New, Grow, From, No] at hS; omega))
                        refine WL.val rfl rfl rfl rfl (r_move rfl (ev_t rfl)) ?_
                        refine WL.cons (SO.call (mInt_ok (x := (uintR s).1) (s' := (uintR s).2) hM hFg2 rfl) rfl body_38 ⟨(ev_t rfl), trivial⟩ rfl rfl rfl rfl ?_)
                        rintro v w10 ⟨rfl, hM, hu10⟩
                        have hs10 := hu10.size
                        replace hU := hU.trans hu10 (by first | exact (fun _ _ h => h) | exact (fun _ _ h => h.elim) | (intro k hl hk; (try simp only [At, New, Grow, From, No] at hk ⊢); omega))
                        replace hr1 := hr1.upd hu10 (by first | exact (fun _ _ _ h => h) | (intro k hk hl hS; have : k < w.heap.size := hk; simp only [At, New, Grow, From, No] at hS; omega))
                        replace ha := ha.upd hu10 (by first | exact (fun _ _ _ h => h) | (intro k hk hl hS; have : k < w.heap.size := hk; simp only [At, New, Grow, From, No] at hS; omega))
                        replace hI := hI.upd hu10 (by first | exact (fun h => h) | (simp only [At, New, Grow, From, No]; omega)) (by first | exact (fun _ _ _ h => h) | (intro k hk hl hS; have : k < w.heap.size := hk; simp only [At, New, Grow, From, No] at hS; omega))
                        obtain ⟨s1, hs1⟩ : ∃ s1, (uintR s).2 = s1 := ⟨_, rfl⟩
                        rw [hs1] at hI hM
                        refine WL.val rfl rfl rfl rfl (r_eql rfl (ev_t rfl) (ev_t rfl)) ?_
                        refine WL.val rfl rfl rfl rfl (r_assign rfl (ev_t rfl)) ?_
                        refine WL.nil ?_
                        refine WX.keep [(0, _), (1, _), (5, _), (6, _), (7, _), (8, _)] ⟨rfl, rfl, rfl, rfl, rfl, rfl, trivial⟩ ?_
                        refine WX.blockNormal ?_
                        refine WX.next ?_
                        refine WC.seq ?_
                        -- region 19 law.go:98 DRAWS
                        refine WC.draws' (fun u0_ u1_ => Upd No u0_ u1_) (fun j => [0, 0, 0, 0, 1, 0, 0, 0, 0, 0, 0, 0, 0, 0, 1, 0, 0, 0, 0, 0, 0, 0, 0, 0].getD j 0) (.calm 0 (.calm 1 (.calm 2 (.calm 3 (.calm 5 (.calm 6 (.calm 7 (.held 8 (.calm 9 (.one 4 (.calm 10 (.calm 11 (.calm 12 (.calm 13 (.calm 15 (.calm 16 (.calm 17 (.calm 19 (.calm 20 (.held 18 (.calm 21 (.one 14 (.calm 22 (.calm 23 (.done))))))))))))))))))))))))) mixed (by kernel_rfl) (by repeat (first | with_reducible exact Deaf.body | with_reducible apply Deaf.then | with_reducible apply Deaf.block)) ?_
                        intro w11 hu11
                        have hz11 := congrArg Array.size hu11.2.2.2
                        replace hu11 := Upd.of_draw hu11
                        have hs11 := hu11.size
                        replace hU := hU.trans hu11 (by first | exact (fun _ _ h => h) | exact (fun _ _ h => h.elim) | (intro k hl hk; (try simp only [At, New, Grow, From, No] at hk ⊢); omega))
                        replace hr1 := hr1.upd hu11 (by first | exact (fun _ _ _ h => h) | (intro k hk hl hS; have : k < w.heap.size := hk; simp only [At, New, Grow, From, No] at hS; omega))
                        replace ha := ha.upd hu11 (by first | exact (fun _ _ _ h => h) | (intro k hk hl hS; have : k < w.heap.size := hk; simp only [At, New, Grow, From, No] at hS; omega))
                        replace hI := hI.upd hu11 (by first | exact (fun h => h) | (simp only [At, New, Grow, From, No]; omega)) (by first | exact (fun _ _ _ h => h) | (intro k hk hl hS; have : k < w.heap.size := hk; simp only [At, New, Grow, From, No] at hS; omega))
                        replace hM := hM.upd hu11 (by first | exact (fun h => h) | (simp only [At, New, Grow, From, No]; omega)) (by first | exact (fun _ _ _ h => h) | (intro k hk hl hS; have : k < w.heap.size := hk; simp only [At, New, Grow, From, No] at hS; omega))
                        have hS19 := Upd.refl No w11
                        refine WN.calm _ rfl rfl rfl rfl rfl (fun _ => r_move rfl (ev_t rfl)) ?_
                        refine WN.calm _ rfl rfl rfl rfl rfl (fun _ => r_not rfl (ev_t rfl)) ?_
                        refine WN.calm _ rfl rfl rfl rfl rfl (fun _ => r_move rfl (ev_t rfl)) ?_
                        refine WN.cases 100 rfl (fun hb19_2 => ?_) (fun hb19_2 => ?_)
                        · try (exfalso; first | (simp at hb19_2; done) | (simp only [decide_eq_true_eq, decide_eq_false_iff_not, Bool.not_eq_true', Bool.not_eq_false', Bool.not_eq_true, Bool.not_eq_false] at hb19_2; omega) | omega)
                          all_goals
                            try simp only [decide_eq_true_eq, decide_eq_false_iff_not, Bool.not_eq_true', Bool.not_eq_false', Bool.not_eq_true, Bool.not_eq_false, Option.isNone_none, Option.isNone_some, Option.isSome_none, Option.isSome_some, ne_eq, Decidable.not_not] at hb19_2
                            refine WN.skip _ rfl rfl rfl rfl ?_
                            refine WN.skip _ rfl rfl rfl rfl ?_
                            refine WN.skip _ rfl rfl rfl rfl ?_
                            refine WN.skip _ rfl rfl rfl rfl ?_
                            refine WN.heldSkip _ rfl rfl rfl rfl hS19 ?_
                            refine WN.skip _ rfl rfl rfl rfl ?_
                            refine WN.step _ rfl (SO.skip rfl rfl rfl ?_)
                            refine ⟨hS19, ?_⟩
                            refine WN.skip _ rfl rfl rfl rfl ?_
                            rw [hst.bad]
                            refine WN.calm _ rfl rfl rfl rfl rfl (fun _ => r_pickT rfl (ev_t rfl) ev_c) ?_
                            refine WN.calm _ rfl rfl rfl rfl rfl (fun _ => r_move rfl (ev_t rfl)) ?_
                            refine WN.skip _ rfl rfl rfl rfl ?_
                            refine WN.skip _ rfl rfl rfl rfl ?_
                            refine WN.skip _ rfl rfl rfl rfl ?_
                            refine WN.skip _ rfl rfl rfl rfl ?_
                            refine WN.skip _ rfl rfl rfl rfl ?_
                            refine WN.skip _ rfl rfl rfl rfl ?_
                            refine WN.heldSkip _ rfl rfl rfl rfl hS19 ?_
                            refine WN.skip _ rfl rfl rfl rfl ?_
                            refine WN.step _ rfl (SO.skip rfl rfl rfl ?_)
                            refine ⟨hS19, ?_⟩
                            refine WN.skip _ rfl rfl rfl rfl ?_
                            rw [hst.end]
                            refine WN.calm _ rfl rfl rfl rfl rfl (fun _ => r_pickT rfl (ev_t rfl) ev_c) ?_
                            refine WN.done ?_
                            refine WX.keep [(0, _), (1, _), (5, _), (6, _), (7, _), (121, _)] ⟨rfl, rfl, rfl, rfl, rfl, rfl, trivial⟩ ?_
                            refine WX.next ?_
                            refine WC.cond_true rfl (ev_t rfl) ?_
                            refine WC.seq ?_
                            -- region 20 law.go:99
                            refine WC.region ?_
                            refine WL.val rfl rfl rfl rfl (r_assign rfl ev_c) ?_
                            refine WL.nil ?_
                            refine WX.keep [(4, _)] ⟨rfl, trivial⟩ ?_
                            refine WX.next ?_
                            refine WC.ret ?_
                            refine WX.blockRet ?_
                            refine WX.thenRet ?_
                            refine WX.thenRet ?_
                            refine WX.blockRet ?_
                            refine WX.thenRet ?_
                            refine WX.retE1 rfl rfl ?_
                            exact ⟨rfl, hU⟩
                        · try (exfalso; first | (simp at hb19_2; done) | (simp only [decide_eq_true_eq, decide_eq_false_iff_not, Bool.not_eq_true', Bool.not_eq_false', Bool.not_eq_true, Bool.not_eq_false] at hb19_2; omega) | omega)
                          all_goals
                            try simp only [decide_eq_true_eq, decide_eq_false_iff_not, Bool.not_eq_true', Bool.not_eq_false', Bool.not_eq_true, Bool.not_eq_false, Option.isNone_none, Option.isNone_some, Option.isSome_none, Option.isSome_some, ne_eq, Decidable.not_not] at hb19_2
                            have hM0 := hM
                            obtain ⟨A3, c3, at_, hb2, hr2, hst⟩ := hM0
                            refine WN.calm _ rfl rfl rfl rfl rfl (fun _ => r_move rfl (ev_t rfl)) ?_
                            refine WN.calm _ rfl rfl rfl rfl rfl (fun _ => r_move rfl (ev_t rfl)) ?_
                            refine WN.calm _ rfl rfl rfl rfl rfl (fun _ => r_nilCheck rfl (ev_t rfl)) ?_
                            first | refine WN.calm _ rfl rfl rfl rfl rfl (fun _ => r_field0 rfl (ev_t rfl) fld_71_1) ?_ | refine WN.calm _ rfl rfl rfl rfl rfl (fun _ => r_fieldAt rfl (ev_t rfl) fld_71_1) ?_
                            refine WN.held _ rfl rfl rfl rfl rfl hS19 (fun w' hS => r_load rfl (ev_t rfl) flat_3 ((hb2.upd hS (fun h => h)).cell rfl)) ?_
                            refine WN.calm _ rfl rfl rfl rfl rfl (fun _ => r_lss rfl (ev_t rfl) ev_c) ?_
                            refine WN.step _ rfl (SO.call (bad_ok hI) rfl body_44 ⟨(ev_t rfl), trivial⟩ rfl rfl rfl rfl ?_)
                            rintro v w12 ⟨rfl, rfl⟩
                            refine ⟨hS19, ?_⟩
                            refine WN.calm _ rfl rfl rfl rfl rfl (fun _ => r_neqBool rfl (ev_t rfl) (ev_t rfl) bool_4) ?_
                            rw [hst.bad]
                            refine WN.calm _ rfl rfl rfl rfl rfl (fun _ => r_pickF rfl (ev_t rfl) (ev_t rfl)) ?_
                            refine WN.calm _ rfl rfl rfl rfl rfl (fun _ => r_move rfl (ev_t rfl)) ?_
                            refine WN.cases 110 rfl (fun hb19_12 => ?_) (fun hb19_12 => ?_)
                            · try (exfalso; first | (simp at hb19_12; done) | (simp only [decide_eq_true_eq, decide_eq_false_iff_not, Bool.not_eq_true', Bool.not_eq_false', Bool.not_eq_true, Bool.not_eq_false] at hb19_12; omega) | omega)
                              all_goals
                                try simp only [decide_eq_true_eq, decide_eq_false_iff_not, Bool.not_eq_true', Bool.not_eq_false', Bool.not_eq_true, Bool.not_eq_false, Option.isNone_none, Option.isNone_some, Option.isSome_none, Option.isSome_some, ne_eq, Decidable.not_not] at hb19_12
                                refine WN.skip _ rfl rfl rfl rfl ?_
                                refine WN.skip _ rfl rfl rfl rfl ?_
                                refine WN.skip _ rfl rfl rfl rfl ?_
                                refine WN.skip _ rfl rfl rfl rfl ?_
                                refine WN.skip _ rfl rfl rfl rfl ?_
                                refine WN.skip _ rfl rfl rfl rfl ?_
                                refine WN.heldSkip _ rfl rfl rfl rfl hS19 ?_
                                refine WN.skip _ rfl rfl rfl rfl ?_
                                refine WN.step _ rfl (SO.skip rfl rfl rfl ?_)
                                refine ⟨hS19, ?_⟩
                                refine WN.skip _ rfl rfl rfl rfl ?_
                                rw [hst.end]
                                refine WN.calm _ rfl rfl rfl rfl rfl (fun _ => r_pickT rfl (ev_t rfl) ev_c) ?_
                                refine WN.done ?_
                                refine WX.keep [(0, _), (1, _), (5, _), (6, _), (7, _), (121, _)] ⟨rfl, rfl, rfl, rfl, rfl, rfl, trivial⟩ ?_
                                refine WX.next ?_
                                refine WC.cond_true rfl (ev_t rfl) ?_
                                refine WC.seq ?_
                                -- region 20 law.go:99
                                refine WC.region ?_
                                refine WL.val rfl rfl rfl rfl (r_assign rfl ev_c) ?_
                                refine WL.nil ?_
                                refine WX.keep [(4, _)] ⟨rfl, trivial⟩ ?_
                                refine WX.next ?_
                                refine WC.ret ?_
                                refine WX.blockRet ?_
                                refine WX.thenRet ?_
                                refine WX.thenRet ?_
                                refine WX.blockRet ?_
                                refine WX.thenRet ?_
                                refine WX.retE1 rfl rfl ?_
                                exact ⟨rfl, hU⟩
                            · try (exfalso; first | (simp at hb19_12; done) | (simp only [decide_eq_true_eq, decide_eq_false_iff_not, Bool.not_eq_true', Bool.not_eq_false', Bool.not_eq_true, Bool.not_eq_false] at hb19_12; omega) | omega)
                              all_goals
                                try simp only [decide_eq_true_eq, decide_eq_false_iff_not, Bool.not_eq_true', Bool.not_eq_false', Bool.not_eq_true, Bool.not_eq_false, Option.isNone_none, Option.isNone_some, Option.isSome_none, Option.isSome_some, ne_eq, Decidable.not_not] at hb19_12
                                refine WN.calm _ rfl rfl rfl rfl rfl (fun _ => r_move rfl (ev_t rfl)) ?_
                                refine WN.calm _ rfl rfl rfl rfl rfl (fun _ => r_move rfl (ev_t rfl)) ?_
                                refine WN.calm _ rfl rfl rfl rfl rfl (fun _ => r_nilCheck rfl (ev_t rfl)) ?_
                                first | refine WN.calm _ rfl rfl rfl rfl rfl (fun _ => r_field0 rfl (ev_t rfl) fld_71_1) ?_ | refine WN.calm _ rfl rfl rfl rfl rfl (fun _ => r_fieldAt rfl (ev_t rfl) fld_71_1) ?_
                                refine WN.calm _ rfl rfl rfl rfl rfl (fun _ => r_move rfl (ev_t rfl)) ?_
                                refine WN.calm _ rfl rfl rfl rfl rfl (fun _ => r_lenSlice (ts := #[]) rfl (ev_t rfl) elem_37) ?_
                                refine WN.held _ rfl rfl rfl rfl rfl hS19 (fun w' hS => r_load rfl (ev_t rfl) flat_3 ((hb2.upd hS (fun h => h)).cell rfl)) ?_
                                refine WN.calm _ rfl rfl rfl rfl rfl (fun _ => r_eql rfl (ev_t rfl) (ev_t rfl)) ?_
                                refine WN.step _ rfl (SO.call (end_ok hI) rfl body_45 ⟨(ev_t rfl), trivial⟩ rfl rfl rfl rfl ?_)
                                rintro v w13 ⟨rfl, rfl⟩
                                refine ⟨hS19, ?_⟩
                                refine WN.calm _ rfl rfl rfl rfl rfl (fun _ => r_neqBool rfl (ev_t rfl) (ev_t rfl) bool_4) ?_
                                rw [hst.end]
                                refine WN.calm _ rfl rfl rfl rfl rfl (fun _ => r_pickF rfl (ev_t rfl) (ev_t rfl)) ?_
                                refine WN.done ?_
                                refine WX.keep [(0, _), (1, _), (5, _), (6, _), (7, _), (121, _)] ⟨rfl, rfl, rfl, rfl, rfl, rfl, trivial⟩ ?_
                                refine WX.next ?_
                                refine WC.cond rfl (ev_t rfl) (fun hc19 => ?_) (fun hc19 => ?_)
                                · try (exfalso; first | (simp at hc19; done) | (simp only [decide_eq_true_eq, decide_eq_false_iff_not, Bool.not_eq_true', Bool.not_eq_false', Bool.not_eq_true, Bool.not_eq_false] at hc19; omega) | omega)
                                  all_goals
                                    try simp only [decide_eq_true_eq, decide_eq_false_iff_not, Bool.not_eq_true', Bool.not_eq_false', Bool.not_eq_true, Bool.not_eq_false, Option.isNone_none, Option.isNone_some, Option.isSome_none, Option.isSome_some, ne_eq, Decidable.not_not] at hc19
                                    refine WC.seq ?_
                                    -- region 20 law.go:99
                                    refine WC.region ?_
                                    refine WL.val rfl rfl rfl rfl (r_assign rfl ev_c) ?_
                                    refine WL.nil ?_
                                    refine WX.keep [(4, _)] ⟨rfl, trivial⟩ ?_
                                    refine WX.next ?_
                                    refine WC.ret ?_
                                    refine WX.blockRet ?_
                                    refine WX.thenRet ?_
                                    refine WX.thenRet ?_
                                    refine WX.blockRet ?_
                                    refine WX.thenRet ?_
                                    refine WX.retE1 rfl rfl ?_
                                    exact ⟨rfl, hU⟩
                                · try (exfalso; first | (simp at hc19; done) | (simp only [decide_eq_true_eq, decide_eq_false_iff_not, Bool.not_eq_true', Bool.not_eq_false', Bool.not_eq_true, Bool.not_eq_false] at hc19; omega) | omega)
                                  all_goals
                                    try simp only [decide_eq_true_eq, decide_eq_false_iff_not, Bool.not_eq_true', Bool.not_eq_false', Bool.not_eq_true, Bool.not_eq_false, Option.isNone_none, Option.isNone_some, Option.isSome_none, Option.isSome_some, ne_eq, Decidable.not_not] at hc19
                                    refine WC.skip ?_
                                    refine WX.blockNormal ?_
                                    refine WX.next ?_
                                    -- region 7 law.go:84
                                    refine WC.region ?_
                                    refine WL.val rfl rfl rfl rfl (r_move rfl (ev_t rfl)) ?_
                                    first | refine WL.val rfl rfl rfl rfl (r_addN rfl (ev_t rfl) ev_c (by simp only [inK]; omega)) ?_ | refine WL.val rfl rfl rfl rfl (r_add rfl (ev_t rfl) ev_c) ?_
                                    refine WL.val rfl rfl rfl rfl (r_assign rfl (ev_t rfl)) ?_
                                    refine WL.nil ?_
                                    refine WX.keep [(0, _), (1, _), (5, _), (6, _), (7, _)] ⟨rfl, rfl, rfl, rfl, rfl, trivial⟩ ?_
                                    refine WX.meet [(0, _), (1, _), (5, _), (6, _), (7, _)] ⟨rfl, rfl, rfl, rfl, rfl, trivial⟩ ?_
                                    exact ⟨50 - (i + 1), by omega, i + 1, s1, by omega, rfl, hU, by omega, hI, hM, hr1, ha, rfl⟩
                    · try (exfalso; first | (simp at hc13; done) | (simp only [decide_eq_true_eq, decide_eq_false_iff_not, Bool.not_eq_true', Bool.not_eq_false', Bool.not_eq_true, Bool.not_eq_false] at hc13; omega) | omega)
                      all_goals
                        try simp only [decide_eq_true_eq, decide_eq_false_iff_not, Bool.not_eq_true', Bool.not_eq_false', Bool.not_eq_true, Bool.not_eq_false, Option.isNone_none, Option.isNone_some, Option.isSome_none, Option.isSome_some, ne_eq, Decidable.not_not] at hc13
                        refine WC.seq ?_
                        -- region 15 law.go:91
                        refine WC.region ?_
                        refine WL.val rfl rfl rfl rfl (r_eql rfl (ev_t rfl) ev_c) ?_
                        refine WL.val rfl rfl rfl rfl (r_assign rfl (ev_t rfl)) ?_
                        refine WL.nil ?_
                        refine WX.keep [(0, _), (1, _), (5, _), (6, _), (7, _), (31, _), (62, _)] ⟨rfl, rfl, rfl, rfl, rfl, rfl, rfl, trivial⟩ ?_
                        refine WX.next ?_
                        refine WC.cond rfl (ev_t rfl) (fun hc15 => ?_) (fun hc15 => ?_)
                        · try (exfalso; first | (simp at hc15; done) | (simp only [decide_eq_true_eq, decide_eq_false_iff_not, Bool.not_eq_true', Bool.not_eq_false', Bool.not_eq_true, Bool.not_eq_false] at hc15; omega) | omega)
                          all_goals
                            try simp only [decide_eq_true_eq, decide_eq_false_iff_not, Bool.not_eq_true', Bool.not_eq_false', Bool.not_eq_true, Bool.not_eq_false, Option.isNone_none, Option.isNone_some, Option.isSome_none, Option.isSome_some, ne_eq, Decidable.not_not] at hc15
                            -- region 16 law.go:92 DRAWS
                            refine WC.draws' (fun u0_ u1_ => Upd (From w.heap.size) u0_ u1_) (fun j => [0, 0, 0, 0, 0, 0, 1, 0, 0, 0, 0, 0, 0, 2, 0, 0].getD j 0) (.calm 0 (.calm 1 (.calm 2 (.calm 3 (.calm 4 (.calm 7 (.calm 8 (.calm 9 (.calm 10 (.calm 11 (.held 5 (.held 12 (.one 6 (.one 13 (.calm 14 (.calm 15 (.done))))))))))))))))) mixed (by kernel_rfl) (by repeat (first | with_reducible exact Deaf.body | with_reducible apply Deaf.then | with_reducible apply Deaf.block)) ?_
                            intro w14 hu14
                            have hz14 := congrArg Array.size hu14.2.2.2
                            replace hu14 := Upd.of_draw hu14
                            have hs14 := hu14.size
                            replace hU := hU.trans hu14 (by first | exact (fun _ _ h => h) | exact (fun _ _ h => h.elim) | (intro k hl hk; (try simp only [At, New, Grow, From, No] at hk ⊢); omega))
                            replace hr1 := hr1.upd hu14 (by first | exact (fun _ _ _ h => h) | (intro k hk hl hS; have : k < w.heap.size := hk; simp only [At, New, Grow, From, No] at hS; omega))
                            replace ha := ha.upd hu14 (by first | exact (fun _ _ _ h => h) | (intro k hk hl hS; have : k < w.heap.size := hk; simp only [At, New, Grow, From, No] at hS; omega))
                            replace hI := hI.upd hu14 (by first | exact (fun h => h) | (simp only [At, New, Grow, From, No]; omega)) (by first | exact (fun _ _ _ h => h) | (intro k hk hl hS; have : k < w.heap.size := hk; simp only [At, New, Grow, From, No] at hS; omega))
                            replace hM := hM.upd hu14 (by first | exact (fun h => h) | (simp only [At, New, Grow, From, No]; omega)) (by first | exact (fun _ _ _ h => h) | (intro k hk hl hS; have : k < w.heap.size := hk; simp only [At, New, Grow, From, No] at hS; omega))
                            have hS16 := Upd.refl (From w.heap.size) w14
                            refine WN.calm _ rfl rfl rfl rfl rfl (fun _ => r_move rfl (ev_t rfl)) ?_
                            refine WN.calm _ rfl rfl rfl rfl rfl (fun _ => r_move rfl (ev_t rfl)) ?_
                            refine WN.calm _ rfl rfl rfl rfl rfl (fun _ => r_move rfl (ev_t rfl)) ?_
                            refine WN.calm _ rfl rfl rfl rfl rfl (fun _ => r_indexAddr rfl (ev_t rfl) (ev_t rfl) elem_66 size_73 (by omega) (by omega)) ?_
                            first | refine WN.calm _ rfl rfl rfl rfl rfl (fun _ => r_field0 rfl (ev_t rfl) fld_73_1) ?_ | refine WN.calm _ rfl rfl rfl rfl rfl (fun _ => r_fieldAt rfl (ev_t rfl) fld_73_1) ?_
                            refine WN.calm _ rfl rfl rfl rfl rfl (fun _ => r_move rfl (ev_t rfl)) ?_
                            refine WN.calm _ rfl rfl rfl rfl rfl (fun _ => r_move rfl (ev_t rfl)) ?_
                            refine WN.calm _ rfl rfl rfl rfl rfl (fun _ => r_move rfl (ev_t rfl)) ?_
                            refine WN.calm _ rfl rfl rfl rfl rfl (fun _ => r_indexAddr rfl (ev_t rfl) (ev_t rfl) elem_66 size_73 (by omega) (by omega)) ?_
                            first | refine WN.calm _ rfl rfl rfl rfl rfl (fun _ => r_field0 rfl (ev_t rfl) fld_73_1) ?_ | refine WN.calm _ rfl rfl rfl rfl rfl (fun _ => r_fieldAt rfl (ev_t rfl) fld_73_1) ?_
                            refine WN.held _ rfl rfl rfl rfl rfl hS16 (fun w' hS => r_load rfl (ev_t rfl) flat_3 ((ha.upd hS (fun k hk hl hS' => by have : k < w.heap.size := hk; simp only [From] at hS'; omega)).cell (j := i * 2 + 1) (by omega) hz)) ?_
                            refine WN.held _ rfl rfl rfl rfl rfl hS16 (fun w' hS => r_load rfl (ev_t rfl) flat_3 ((ha.upd hS (fun k hk hl hS' => by have : k < w.heap.size := hk; simp only [From] at hS'; omega)).cell (j := i * 2 + 1) (by omega) hz)) ?_
                            refine WN.step _ rfl (SO.call (upto_ok (x := (uptoR (Z i) s).1) (s' := (uptoR (Z i) s).2) hI hFg1 hzi rfl) rfl body_39 ⟨(ev_t rfl), (ev_t rfl), trivial⟩ rfl rfl rfl rfl ?_)
                            rintro v w15 ⟨rfl, hI, hu15⟩
                            have hs15 := hu15.size
                            replace hS16 := Upd.trans_same hS16 (Upd.mono hu15 (by first | exact (fun _ _ h => h) | exact (fun _ _ h => h.elim) | (intro k _ hk; (try simp only [At, New, Grow, From, No] at hk ⊢); omega)))
                            replace hU := hU.trans hu15 (by first | exact (fun _ _ h => h) | exact (fun _ _ h => h.elim) | (intro k hl hk; (try simp only [At, New, Grow, From, No] at hk ⊢); omega))
                            replace hr1 := hr1.upd hu15 (by first | exact (fun _ _ _ h => h) | (intro k hk hl hS; have : k < w.heap.size := hk; simp only [At, New, Grow, From, No] at hS; omega))
                            replace ha := ha.upd hu15 (by first | exact (fun _ _ _ h => h) | (intro k hk hl hS; have : k < w.heap.size := hk; simp only [At, New, Grow, From, No] at hS; omega))
                            replace hM := hM.upd hu15 (by first | exact (fun h => h) | (simp only [At, New, Grow, From, No]; omega)) (by first | exact (fun _ _ _ h => h) | (intro k hk hl hS; have : k < w.heap.size := hk; simp only [At, New, Grow, From, No] at hS; omega))
                            refine ⟨hS16, ?_⟩
                            refine WN.step _ rfl (SO.call (mUpto_ok (x := (uptoR (Z i) s).1) (s' := (uptoR (Z i) s).2) hM hFg2 hzi rfl) rfl body_40 ⟨(ev_t rfl), (ev_t rfl), trivial⟩ rfl rfl rfl rfl ?_)
                            rintro v w16 ⟨rfl, hM, hu16⟩
                            have hs16 := hu16.size
                            try replace hS16 := Upd.trans_same hS16 (Upd.mono hu16 (by first | exact (fun _ _ h => h) | exact (fun _ _ h => h.elim) | (intro k _ hk; (try simp only [At, New, Grow, From, No] at hk ⊢); omega)))
                            replace hU := hU.trans hu16 (by first | exact (fun _ _ h => h) | exact (fun _ _ h => h.elim) | (intro k hl hk; (try simp only [At, New, Grow, From, No] at hk ⊢); omega))
                            replace hr1 := hr1.upd hu16 (by first | exact (fun _ _ _ h => h) | (intro k hk hl hS; have : k < w.heap.size := hk; simp only [At, New, Grow, From, No] at hS; omega))
                            replace ha := ha.upd hu16 (by first | exact (fun _ _ _ h => h) | (intro k hk hl hS; have : k < w.heap.size := hk; simp only [At, New, Grow, From, No] at hS; omega))
                            replace hI := hI.upd hu16 (by first | exact (fun h => h) | (simp only [At, New, Grow, From, No]; omega)) (by first | exact (fun _ _ _ h => h) | (intro k hk hl hS; have : k < w.heap.size := hk; simp only [At, New, Grow, From, No] at hS; omega))
                            obtain ⟨s1, hs1⟩ : ∃ s1, (uptoR (Z i) s).2 = s1 := ⟨_, rfl⟩
                            rw [hs1] at hI hM
                            refine ⟨trivial, ?_⟩
                            refine WN.calm _ rfl rfl rfl rfl rfl (fun _ => r_eql rfl (ev_t rfl) (ev_t rfl)) ?_
                            refine WN.calm _ rfl rfl rfl rfl rfl (fun _ => r_assign rfl (ev_t rfl)) ?_
                            refine WN.done ?_
                            refine WX.keep [(0, _), (1, _), (5, _), (6, _), (7, _), (8, _)] ⟨rfl, rfl, rfl, rfl, rfl, rfl, trivial⟩ ?_
                            refine WX.blockNormal ?_
                            refine WX.next ?_
                            refine WC.seq ?_
                            -- region 19 law.go:98 DRAWS
                            refine WC.draws' (fun u0_ u1_ => Upd No u0_ u1_) (fun j => [0, 0, 0, 0, 1, 0, 0, 0, 0, 0, 0, 0, 0, 0, 1, 0, 0, 0, 0, 0, 0, 0, 0, 0].getD j 0) (.calm 0 (.calm 1 (.calm 2 (.calm 3 (.calm 5 (.calm 6 (.calm 7 (.held 8 (.calm 9 (.one 4 (.calm 10 (.calm 11 (.calm 12 (.calm 13 (.calm 15 (.calm 16 (.calm 17 (.calm 19 (.calm 20 (.held 18 (.calm 21 (.one 14 (.calm 22 (.calm 23 (.done))))))))))))))))))))))))) mixed (by kernel_rfl) (by repeat (first | with_reducible exact Deaf.body | with_reducible apply Deaf.then | with_reducible apply Deaf.block)) ?_
                            intro w17 hu17
                            have hz17 := congrArg Array.size hu17.2.2.2
                            replace hu17 := Upd.of_draw hu17
                            have hs17 := hu17.size
                            replace hU := hU.trans hu17 (by first | exact (fun _ _ h => h) | exact (fun _ _ h => h.elim) | (intro k hl hk; (try simp only [At, New, Grow, From, No] at hk ⊢); omega))
                            replace hr1 := hr1.upd hu17 (by first | exact (fun _ _ _ h => h) | (intro k hk hl hS; have : k < w.heap.size := hk; simp only [At, New, Grow, From, No] at hS; omega))
                            replace ha := ha.upd hu17 (by first | exact (fun _ _ _ h => h) | (intro k hk hl hS; have : k < w.heap.size := hk; simp only [At, New, Grow, From, No] at hS; omega))
                            replace hI := hI.upd hu17 (by first | exact (fun h => h) | (simp only [At, New, Grow, From, No]; omega)) (by first | exact (fun _ _ _ h => h) | (intro k hk hl hS; have : k < w.heap.size := hk; simp only [At, New, Grow, From, No] at hS; omega))
                            replace hM := hM.upd hu17 (by first | exact (fun h => h) | (simp only [At, New, Grow, From, No]; omega)) (by first | exact (fun _ _ _ h => h) | (intro k hk hl hS; have : k < w.heap.size := hk; simp only [At, New, Grow, From, No] at hS; omega))
                            have hS19 := Upd.refl No w17
                            refine WN.calm _ rfl rfl rfl rfl rfl (fun _ => r_move rfl (ev_t rfl)) ?_
                            refine WN.calm _ rfl rfl rfl rfl rfl (fun _ => r_not rfl (ev_t rfl)) ?_
                            refine WN.calm _ rfl rfl rfl rfl rfl (fun _ => r_move rfl (ev_t rfl)) ?_
                            refine WN.cases 100 rfl (fun hb19_2 => ?_) (fun hb19_2 => ?_)
                            · try (exfalso; first | (simp at hb19_2; done) | (simp only [decide_eq_true_eq, decide_eq_false_iff_not, Bool.not_eq_true', Bool.not_eq_false', Bool.not_eq_true, Bool.not_eq_false] at hb19_2; omega) | omega)
                              all_goals
                                try simp only [decide_eq_true_eq, decide_eq_false_iff_not, Bool.not_eq_true', Bool.not_eq_false', Bool.not_eq_true, Bool.not_eq_false, Option.isNone_none, Option.isNone_some, Option.isSome_none, Option.isSome_some, ne_eq, Decidable.not_not] at hb19_2
                                refine WN.skip _ rfl rfl rfl rfl ?_
                                refine WN.skip _ rfl rfl rfl rfl ?_
                                refine WN.skip _ rfl rfl rfl rfl ?_
                                refine WN.skip _ rfl rfl rfl rfl ?_
                                refine WN.heldSkip _ rfl rfl rfl rfl hS19 ?_
                                refine WN.skip _ rfl rfl rfl rfl ?_
                                refine WN.step _ rfl (SO.skip rfl rfl rfl ?_)
                                refine ⟨hS19, ?_⟩
                                refine WN.skip _ rfl rfl rfl rfl ?_
                                rw [hst.bad]
                                refine WN.calm _ rfl rfl rfl rfl rfl (fun _ => r_pickT rfl (ev_t rfl) ev_c) ?_
                                refine WN.calm _ rfl rfl rfl rfl rfl (fun _ => r_move rfl (ev_t rfl)) ?_
                                refine WN.skip _ rfl rfl rfl rfl ?_
                                refine WN.skip _ rfl rfl rfl rfl ?_
                                refine WN.skip _ rfl rfl rfl rfl ?_
                                refine WN.skip _ rfl rfl rfl rfl ?_
                                refine WN.skip _ rfl rfl rfl rfl ?_
                                refine WN.skip _ rfl rfl rfl rfl ?_
                                refine WN.heldSkip _ rfl rfl rfl rfl hS19 ?_
                                refine WN.skip _ rfl rfl rfl rfl ?_
                                refine WN.step _ rfl (SO.skip rfl rfl rfl ?_)
                                refine ⟨hS19, ?_⟩
                                refine WN.skip _ rfl rfl rfl rfl ?_
                                rw [hst.end]
                                refine WN.calm _ rfl rfl rfl rfl rfl (fun _ => r_pickT rfl (ev_t rfl) ev_c) ?_
                                refine WN.done ?_
                                refine WX.keep [(0, _), (1, _), (5, _), (6, _), (7, _), (121, _)] ⟨rfl, rfl, rfl, rfl, rfl, rfl, trivial⟩ ?_
                                refine WX.next ?_
                                refine WC.cond_true rfl (ev_t rfl) ?_
                                refine WC.seq ?_
                                -- region 20 law.go:99
                                refine WC.region ?_
                                refine WL.val rfl rfl rfl rfl (r_assign rfl ev_c) ?_
                                refine WL.nil ?_
                                refine WX.keep [(4, _)] ⟨rfl, trivial⟩ ?_
                                refine WX.next ?_
                                refine WC.ret ?_
                                refine WX.blockRet ?_
                                refine WX.thenRet ?_
                                refine WX.thenRet ?_
                                refine WX.blockRet ?_
                                refine WX.thenRet ?_
                                refine WX.retE1 rfl rfl ?_
                                exact ⟨rfl, hU⟩
                            · try (exfalso; first | (simp at hb19_2; done) | (simp only [decide_eq_true_eq, decide_eq_false_iff_not, Bool.not_eq_true', Bool.not_eq_false', Bool.not_eq_true, Bool.not_eq_false] at hb19_2; omega) | omega)
                              all_goals
                                try simp only [decide_eq_true_eq, decide_eq_false_iff_not, Bool.not_eq_true', Bool.not_eq_false', Bool.not_eq_true, Bool.not_eq_false, Option.isNone_none, Option.isNone_some, Option.isSome_none, Option.isSome_some, ne_eq, Decidable.not_not] at hb19_2
                                have hM0 := hM
                                obtain ⟨A3, c3, at_, hb2, hr2, hst⟩ := hM0
                                refine WN.calm _ rfl rfl rfl rfl rfl (fun _ => r_move rfl (ev_t rfl)) ?_
                                refine WN.calm _ rfl rfl rfl rfl rfl (fun _ => r_move rfl (ev_t rfl)) ?_
                                refine WN.calm _ rfl rfl rfl rfl rfl (fun _ => r_nilCheck rfl (ev_t rfl)) ?_
                                first | refine WN.calm _ rfl rfl rfl rfl rfl (fun _ => r_field0 rfl (ev_t rfl) fld_71_1) ?_ | refine WN.calm _ rfl rfl rfl rfl rfl (fun _ => r_fieldAt rfl (ev_t rfl) fld_71_1) ?_
                                refine WN.held _ rfl rfl rfl rfl rfl hS19 (fun w' hS => r_load rfl (ev_t rfl) flat_3 ((hb2.upd hS (fun h => h)).cell rfl)) ?_
                                refine WN.calm _ rfl rfl rfl rfl rfl (fun _ => r_lss rfl (ev_t rfl) ev_c) ?_
                                refine WN.step _ rfl (SO.call (bad_ok hI) rfl body_44 ⟨(ev_t rfl), trivial⟩ rfl rfl rfl rfl ?_)
                                rintro v w18 ⟨rfl, rfl⟩
                                refine ⟨hS19, ?_⟩
                                refine WN.calm _ rfl rfl rfl rfl rfl (fun _ => r_neqBool rfl (ev_t rfl) (ev_t rfl) bool_4) ?_
                                rw [hst.bad]
                                refine WN.calm _ rfl rfl rfl rfl rfl (fun _ => r_pickF rfl (ev_t rfl) (ev_t rfl)) ?_
                                refine WN.calm _ rfl rfl rfl rfl rfl (fun _ => r_move rfl (ev_t rfl)) ?_
                                refine WN.cases 110 rfl (fun hb19_12 => ?_) (fun hb19_12 => ?_)
                                · try (exfalso; first | (simp at hb19_12; done) | (simp only [decide_eq_true_eq, decide_eq_false_iff_not, Bool.not_eq_true', Bool.not_eq_false', Bool.not_eq_true, Bool.not_eq_false] at hb19_12; omega) | omega)
                                  all_goals
                                    try simp only [decide_eq_true_eq, decide_eq_false_iff_not, Bool.not_eq_true', Bool.not_eq_false', Bool.not_eq_true, Bool.not_eq_false, Option.isNone_none, Option.isNone_some, Option.isSome_none, Option.isSome_some, ne_eq, Decidable.not_not] at hb19_12
                                    refine WN.skip _ rfl rfl rfl rfl ?_
                                    refine WN.skip _ rfl rfl rfl rfl ?_
                                    refine WN.skip _ rfl rfl rfl rfl ?_
                                    refine WN.skip _ rfl rfl rfl rfl ?_
                                    refine WN.skip _ rfl rfl rfl rfl ?_
                                    refine WN.skip _ rfl rfl rfl rfl ?_
                                    refine WN.heldSkip _ rfl rfl rfl rfl hS19 ?_
                                    refine WN.skip _ rfl rfl rfl rfl ?_
                                    refine WN.step _ rfl (SO.skip rfl rfl rfl ?_)
                                    refine ⟨hS19, ?_⟩
                                    refine WN.skip _ rfl rfl rfl rfl ?_
                                    rw [hst.end]
                                    refine WN.calm _ rfl rfl rfl rfl rfl (fun _ => r_pickT rfl (ev_t rfl) ev_c) ?_
                                    refine WN.done ?_
                                    refine WX.keep [(0, _), (1, _), (5, _), (6, _), (7, _), (121, _)] ⟨rfl, rfl, rfl, rfl, rfl, rfl, trivial⟩ ?_
                                    refine WX.next ?_
                                    refine WC.cond_true rfl (ev_t rfl) ?_
                                    refine WC.seq ?_
                                    -- region 20 law.go:99
                                    refine WC.region ?_
                                    refine WL.val rfl rfl rfl rfl (r_assign rfl ev_c) ?_
                                    refine WL.nil ?_
                                    refine WX.keep [(4, _)] ⟨rfl, trivial⟩ ?_
                                    refine WX.next ?_
                                    refine WC.ret ?_
                                    refine WX.blockRet ?_
                                    refine WX.thenRet ?_
                                    refine WX.thenRet ?_
                                    refine WX.blockRet ?_
                                    refine WX.thenRet ?_
                                    refine WX.retE1 rfl rfl ?_
                                    exact ⟨rfl, hU⟩
                                · try (exfalso; first | (simp at hb19_12; done) | (simp only [decide_eq_true_eq, decide_eq_false_iff_not, Bool.not_eq_true', Bool.not_eq_false', Bool.not_eq_true, Bool.not_eq_false] at hb19_12; omega) | omega)
                                  all_goals
                                    try simp only [decide_eq_true_eq, decide_eq_false_iff_not, Bool.not_eq_true', Bool.not_eq_false', Bool.not_eq_true, Bool.not_eq_false, Option.isNone_none, Option.isNone_some, Option.isSome_none, Option.isSome_some, ne_eq, Decidable.not_not] at hb19_12
                                    refine WN.calm _ rfl rfl rfl rfl rfl (fun _ => r_move rfl (ev_t rfl)) ?_
                                    refine WN.calm _ rfl rfl rfl rfl rfl (fun _ => r_move rfl (ev_t rfl)) ?_
                                    refine WN.calm _ rfl rfl rfl rfl rfl (fun _ => r_nilCheck rfl (ev_t rfl)) ?_
                                    first | refine WN.calm _ rfl rfl rfl rfl rfl (fun _ => r_field0 rfl (ev_t rfl) fld_71_1) ?_ | refine WN.calm _ rfl rfl rfl rfl rfl (fun _ => r_fieldAt rfl (ev_t rfl) fld_71_1) ?_
                                    refine WN.calm _ rfl rfl rfl rfl rfl (fun _ => r_move rfl (ev_t rfl)) ?_
                                    refine WN.calm _ rfl rfl rfl rfl rfl (fun _ => r_lenSlice (ts := #[]) rfl (ev_t rfl) elem_37) ?_
                                    refine WN.held _ rfl rfl rfl rfl rfl hS19 (fun w' hS => r_load rfl (ev_t rfl) flat_3 ((hb2.upd hS (fun h => h)).cell rfl)) ?_
                                    refine WN.calm _ rfl rfl rfl rfl rfl (fun _ => r_eql rfl (ev_t rfl) (ev_t rfl)) ?_
                                    refine WN.step _ rfl (SO.call (end_ok hI) rfl body_45 ⟨(ev_t rfl), trivial⟩ rfl rfl rfl rfl ?_)
                                    rintro v w19 ⟨rfl, rfl⟩
                                    refine ⟨hS19, ?_⟩
                                    refine WN.calm _ rfl rfl rfl rfl rfl (fun _ => r_neqBool rfl (ev_t rfl) (ev_t rfl) bool_4) ?_
                                    rw [hst.end]
                                    refine WN.calm _ rfl rfl rfl rfl rfl (fun _ => r_pickF rfl (ev_t rfl) (ev_t rfl)) ?_
                                    refine WN.done ?_
                                    refine WX.keep [(0, _), (1, _), (5, _), (6, _), (7, _), (121, _)] ⟨rfl, rfl, rfl, rfl, rfl, rfl, trivial⟩ ?_
                                    refine WX.next ?_
                                    refine WC.cond rfl (ev_t rfl) (fun hc19 => ?_) (fun hc19 => ?_)
                                    · try (exfalso; first | (simp at hc19; done) | (simp only [decide_eq_true_eq, decide_eq_false_iff_not, Bool.not_eq_true', Bool.not_eq_false', Bool.not_eq_true, Bool.not_eq_false] at hc19; omega) | omega)
                                      all_goals
                                        try simp only [decide_eq_true_eq, decide_eq_false_iff_not, Bool.not_eq_true', Bool.not_eq_false', Bool.not_eq_true, Bool.not_eq_false, Option.isNone_none, Option.isNone_some, Option.isSome_none, Option.isSome_some, ne_eq, Decidable.not_not] at hc19
                                        refine WC.seq ?_
                                        -- region 20 law.go:99
                                        refine WC.region ?_
                                        refine WL.val rfl rfl rfl rfl (r_assign rfl ev_c) ?_
                                        refine WL.nil ?_
                                        refine WX.keep [(4, _)] ⟨rfl, trivial⟩ ?_
                                        refine WX.next ?_
                                        refine WC.ret ?_
                                        refine WX.blockRet ?_
                                        refine WX.thenRet ?_
                                        refine WX.thenRet ?_
                                        refine WX.blockRet ?_
                                        refine WX.thenRet ?_
                                        refine WX.retE1 rfl rfl ?_
                                        exact ⟨rfl, hU⟩
                                    · try (exfalso; first | (simp at hc19; done) | (simp only [decide_eq_true_eq, decide_eq_false_iff_not, Bool.not_eq_true', Bool.not_eq_false', Bool.not_eq_true, Bool.not_eq_false] at hc19; omega) | omega)
                                      all_goals
                                        try simp only [decide_eq_true_eq, decide_eq_false_iff_not, Bool.not_eq_true', Bool.not_eq_false', Bool.not_eq_true, Bool.not_eq_false, Option.isNone_none, Option.isNone_some, Option.isSome_none, Option.isSome_some, ne_eq, Decidable.not_not] at hc19
                                        refine WC.skip ?_
                                        refine WX.blockNormal ?_
                                        refine WX.next ?_
                                        -- region 7 law.go:84
                                        refine WC.region ?_
                                        refine WL.val rfl rfl rfl rfl (r_move rfl (ev_t rfl)) ?_
                                        first | refine WL.val rfl rfl rfl rfl (r_addN rfl (ev_t rfl) ev_c (by simp only [inK]; omega)) ?_ | refine WL.val rfl rfl rfl rfl (r_add rfl (ev_t rfl) ev_c) ?_
                                        refine WL.val rfl rfl rfl rfl (r_assign rfl (ev_t rfl)) ?_
                                        refine WL.nil ?_
                                        refine WX.keep [(0, _), (1, _), (5, _), (6, _), (7, _)] ⟨rfl, rfl, rfl, rfl, rfl, trivial⟩ ?_
                                        refine WX.meet [(0, _), (1, _), (5, _), (6, _), (7, _)] ⟨rfl, rfl, rfl, rfl, rfl, trivial⟩ ?_
                                        exact ⟨50 - (i + 1), by omega, i + 1, s1, by omega, rfl, hU, by omega, hI, hM, hr1, ha, rfl⟩
                        · try (exfalso; first | (simp at hc15; done) | (simp only [decide_eq_true_eq, decide_eq_false_iff_not, Bool.not_eq_true', Bool.not_eq_false', Bool.not_eq_true, Bool.not_eq_false] at hc15; omega) | omega)
                          all_goals
                            try simp only [decide_eq_true_eq, decide_eq_false_iff_not, Bool.not_eq_true', Bool.not_eq_false', Bool.not_eq_true, Bool.not_eq_false, Option.isNone_none, Option.isNone_some, Option.isSome_none, Option.isSome_some, ne_eq, Decidable.not_not] at hc15
                            refine WC.seq ?_
                            -- region 17 law.go:93
                            refine WC.region ?_
                            refine WL.val rfl rfl rfl rfl (r_eql rfl (ev_t rfl) ev_c) ?_
                            refine WL.val rfl rfl rfl rfl (r_assign rfl (ev_t rfl)) ?_
                            refine WL.nil ?_
                            refine WX.keep [(0, _), (1, _), (5, _), (6, _), (7, _), (79, _)] ⟨rfl, rfl, rfl, rfl, rfl, rfl, trivial⟩ ?_
                            refine WX.next ?_
                            refine WC.cond rfl (ev_t rfl) (fun hc17 => ?_) (fun hc17 => ?_)
                            · try (exfalso; first | (simp at hc17; done) | (simp only [decide_eq_true_eq, decide_eq_false_iff_not, Bool.not_eq_true', Bool.not_eq_false', Bool.not_eq_true, Bool.not_eq_false] at hc17; omega) | omega)
                              all_goals
                                try simp only [decide_eq_true_eq, decide_eq_false_iff_not, Bool.not_eq_true', Bool.not_eq_false', Bool.not_eq_true, Bool.not_eq_false, Option.isNone_none, Option.isNone_some, Option.isSome_none, Option.isSome_some, ne_eq, Decidable.not_not] at hc17
                                -- region 18 law.go:94 DRAWS
                                refine WC.draws' (fun u0_ u1_ => Upd (From w.heap.size) u0_ u1_) (fun j => [0, 0, 0, 0, 0, 0, 1, 1, 0, 0, 0, 0, 0, 0, 2, 2, 0, 0].getD j 0) (.calm 0 (.calm 1 (.calm 2 (.calm 3 (.calm 4 (.calm 8 (.calm 9 (.calm 10 (.calm 11 (.calm 12 (.held 5 (.held 13 (.one 6 (.two 7 14 (.one 14 (.one 15 (.calm 16 (.calm 17 (.done))))) (.two 7 15 (.one 15 (.calm 16 (.calm 17 (.done)))) (.one 7 (.calm 16 (.calm 17 (.done))))))))))))))))))) mixed (by kernel_rfl) (by repeat (first | with_reducible exact Deaf.body | with_reducible apply Deaf.then | with_reducible apply Deaf.block)) ?_
                                intro w20 hu20
                                have hz20 := congrArg Array.size hu20.2.2.2
                                replace hu20 := Upd.of_draw hu20
                                have hs20 := hu20.size
                                replace hU := hU.trans hu20 (by first | exact (fun _ _ h => h) | exact (fun _ _ h => h.elim) | (intro k hl hk; (try simp only [At, New, Grow, From, No] at hk ⊢); omega))
                                replace hr1 := hr1.upd hu20 (by first | exact (fun _ _ _ h => h) | (intro k hk hl hS; have : k < w.heap.size := hk; simp only [At, New, Grow, From, No] at hS; omega))
                                replace ha := ha.upd hu20 (by first | exact (fun _ _ _ h => h) | (intro k hk hl hS; have : k < w.heap.size := hk; simp only [At, New, Grow, From, No] at hS; omega))
                                replace hI := hI.upd hu20 (by first | exact (fun h => h) | (simp only [At, New, Grow, From, No]; omega)) (by first | exact (fun _ _ _ h => h) | (intro k hk hl hS; have : k < w.heap.size := hk; simp only [At, New, Grow, From, No] at hS; omega))
                                replace hM := hM.upd hu20 (by first | exact (fun h => h) | (simp only [At, New, Grow, From, No]; omega)) (by first | exact (fun _ _ _ h => h) | (intro k hk hl hS; have : k < w.heap.size := hk; simp only [At, New, Grow, From, No] at hS; omega))
                                have hS18 := Upd.refl (From w.heap.size) w20
                                refine WN.calm _ rfl rfl rfl rfl rfl (fun _ => r_move rfl (ev_t rfl)) ?_
                                refine WN.calm _ rfl rfl rfl rfl rfl (fun _ => r_move rfl (ev_t rfl)) ?_
                                refine WN.calm _ rfl rfl rfl rfl rfl (fun _ => r_move rfl (ev_t rfl)) ?_
                                refine WN.calm _ rfl rfl rfl rfl rfl (fun _ => r_indexAddr rfl (ev_t rfl) (ev_t rfl) elem_66 size_73 (by omega) (by omega)) ?_
                                first | refine WN.calm _ rfl rfl rfl rfl rfl (fun _ => r_field0 rfl (ev_t rfl) fld_73_1) ?_ | refine WN.calm _ rfl rfl rfl rfl rfl (fun _ => r_fieldAt rfl (ev_t rfl) fld_73_1) ?_
                                refine WN.calm _ rfl rfl rfl rfl rfl (fun _ => r_move rfl (ev_t rfl)) ?_
                                refine WN.calm _ rfl rfl rfl rfl rfl (fun _ => r_move rfl (ev_t rfl)) ?_
                                refine WN.calm _ rfl rfl rfl rfl rfl (fun _ => r_move rfl (ev_t rfl)) ?_
                                refine WN.calm _ rfl rfl rfl rfl rfl (fun _ => r_indexAddr rfl (ev_t rfl) (ev_t rfl) elem_66 size_73 (by omega) (by omega)) ?_
                                first | refine WN.calm _ rfl rfl rfl rfl rfl (fun _ => r_field0 rfl (ev_t rfl) fld_73_1) ?_ | refine WN.calm _ rfl rfl rfl rfl rfl (fun _ => r_fieldAt rfl (ev_t rfl) fld_73_1) ?_
                                refine WN.held _ rfl rfl rfl rfl rfl hS18 (fun w' hS => r_load rfl (ev_t rfl) flat_3 ((ha.upd hS (fun k hk hl hS' => by have : k < w.heap.size := hk; simp only [From] at hS'; omega)).cell (j := i * 2 + 1) (by omega) hz)) ?_
                                refine WN.held _ rfl rfl rfl rfl rfl hS18 (fun w' hS => r_load rfl (ev_t rfl) flat_3 ((ha.upd hS (fun k hk hl hS' => by have : k < w.heap.size := hk; simp only [From] at hS'; omega)).cell (j := i * 2 + 1) (by omega) hz)) ?_
                                refine WN.step _ rfl (SO.call (bytes_ok (l := (bytesR (Z i) s).1) (s' := (bytesR (Z i) s).2) hI hFg1 hzi rfl) rfl body_41 ⟨(ev_t rfl), (ev_t rfl), trivial⟩ rfl rfl rfl rfl ?_)
                                rintro v w21 ⟨ho, hI, hu21, hlen⟩
                                have hs21 := hu21.size
                                replace hS18 := Upd.trans_same hS18 (Upd.mono hu21 (by first | exact (fun _ _ h => h) | exact (fun _ _ h => h.elim) | (intro k _ hk; (try simp only [At, New, Grow, From, No] at hk ⊢); omega)))
                                replace hU := hU.trans hu21 (by first | exact (fun _ _ h => h) | exact (fun _ _ h => h.elim) | (intro k hl hk; (try simp only [At, New, Grow, From, No] at hk ⊢); omega))
                                replace hr1 := hr1.upd hu21 (by first | exact (fun _ _ _ h => h) | (intro k hk hl hS; have : k < w.heap.size := hk; simp only [At, New, Grow, From, No] at hS; omega))
                                replace ha := ha.upd hu21 (by first | exact (fun _ _ _ h => h) | (intro k hk hl hS; have : k < w.heap.size := hk; simp only [At, New, Grow, From, No] at hS; omega))
                                replace hM := hM.upd hu21 (by first | exact (fun h => h) | (simp only [At, New, Grow, From, No]; omega)) (by first | exact (fun _ _ _ h => h) | (intro k hk hl hS; have : k < w.heap.size := hk; simp only [At, New, Grow, From, No] at hS; omega))
                                refine ⟨hS18, ?_⟩
                                refine WN.fork _ _ rfl rfl ?_ ?_
                                · refine SO.val rfl rfl rfl rfl (r_toStr rfl (ev_t rfl) (ho.rd hlen) elem_37 int_5 str_9) ?_
                                  refine ⟨hS18, ?_⟩
                                  refine WN.step _ rfl (SO.call (mBytes_ok (l := (bytesR (Z i) s).1) (s' := (bytesR (Z i) s).2) hM hFg2 hzi rfl) rfl body_42 ⟨(ev_t rfl), (ev_t rfl), trivial⟩ rfl rfl rfl rfl ?_)
                                  rintro v2 w22 ⟨hrm, hM, hu22⟩
                                  have hs22 := hu22.size
                                  try replace hS18 := Upd.trans_same hS18 (Upd.mono hu22 (by first | exact (fun _ _ h => h) | exact (fun _ _ h => h.elim) | (intro k _ hk; (try simp only [At, New, Grow, From, No] at hk ⊢); omega)))
                                  replace hU := hU.trans hu22 (by first | exact (fun _ _ h => h) | exact (fun _ _ h => h.elim) | (intro k hl hk; (try simp only [At, New, Grow, From, No] at hk ⊢); omega))
                                  replace hr1 := hr1.upd hu22 (by first | exact (fun _ _ _ h => h) | (intro k hk hl hS; have : k < w.heap.size := hk; simp only [At, New, Grow, From, No] at hS; omega))
                                  replace ha := ha.upd hu22 (by first | exact (fun _ _ _ h => h) | (intro k hk hl hS; have : k < w.heap.size := hk; simp only [At, New, Grow, From, No] at hS; omega))
                                  replace hI := hI.upd hu22 (by first | exact (fun h => h) | (simp only [At, New, Grow, From, No]; omega)) (by first | exact (fun _ _ _ h => h) | (intro k hk hl hS; have : k < w.heap.size := hk; simp only [At, New, Grow, From, No] at hS; omega))
                                  replace ho := ho.upd hu22 (by first | (with_reducible assumption) | exact (fun h => h) | exact (fun _ _ _ h => h) | (simp only [At]; omega) | (intro k hk hl hS; simp only [At] at hS; subst hS; contradiction) | (intro k hk hl hS; simp only [At] at hS; subst hS; exact Grow.old (by omega) (by assumption) hk) | (intro k hk hl hS; (try simp only [At, From, No, Grow, New] at hk hS); omega))
                                  obtain ⟨s1, hs1⟩ : ∃ s1, (bytesR (Z i) s).2 = s1 := ⟨_, rfl⟩
                                  rw [hs1] at hI hM
                                  refine ⟨trivial, ?_⟩
                                  refine WN.step _ rfl (SO.val rfl rfl rfl rfl (r_toStr rfl (ev_t rfl) hrm elem_37 int_5 str_9) ?_)
                                  refine ⟨trivial, ?_⟩
                                  refine WN.calm _ rfl rfl rfl rfl rfl (fun _ => r_eqlStr rfl (ev_t rfl) (ev_t rfl)) ?_
                                  refine WN.calm _ rfl rfl rfl rfl rfl (fun _ => r_assign rfl (ev_t rfl)) ?_
                                  refine WN.done ?_
                                  refine WX.keep [(0, _), (1, _), (5, _), (6, _), (7, _), (8, _)] ⟨rfl, rfl, rfl, rfl, rfl, rfl, trivial⟩ ?_
                                  refine WX.blockNormal ?_
                                  refine WX.next ?_
                                  refine WC.seq ?_
                                  -- region 19 law.go:98 DRAWS
                                  refine WC.draws' (fun u0_ u1_ => Upd No u0_ u1_) (fun j => [0, 0, 0, 0, 1, 0, 0, 0, 0, 0, 0, 0, 0, 0, 1, 0, 0, 0, 0, 0, 0, 0, 0, 0].getD j 0) (.calm 0 (.calm 1 (.calm 2 (.calm 3 (.calm 5 (.calm 6 (.calm 7 (.held 8 (.calm 9 (.one 4 (.calm 10 (.calm 11 (.calm 12 (.calm 13 (.calm 15 (.calm 16 (.calm 17 (.calm 19 (.calm 20 (.held 18 (.calm 21 (.one 14 (.calm 22 (.calm 23 (.done))))))))))))))))))))))))) mixed (by kernel_rfl) (by repeat (first | with_reducible exact Deaf.body | with_reducible apply Deaf.then | with_reducible apply Deaf.block)) ?_
                                  intro w23 hu23
                                  have hz23 := congrArg Array.size hu23.2.2.2
                                  replace hu23 := Upd.of_draw hu23
                                  have hs23 := hu23.size
                                  replace hU := hU.trans hu23 (by first | exact (fun _ _ h => h) | exact (fun _ _ h => h.elim) | (intro k hl hk; (try simp only [At, New, Grow, From, No] at hk ⊢); omega))
                                  replace hr1 := hr1.upd hu23 (by first | exact (fun _ _ _ h => h) | (intro k hk hl hS; have : k < w.heap.size := hk; simp only [At, New, Grow, From, No] at hS; omega))
                                  replace ha := ha.upd hu23 (by first | exact (fun _ _ _ h => h) | (intro k hk hl hS; have : k < w.heap.size := hk; simp only [At, New, Grow, From, No] at hS; omega))
                                  replace hI := hI.upd hu23 (by first | exact (fun h => h) | (simp only [At, New, Grow, From, No]; omega)) (by first | exact (fun _ _ _ h => h) | (intro k hk hl hS; have : k < w.heap.size := hk; simp only [At, New, Grow, From, No] at hS; omega))
                                  replace hM := hM.upd hu23 (by first | exact (fun h => h) | (simp only [At, New, Grow, From, No]; omega)) (by first | exact (fun _ _ _ h => h) | (intro k hk hl hS; have : k < w.heap.size := hk; simp only [At, New, Grow, From, No] at hS; omega))
                                  replace ho := ho.upd hu23 (by first | (with_reducible assumption) | exact (fun h => h) | exact (fun _ _ _ h => h) | (simp only [At]; omega) | (intro k hk hl hS; simp only [At] at hS; subst hS; contradiction) | (intro k hk hl hS; simp only [At] at hS; subst hS; exact Grow.old (by omega) (by assumption) hk) | (intro k hk hl hS; (try simp only [At, From, No, Grow, New] at hk hS); omega))
                                  have hS19 := Upd.refl No w23
                                  refine WN.calm _ rfl rfl rfl rfl rfl (fun _ => r_move rfl (ev_t rfl)) ?_
                                  refine WN.calm _ rfl rfl rfl rfl rfl (fun _ => r_not rfl (ev_t rfl)) ?_
                                  refine WN.calm _ rfl rfl rfl rfl rfl (fun _ => r_move rfl (ev_t rfl)) ?_
                                  refine WN.cases 100 rfl (fun hb19_2 => ?_) (fun hb19_2 => ?_)
                                  · try (exfalso; first | (simp at hb19_2; done) | (simp only [decide_eq_true_eq, decide_eq_false_iff_not, Bool.not_eq_true', Bool.not_eq_false', Bool.not_eq_true, Bool.not_eq_false] at hb19_2; omega) | omega)
                                    all_goals
                                      try simp only [decide_eq_true_eq, decide_eq_false_iff_not, Bool.not_eq_true', Bool.not_eq_false', Bool.not_eq_true, Bool.not_eq_false, Option.isNone_none, Option.isNone_some, Option.isSome_none, Option.isSome_some, ne_eq, Decidable.not_not] at hb19_2
                                      refine WN.skip _ rfl rfl rfl rfl ?_
                                      refine WN.skip _ rfl rfl rfl rfl ?_
                                      refine WN.skip _ rfl rfl rfl rfl ?_
                                      refine WN.skip _ rfl rfl rfl rfl ?_
                                      refine WN.heldSkip _ rfl rfl rfl rfl hS19 ?_
                                      refine WN.skip _ rfl rfl rfl rfl ?_
                                      refine WN.step _ rfl (SO.skip rfl rfl rfl ?_)
                                      refine ⟨hS19, ?_⟩
                                      refine WN.skip _ rfl rfl rfl rfl ?_
                                      rw [hst.bad]
                                      refine WN.calm _ rfl rfl rfl rfl rfl (fun _ => r_pickT rfl (ev_t rfl) ev_c) ?_
                                      refine WN.calm _ rfl rfl rfl rfl rfl (fun _ => r_move rfl (ev_t rfl)) ?_
                                      refine WN.skip _ rfl rfl rfl rfl ?_
                                      refine WN.skip _ rfl rfl rfl rfl ?_
                                      refine WN.skip _ rfl rfl rfl rfl ?_
                                      refine WN.skip _ rfl rfl rfl rfl ?_
                                      refine WN.skip _ rfl rfl rfl rfl ?_
                                      refine WN.skip _ rfl rfl rfl rfl ?_
                                      refine WN.heldSkip _ rfl rfl rfl rfl hS19 ?_
                                      refine WN.skip _ rfl rfl rfl rfl ?_
                                      refine WN.step _ rfl (SO.skip rfl rfl rfl ?_)
                                      refine ⟨hS19, ?_⟩
                                      refine WN.skip _ rfl rfl rfl rfl ?_
                                      rw [hst.end]
                                      refine WN.calm _ rfl rfl rfl rfl rfl (fun _ => r_pickT rfl (ev_t rfl) ev_c) ?_
                                      refine WN.done ?_
                                      refine WX.keep [(0, _), (1, _), (5, _), (6, _), (7, _), (121, _)] ⟨rfl, rfl, rfl, rfl, rfl, rfl, trivial⟩ ?_
                                      refine WX.next ?_
                                      refine WC.cond_true rfl (ev_t rfl) ?_
                                      refine WC.seq ?_
                                      -- region 20 law.go:99
                                      refine WC.region ?_
                                      refine WL.val rfl rfl rfl rfl (r_assign rfl ev_c) ?_
                                      refine WL.nil ?_
                                      refine WX.keep [(4, _)] ⟨rfl, trivial⟩ ?_
                                      refine WX.next ?_
                                      refine WC.ret ?_
                                      refine WX.blockRet ?_
                                      refine WX.thenRet ?_
                                      refine WX.thenRet ?_
                                      refine WX.blockRet ?_
                                      refine WX.thenRet ?_
                                      refine WX.retE1 rfl rfl ?_
                                      exact ⟨rfl, hU⟩
                                  · try (exfalso; first | (simp at hb19_2; done) | (simp only [decide_eq_true_eq, decide_eq_false_iff_not, Bool.not_eq_true', Bool.not_eq_false', Bool.not_eq_true, Bool.not_eq_false] at hb19_2; omega) | omega)
                                    all_goals
                                      try simp only [decide_eq_true_eq, decide_eq_false_iff_not, Bool.not_eq_true', Bool.not_eq_false', Bool.not_eq_true, Bool.not_eq_false, Option.isNone_none, Option.isNone_some, Option.isSome_none, Option.isSome_some, ne_eq, Decidable.not_not] at hb19_2
                                      have hM0 := hM
                                      obtain ⟨A3, c3, at_, hb2, hr2, hst⟩ := hM0
                                      refine WN.calm _ rfl rfl rfl rfl rfl (fun _ => r_move rfl (ev_t rfl)) ?_
                                      refine WN.calm _ rfl rfl rfl rfl rfl (fun _ => r_move rfl (ev_t rfl)) ?_
                                      refine WN.calm _ rfl rfl rfl rfl rfl (fun _ => r_nilCheck rfl (ev_t rfl)) ?_
                                      first | refine WN.calm _ rfl rfl rfl rfl rfl (fun _ => r_field0 rfl (ev_t rfl) fld_71_1) ?_ | refine WN.calm _ rfl rfl rfl rfl rfl (fun _ => r_fieldAt rfl (ev_t rfl) fld_71_1) ?_
                                      refine WN.held _ rfl rfl rfl rfl rfl hS19 (fun w' hS => r_load rfl (ev_t rfl) flat_3 ((hb2.upd hS (fun h => h)).cell rfl)) ?_
                                      refine WN.calm _ rfl rfl rfl rfl rfl (fun _ => r_lss rfl (ev_t rfl) ev_c) ?_
                                      refine WN.step _ rfl (SO.call (bad_ok hI) rfl body_44 ⟨(ev_t rfl), trivial⟩ rfl rfl rfl rfl ?_)
                                      rintro v w24 ⟨rfl, rfl⟩
                                      refine ⟨hS19, ?_⟩
                                      refine WN.calm _ rfl rfl rfl rfl rfl (fun _ => r_neqBool rfl (ev_t rfl) (ev_t rfl) bool_4) ?_
                                      rw [hst.bad]
                                      refine WN.calm _ rfl rfl rfl rfl rfl (fun _ => r_pickF rfl (ev_t rfl) (ev_t rfl)) ?_
                                      refine WN.calm _ rfl rfl rfl rfl rfl (fun _ => r_move rfl (ev_t rfl)) ?_
                                      refine WN.cases 110 rfl (fun hb19_12 => ?_) (fun hb19_12 => ?_)
                                      · try (exfalso; first | (simp at hb19_12; done) | (simp only [decide_eq_true_eq, decide_eq_false_iff_not, Bool.not_eq_true', Bool.not_eq_false', Bool.not_eq_true, Bool.not_eq_false] at hb19_12; omega) | omega)
                                        all_goals
                                          try simp only [decide_eq_true_eq, decide_eq_false_iff_not, Bool.not_eq_true', Bool.not_eq_false', Bool.not_eq_true, Bool.not_eq_false, Option.isNone_none, Option.isNone_some, Option.isSome_none, Option.isSome_some, ne_eq, Decidable.not_not] at hb19_12
                                          refine WN.skip _ rfl rfl rfl rfl ?_
                                          refine WN.skip _ rfl rfl rfl rfl ?_
                                          refine WN.skip _ rfl rfl rfl rfl ?_
                                          refine WN.skip _ rfl rfl rfl rfl ?_
                                          refine WN.skip _ rfl rfl rfl rfl ?_
                                          refine WN.skip _ rfl rfl rfl rfl ?_
                                          refine WN.heldSkip _ rfl rfl rfl rfl hS19 ?_
                                          refine WN.skip _ rfl rfl rfl rfl ?_
                                          refine WN.step _ rfl (SO.skip rfl rfl rfl ?_)
                                          refine ⟨hS19, ?_⟩
                                          refine WN.skip _ rfl rfl rfl rfl ?_
                                          rw [hst.end]
                                          refine WN.calm _ rfl rfl rfl rfl rfl (fun _ => r_pickT rfl (ev_t rfl) ev_c) ?_
                                          refine WN.done ?_
                                          refine WX.keep [(0, _), (1, _), (5, _), (6, _), (7, _), (121, _)] ⟨rfl, rfl, rfl, rfl, rfl, rfl, trivial⟩ ?_
                                          refine WX.next ?_
                                          refine WC.cond_true rfl (ev_t rfl) ?_
                                          refine WC.seq ?_
                                          -- region 20 law.go:99
                                          refine WC.region ?_
                                          refine WL.val rfl rfl rfl rfl (r_assign rfl ev_c) ?_
                                          refine WL.nil ?_
                                          refine WX.keep [(4, _)] ⟨rfl, trivial⟩ ?_
                                          refine WX.next ?_
                                          refine WC.ret ?_
                                          refine WX.blockRet ?_
                                          refine WX.thenRet ?_
                                          refine WX.thenRet ?_
                                          refine WX.blockRet ?_
                                          refine WX.thenRet ?_
                                          refine WX.retE1 rfl rfl ?_
                                          exact ⟨rfl, hU⟩
                                      · try (exfalso; first | (simp at hb19_12; done) | (simp only [decide_eq_true_eq, decide_eq_false_iff_not, Bool.not_eq_true', Bool.not_eq_false', Bool.not_eq_true, Bool.not_eq_false] at hb19_12; omega) | omega)
                                        all_goals
                                          try simp only [decide_eq_true_eq, decide_eq_false_iff_not, Bool.not_eq_true', Bool.not_eq_false', Bool.not_eq_true, Bool.not_eq_false, Option.isNone_none, Option.isNone_some, Option.isSome_none, Option.isSome_some, ne_eq, Decidable.not_not] at hb19_12
                                          refine WN.calm _ rfl rfl rfl rfl rfl (fun _ => r_move rfl (ev_t rfl)) ?_
                                          refine WN.calm _ rfl rfl rfl rfl rfl (fun _ => r_move rfl (ev_t rfl)) ?_
                                          refine WN.calm _ rfl rfl rfl rfl rfl (fun _ => r_nilCheck rfl (ev_t rfl)) ?_
                                          first | refine WN.calm _ rfl rfl rfl rfl rfl (fun _ => r_field0 rfl (ev_t rfl) fld_71_1) ?_ | refine WN.calm _ rfl rfl rfl rfl rfl (fun _ => r_fieldAt rfl (ev_t rfl) fld_71_1) ?_
                                          refine WN.calm _ rfl rfl rfl rfl rfl (fun _ => r_move rfl (ev_t rfl)) ?_
                                          refine WN.calm _ rfl rfl rfl rfl rfl (fun _ => r_lenSlice (ts := #[]) rfl (ev_t rfl) elem_37) ?_
                                          refine WN.held _ rfl rfl rfl rfl rfl hS19 (fun w' hS => r_load rfl (ev_t rfl) flat_3 ((hb2.upd hS (fun h => h)).cell rfl)) ?_
                                          refine WN.calm _ rfl rfl rfl rfl rfl (fun _ => r_eql rfl (ev_t rfl) (ev_t rfl)) ?_
                                          refine WN.step _ rfl (SO.call (end_ok hI) rfl body_45 ⟨(ev_t rfl), trivial⟩ rfl rfl rfl rfl ?_)
                                          rintro v w25 ⟨rfl, rfl⟩
                                          refine ⟨hS19, ?_⟩
                                          refine WN.calm _ rfl rfl rfl rfl rfl (fun _ => r_neqBool rfl (ev_t rfl) (ev_t rfl) bool_4) ?_
                                          rw [hst.end]
                                          refine WN.calm _ rfl rfl rfl rfl rfl (fun _ => r_pickF rfl (ev_t rfl) (ev_t rfl)) ?_
                                          refine WN.done ?_
                                          refine WX.keep [(0, _), (1, _), (5, _), (6, _), (7, _), (121, _)] ⟨rfl, rfl, rfl, rfl, rfl, rfl, trivial⟩ ?_
                                          refine WX.next ?_
                                          refine WC.cond rfl (ev_t rfl) (fun hc19 => ?_) (fun hc19 => ?_)
                                          · try (exfalso; first | (simp at hc19; done) | (simp only [decide_eq_true_eq, decide_eq_false_iff_not, Bool.not_eq_true', Bool.not_eq_false', Bool.not_eq_true, Bool.not_eq_false] at hc19; omega) | omega)
                                            all_goals
                                              try simp only [decide_eq_true_eq, decide_eq_false_iff_not, Bool.not_eq_true', Bool.not_eq_false', Bool.not_eq_true, Bool.not_eq_false, Option.isNone_none, Option.isNone_some, Option.isSome_none, Option.isSome_some, ne_eq, Decidable.not_not] at hc19
                                              refine WC.seq ?_
                                              -- region 20 law.go:99
                                              refine WC.region ?_
                                              refine WL.val rfl rfl rfl rfl (r_assign rfl ev_c) ?_
                                              refine WL.nil ?_
                                              refine WX.keep [(4, _)] ⟨rfl, trivial⟩ ?_
                                              refine WX.next ?_
                                              refine WC.ret ?_
                                              refine WX.blockRet ?_
                                              refine WX.thenRet ?_
                                              refine WX.thenRet ?_
                                              refine WX.blockRet ?_
                                              refine WX.thenRet ?_
                                              refine WX.retE1 rfl rfl ?_
                                              exact ⟨rfl, hU⟩
                                          · try (exfalso; first | (simp at hc19; done) | (simp only [decide_eq_true_eq, decide_eq_false_iff_not, Bool.not_eq_true', Bool.not_eq_false', Bool.not_eq_true, Bool.not_eq_false] at hc19; omega) | omega)
                                            all_goals
                                              try simp only [decide_eq_true_eq, decide_eq_false_iff_not, Bool.not_eq_true', Bool.not_eq_false', Bool.not_eq_true, Bool.not_eq_false, Option.isNone_none, Option.isNone_some, Option.isSome_none, Option.isSome_some, ne_eq, Decidable.not_not] at hc19
                                              refine WC.skip ?_
                                              refine WX.blockNormal ?_
                                              refine WX.next ?_
                                              -- region 7 law.go:84
                                              refine WC.region ?_
                                              refine WL.val rfl rfl rfl rfl (r_move rfl (ev_t rfl)) ?_
                                              first | refine WL.val rfl rfl rfl rfl (r_addN rfl (ev_t rfl) ev_c (by simp only [inK]; omega)) ?_ | refine WL.val rfl rfl rfl rfl (r_add rfl (ev_t rfl) ev_c) ?_
                                              refine WL.val rfl rfl rfl rfl (r_assign rfl (ev_t rfl)) ?_
                                              refine WL.nil ?_
                                              refine WX.keep [(0, _), (1, _), (5, _), (6, _), (7, _)] ⟨rfl, rfl, rfl, rfl, rfl, trivial⟩ ?_
                                              refine WX.meet [(0, _), (1, _), (5, _), (6, _), (7, _)] ⟨rfl, rfl, rfl, rfl, rfl, trivial⟩ ?_
                                              exact ⟨50 - (i + 1), by omega, i + 1, s1, by omega, rfl, hU, by omega, hI, hM, hr1, ha, rfl⟩
                                · refine SO.call (mBytes_ok (l := (bytesR (Z i) s).1) (s' := (bytesR (Z i) s).2) hM hFg2 hzi rfl) rfl body_42 ⟨(ev_t rfl), (ev_t rfl), trivial⟩ rfl rfl rfl rfl ?_
                                  rintro v2 w26 ⟨hrm, hM, hu26⟩
                                  have hs26 := hu26.size
                                  try replace hS18 := Upd.trans_same hS18 (Upd.mono hu26 (by first | exact (fun _ _ h => h) | exact (fun _ _ h => h.elim) | (intro k _ hk; (try simp only [At, New, Grow, From, No] at hk ⊢); omega)))
                                  replace hU := hU.trans hu26 (by first | exact (fun _ _ h => h) | exact (fun _ _ h => h.elim) | (intro k hl hk; (try simp only [At, New, Grow, From, No] at hk ⊢); omega))
                                  replace hr1 := hr1.upd hu26 (by first | exact (fun _ _ _ h => h) | (intro k hk hl hS; have : k < w.heap.size := hk; simp only [At, New, Grow, From, No] at hS; omega))
                                  replace ha := ha.upd hu26 (by first | exact (fun _ _ _ h => h) | (intro k hk hl hS; have : k < w.heap.size := hk; simp only [At, New, Grow, From, No] at hS; omega))
                                  replace hI := hI.upd hu26 (by first | exact (fun h => h) | (simp only [At, New, Grow, From, No]; omega)) (by first | exact (fun _ _ _ h => h) | (intro k hk hl hS; have : k < w.heap.size := hk; simp only [At, New, Grow, From, No] at hS; omega))
                                  replace ho := ho.upd hu26 (by first | (with_reducible assumption) | exact (fun h => h) | exact (fun _ _ _ h => h) | (simp only [At]; omega) | (intro k hk hl hS; simp only [At] at hS; subst hS; contradiction) | (intro k hk hl hS; simp only [At] at hS; subst hS; exact Grow.old (by omega) (by assumption) hk) | (intro k hk hl hS; (try simp only [At, From, No, Grow, New] at hk hS); omega))
                                  obtain ⟨s1, hs1⟩ : ∃ s1, (bytesR (Z i) s).2 = s1 := ⟨_, rfl⟩
                                  rw [hs1] at hI hM
                                  refine ⟨trivial, ?_⟩
                                  refine WN.fork _ _ rfl rfl ?_ ?_
                                  · refine SO.val rfl rfl rfl rfl (r_toStr rfl (ev_t rfl) (ho.rd hlen) elem_37 int_5 str_9) ?_
                                    refine ⟨hS18, ?_⟩
                                    refine WN.step _ rfl (SO.val rfl rfl rfl rfl (r_toStr rfl (ev_t rfl) hrm elem_37 int_5 str_9) ?_)
                                    refine ⟨trivial, ?_⟩
                                    refine WN.calm _ rfl rfl rfl rfl rfl (fun _ => r_eqlStr rfl (ev_t rfl) (ev_t rfl)) ?_
                                    refine WN.calm _ rfl rfl rfl rfl rfl (fun _ => r_assign rfl (ev_t rfl)) ?_
                                    refine WN.done ?_
                                    refine WX.keep [(0, _), (1, _), (5, _), (6, _), (7, _), (8, _)] ⟨rfl, rfl, rfl, rfl, rfl, rfl, trivial⟩ ?_
                                    refine WX.blockNormal ?_
                                    refine WX.next ?_
                                    refine WC.seq ?_
                                    -- region 19 law.go:98 DRAWS
                                    refine WC.draws' (fun u0_ u1_ => Upd No u0_ u1_) (fun j => [0, 0, 0, 0, 1, 0, 0, 0, 0, 0, 0, 0, 0, 0, 1, 0, 0, 0, 0, 0, 0, 0, 0, 0].getD j 0) (.calm 0 (.calm 1 (.calm 2 (.calm 3 (.calm 5 (.calm 6 (.calm 7 (.held 8 (.calm 9 (.one 4 (.calm 10 (.calm 11 (.calm 12 (.calm 13 (.calm 15 (.calm 16 (.calm 17 (.calm 19 (.calm 20 (.held 18 (.calm 21 (.one 14 (.calm 22 (.calm 23 (.done))))))))))))))))))))))))) mixed (by kernel_rfl) (by repeat (first | with_reducible exact Deaf.body | with_reducible apply Deaf.then | with_reducible apply Deaf.block)) ?_
                                    intro w27 hu27
                                    have hz27 := congrArg Array.size hu27.2.2.2
                                    replace hu27 := Upd.of_draw hu27
                                    have hs27 := hu27.size
                                    replace hU := hU.trans hu27 (by first | exact (fun _ _ h => h) | exact (fun _ _ h => h.elim) | (intro k hl hk; (try simp only [At, New, Grow, From, No] at hk ⊢); omega))
                                    replace hr1 := hr1.upd hu27 (by first | exact (fun _ _ _ h => h) | (intro k hk hl hS; have : k < w.heap.size := hk; simp only [At, New, Grow, From, No] at hS; omega))
                                    replace ha := ha.upd hu27 (by first | exact (fun _ _ _ h => h) | (intro k hk hl hS; have : k < w.heap.size := hk; simp only [At, New, Grow, From, No] at hS; omega))
                                    replace hI := hI.upd hu27 (by first | exact (fun h => h) | (simp only [At, New, Grow, From, No]; omega)) (by first | exact (fun _ _ _ h => h) | (intro k hk hl hS; have : k < w.heap.size := hk; simp only [At, New, Grow, From, No] at hS; omega))
                                    replace hM := hM.upd hu27 (by first | exact (fun h => h) | (simp only [At, New, Grow, From, No]; omega)) (by first | exact (fun _ _ _ h => h) | (intro k hk hl hS; have : k < w.heap.size := hk; simp only [At, New, Grow, From, No] at hS; omega))
                                    replace ho := ho.upd hu27 (by first | (with_reducible assumption) | exact (fun h => h) | exact (fun _ _ _ h => h) | (simp only [At]; omega) | (intro k hk hl hS; simp only [At] at hS; subst hS; contradiction) | (intro k hk hl hS; simp only [At] at hS; subst hS; exact Grow.old (by omega) (by assumption) hk) | (intro k hk hl hS; (try simp only [At, From, No, Grow, New] at hk hS); omega))
                                    have hS19 := Upd.refl No w27
                                    refine WN.calm _ rfl rfl rfl rfl rfl (fun _ => r_move rfl (ev_t rfl)) ?_
                                    refine WN.calm _ rfl rfl rfl rfl rfl (fun _ => r_not rfl (ev_t rfl)) ?_
                                    refine WN.calm _ rfl rfl rfl rfl rfl (fun _ => r_move rfl (ev_t rfl)) ?_
                                    refine WN.cases 100 rfl (fun hb19_2 => ?_) (fun hb19_2 => ?_)
                                    · try (exfalso; first | (simp at hb19_2; done) | (simp only [decide_eq_true_eq, decide_eq_false_iff_not, Bool.not_eq_true', Bool.not_eq_false', Bool.not_eq_true, Bool.not_eq_false] at hb19_2; omega) | omega)
                                      all_goals
                                        try simp only [decide_eq_true_eq, decide_eq_false_iff_not, Bool.not_eq_true', Bool.not_eq_false', Bool.not_eq_true, Bool.not_eq_false, Option.isNone_none, Option.isNone_some, Option.isSome_none, Option.isSome_some, ne_eq, Decidable.not_not] at hb19_2
                                        refine WN.skip _ rfl rfl rfl rfl ?_
                                        refine WN.skip _ rfl rfl rfl rfl ?_
                                        refine WN.skip _ rfl rfl rfl rfl ?_
                                        refine WN.skip _ rfl rfl rfl rfl ?_
                                        refine WN.heldSkip _ rfl rfl rfl rfl hS19 ?_
                                        refine WN.skip _ rfl rfl rfl rfl ?_
                                        refine WN.step _ rfl (SO.skip rfl rfl rfl ?_)
                                        refine ⟨hS19, ?_⟩
                                        refine WN.skip _ rfl rfl rfl rfl ?_
                                        rw [hst.bad]
                                        refine WN.calm _ rfl rfl rfl rfl rfl (fun _ => r_pickT rfl (ev_t rfl) ev_c) ?_
                                        refine WN.calm _ rfl rfl rfl rfl rfl (fun _ => r_move rfl (ev_t rfl)) ?_
                                        refine WN.skip _ rfl rfl rfl rfl ?_
                                        refine WN.skip _ rfl rfl rfl rfl ?_
                                        refine WN.skip _ rfl rfl rfl rfl ?_
                                        refine WN.skip _ rfl rfl rfl rfl ?_
                                        refine WN.skip _ rfl rfl rfl rfl ?_
                                        refine WN.skip _ rfl rfl rfl rfl ?_
                                        refine WN.heldSkip _ rfl rfl rfl rfl hS19 ?_
                                        refine WN.skip _ rfl rfl rfl rfl ?_
                                        refine WN.step _ rfl (SO.skip rfl rfl rfl ?_)
                                        refine ⟨hS19, ?_⟩
                                        refine WN.skip _ rfl rfl rfl rfl ?_
                                        rw [hst.end]
                                        refine WN.calm _ rfl rfl rfl rfl rfl (fun _ => r_pickT rfl (ev_t rfl) ev_c) ?_
                                        refine WN.done ?_
                                        refine WX.keep [(0, _), (1, _), (5, _), (6, _), (7, _), (121, _)] ⟨rfl, rfl, rfl, rfl, rfl, rfl, trivial⟩ ?_
                                        refine WX.next ?_
                                        refine WC.cond_true rfl (ev_t rfl) ?_
                                        refine WC.seq ?_
                                        -- region 20 law.go:99
                                        refine WC.region ?_
                                        refine WL.val rfl rfl rfl rfl (r_assign rfl ev_c) ?_
                                        refine WL.nil ?_
                                        refine WX.keep [(4, _)] ⟨rfl, trivial⟩ ?_
                                        refine WX.next ?_
                                        refine WC.ret ?_
                                        refine WX.blockRet ?_
                                        refine WX.thenRet ?_
                                        refine WX.thenRet ?_
                                        refine WX.blockRet ?_
                                        refine WX.thenRet ?_
                                        refine WX.retE1 rfl rfl ?_
                                        exact ⟨rfl, hU⟩
                                    · try (exfalso; first | (simp at hb19_2; done) | (simp only [decide_eq_true_eq, decide_eq_false_iff_not, Bool.not_eq_true', Bool.not_eq_false', Bool.not_eq_true, Bool.not_eq_false] at hb19_2; omega) | omega)
                                      all_goals
                                        try simp only [decide_eq_true_eq, decide_eq_false_iff_not, Bool.not_eq_true', Bool.not_eq_false', Bool.not_eq_true, Bool.not_eq_false, Option.isNone_none, Option.isNone_some, Option.isSome_none, Option.isSome_some, ne_eq, Decidable.not_not] at hb19_2
                                        have hM0 := hM
                                        obtain ⟨A3, c3, at_, hb2, hr2, hst⟩ := hM0
                                        refine WN.calm _ rfl rfl rfl rfl rfl (fun _ => r_move rfl (ev_t rfl)) ?_
                                        refine WN.calm _ rfl rfl rfl rfl rfl (fun _ => r_move rfl (ev_t rfl)) ?_
                                        refine WN.calm _ rfl rfl rfl rfl rfl (fun _ => r_nilCheck rfl (ev_t rfl)) ?_
                                        first | refine WN.calm _ rfl rfl rfl rfl rfl (fun _ => r_field0 rfl (ev_t rfl) fld_71_1) ?_ | refine WN.calm _ rfl rfl rfl rfl rfl (fun _ => r_fieldAt rfl (ev_t rfl) fld_71_1) ?_
                                        refine WN.held _ rfl rfl rfl rfl rfl hS19 (fun w' hS => r_load rfl (ev_t rfl) flat_3 ((hb2.upd hS (fun h => h)).cell rfl)) ?_
                                        refine WN.calm _ rfl rfl rfl rfl rfl (fun _ => r_lss rfl (ev_t rfl) ev_c) ?_
                                        refine WN.step _ rfl (SO.call (bad_ok hI) rfl body_44 ⟨(ev_t rfl), trivial⟩ rfl rfl rfl rfl ?_)
                                        rintro v w28 ⟨rfl, rfl⟩
                                        refine ⟨hS19, ?_⟩
                                        refine WN.calm _ rfl rfl rfl rfl rfl (fun _ => r_neqBool rfl (ev_t rfl) (ev_t rfl) bool_4) ?_
                                        rw [hst.bad]
                                        refine WN.calm _ rfl rfl rfl rfl rfl (fun _ => r_pickF rfl (ev_t rfl) (ev_t rfl)) ?_
                                        refine WN.calm _ rfl rfl rfl rfl rfl (fun _ => r_move rfl (ev_t rfl)) ?_
                                        refine WN.cases 110 rfl (fun hb19_12 => ?_) (fun hb19_12 => ?_)
                                        · try (exfalso; first | (simp at hb19_12; done) | (simp only [decide_eq_true_eq, decide_eq_false_iff_not, Bool.not_eq_true', Bool.not_eq_false', Bool.not_eq_true, Bool.not_eq_false] at hb19_12; omega) | omega)
                                          all_goals
                                            try simp only [decide_eq_true_eq, decide_eq_false_iff_not, Bool.not_eq_true', Bool.not_eq_false', Bool.not_eq_true, Bool.not_eq_false, Option.isNone_none, Option.isNone_some, Option.isSome_none, Option.isSome_some, ne_eq, Decidable.not_not] at hb19_12
                                            refine WN.skip _ rfl rfl rfl rfl ?_
                                            refine WN.skip _ rfl rfl rfl rfl ?_
                                            refine WN.skip _ rfl rfl rfl rfl ?_
                                            refine WN.skip _ rfl rfl rfl rfl ?_
                                            refine WN.skip _ rfl rfl rfl rfl ?_
                                            refine WN.skip _ rfl rfl rfl rfl ?_
                                            refine WN.heldSkip _ rfl rfl rfl rfl hS19 ?_
                                            refine WN.skip _ rfl rfl rfl rfl ?_
                                            refine WN.step _ rfl (SO.skip rfl rfl rfl ?_)
                                            refine ⟨hS19, ?_⟩
                                            refine WN.skip _ rfl rfl rfl rfl ?_
                                            rw [hst.end]
                                            refine WN.calm _ rfl rfl rfl rfl rfl (fun _ => r_pickT rfl (ev_t rfl) ev_c) ?_
                                            refine WN.done ?_
                                            refine WX.keep [(0, _), (1, _), (5, _), (6, _), (7, _), (121, _)] ⟨rfl, rfl, rfl, rfl, rfl, rfl, trivial⟩ ?_
                                            refine WX.next ?_
                                            refine WC.cond_true rfl (ev_t rfl) ?_
                                            refine WC.seq ?_
                                            -- region 20 law.go:99
                                            refine WC.region ?_
                                            refine WL.val rfl rfl rfl rfl (r_assign rfl ev_c) ?_
                                            refine WL.nil ?_
                                            refine WX.keep [(4, _)] ⟨rfl, trivial⟩ ?_
                                            refine WX.next ?_
                                            refine WC.ret ?_
                                            refine WX.blockRet ?_
                                            refine WX.thenRet ?_
                                            refine WX.thenRet ?_
                                            refine WX.blockRet ?_
                                            refine WX.thenRet ?_
                                            refine WX.retE1 rfl rfl ?_
                                            exact ⟨rfl, hU⟩
                                        · try (exfalso; first | (simp at hb19_12; done) | (simp only [decide_eq_true_eq, decide_eq_false_iff_not, Bool.not_eq_true', Bool.not_eq_false', Bool.not_eq_true, Bool.not_eq_false] at hb19_12; omega) | omega)
                                          all_goals
                                            try simp only [decide_eq_true_eq, decide_eq_false_iff_not, Bool.not_eq_true', Bool.not_eq_false', Bool.not_eq_true, Bool.not_eq_false, Option.isNone_none, Option.isNone_some, Option.isSome_none, Option.isSome_some, ne_eq, Decidable.not_not] at hb19_12
                                            refine WN.calm _ rfl rfl rfl rfl rfl (fun _ => r_move rfl (ev_t rfl)) ?_
                                            refine WN.calm _ rfl rfl rfl rfl rfl (fun _ => r_move rfl (ev_t rfl)) ?_
                                            refine WN.calm _ rfl rfl rfl rfl rfl (fun _ => r_nilCheck rfl (ev_t rfl)) ?_
                                            first | refine WN.calm _ rfl rfl rfl rfl rfl (fun _ => r_field0 rfl (ev_t rfl) fld_71_1) ?_ | refine WN.calm _ rfl rfl rfl rfl rfl (fun _ => r_fieldAt rfl (ev_t rfl) fld_71_1) ?_
                                            refine WN.calm _ rfl rfl rfl rfl rfl (fun _ => r_move rfl (ev_t rfl)) ?_
                                            refine WN.calm _ rfl rfl rfl rfl rfl (fun _ => r_lenSlice (ts := #[]) rfl (ev_t rfl) elem_37) ?_
                                            refine WN.held _ rfl rfl rfl rfl rfl hS19 (fun w' hS => r_load rfl (ev_t rfl) flat_3 ((hb2.upd hS (fun h => h)).cell rfl)) ?_
                                            refine WN.calm _ rfl rfl rfl rfl rfl (fun _ => r_eql rfl (ev_t rfl) (ev_t rfl)) ?_
                                            refine WN.step _ rfl (SO.call (end_ok hI) rfl body_45 ⟨(ev_t rfl), trivial⟩ rfl rfl rfl rfl ?_)
                                            rintro v w29 ⟨rfl, rfl⟩
                                            refine ⟨hS19, ?_⟩
                                            refine WN.calm _ rfl rfl rfl rfl rfl (fun _ => r_neqBool rfl (ev_t rfl) (ev_t rfl) bool_4) ?_
                                            rw [hst.end]
                                            refine WN.calm _ rfl rfl rfl rfl rfl (fun _ => r_pickF rfl (ev_t rfl) (ev_t rfl)) ?_
                                            refine WN.done ?_
                                            refine WX.keep [(0, _), (1, _), (5, _), (6, _), (7, _), (121, _)] ⟨rfl, rfl, rfl, rfl, rfl, rfl, trivial⟩ ?_
                                            refine WX.next ?_
                                            refine WC.cond rfl (ev_t rfl) (fun hc19 => ?_) (fun hc19 => ?_)
                                            · try (exfalso; first | (simp at hc19; done) | (simp only [decide_eq_true_eq, decide_eq_false_iff_not, Bool.not_eq_true', Bool.not_eq_false', Bool.not_eq_true, Bool.not_eq_false] at hc19; omega) | omega)
                                              all_goals
                                                try simp only [decide_eq_true_eq, decide_eq_false_iff_not, Bool.not_eq_true', Bool.not_eq_false', Bool.not_eq_true, Bool.not_eq_false, Option.isNone_none, Option.isNone_some, Option.isSome_none, Option.isSome_some, ne_eq, Decidable.not_not] at hc19
                                                refine WC.seq ?_
                                                -- region 20 law.go:99
                                                refine WC.region ?_
                                                refine WL.val rfl rfl rfl rfl (r_assign rfl ev_c) ?_
                                                refine WL.nil ?_
                                                refine WX.keep [(4, _)] ⟨rfl, trivial⟩ ?_
                                                refine WX.next ?_
                                                refine WC.ret ?_
                                                refine WX.blockRet ?_
                                                refine WX.thenRet ?_
                                                refine WX.thenRet ?_
                                                refine WX.blockRet ?_
                                                refine WX.thenRet ?_
                                                refine WX.retE1 rfl rfl ?_
                                                exact ⟨rfl, hU⟩
                                            · try (exfalso; first | (simp at hc19; done) | (simp only [decide_eq_true_eq, decide_eq_false_iff_not, Bool.not_eq_true', Bool.not_eq_false', Bool.not_eq_true, Bool.not_eq_false] at hc19; omega) | omega)
                                              all_goals
                                                try simp only [decide_eq_true_eq, decide_eq_false_iff_not, Bool.not_eq_true', Bool.not_eq_false', Bool.not_eq_true, Bool.not_eq_false, Option.isNone_none, Option.isNone_some, Option.isSome_none, Option.isSome_some, ne_eq, Decidable.not_not] at hc19
                                                refine WC.skip ?_
                                                refine WX.blockNormal ?_
                                                refine WX.next ?_
                                                -- region 7 law.go:84
                                                refine WC.region ?_
                                                refine WL.val rfl rfl rfl rfl (r_move rfl (ev_t rfl)) ?_
                                                first | refine WL.val rfl rfl rfl rfl (r_addN rfl (ev_t rfl) ev_c (by simp only [inK]; omega)) ?_ | refine WL.val rfl rfl rfl rfl (r_add rfl (ev_t rfl) ev_c) ?_
                                                refine WL.val rfl rfl rfl rfl (r_assign rfl (ev_t rfl)) ?_
                                                refine WL.nil ?_
                                                refine WX.keep [(0, _), (1, _), (5, _), (6, _), (7, _)] ⟨rfl, rfl, rfl, rfl, rfl, trivial⟩ ?_
                                                refine WX.meet [(0, _), (1, _), (5, _), (6, _), (7, _)] ⟨rfl, rfl, rfl, rfl, rfl, trivial⟩ ?_
                                                exact ⟨50 - (i + 1), by omega, i + 1, s1, by omega, rfl, hU, by omega, hI, hM, hr1, ha, rfl⟩
                                  · refine SO.val rfl rfl rfl rfl (r_toStr rfl (ev_t rfl) hrm elem_37 int_5 str_9) ?_
                                    refine ⟨trivial, ?_⟩
                                    refine WN.step _ rfl (SO.val rfl rfl rfl rfl (r_toStr rfl (ev_t rfl) (ho.rd hlen) elem_37 int_5 str_9) ?_)
                                    refine ⟨hS18, ?_⟩
                                    refine WN.calm _ rfl rfl rfl rfl rfl (fun _ => r_eqlStr rfl (ev_t rfl) (ev_t rfl)) ?_
                                    refine WN.calm _ rfl rfl rfl rfl rfl (fun _ => r_assign rfl (ev_t rfl)) ?_
                                    refine WN.done ?_
                                    refine WX.keep [(0, _), (1, _), (5, _), (6, _), (7, _), (8, _)] ⟨rfl, rfl, rfl, rfl, rfl, rfl, trivial⟩ ?_
                                    refine WX.blockNormal ?_
                                    refine WX.next ?_
                                    refine WC.seq ?_
                                    -- region 19 law.go:98 DRAWS
                                    refine WC.draws' (fun u0_ u1_ => Upd No u0_ u1_) (fun j => [0, 0, 0, 0, 1, 0, 0, 0, 0, 0, 0, 0, 0, 0, 1, 0, 0, 0, 0, 0, 0, 0, 0, 0].getD j 0) (.calm 0 (.calm 1 (.calm 2 (.calm 3 (.calm 5 (.calm 6 (.calm 7 (.held 8 (.calm 9 (.one 4 (.calm 10 (.calm 11 (.calm 12 (.calm 13 (.calm 15 (.calm 16 (.calm 17 (.calm 19 (.calm 20 (.held 18 (.calm 21 (.one 14 (.calm 22 (.calm 23 (.done))))))))))))))))))))))))) mixed (by kernel_rfl) (by repeat (first | with_reducible exact Deaf.body | with_reducible apply Deaf.then | with_reducible apply Deaf.block)) ?_
                                    intro w30 hu30
                                    have hz30 := congrArg Array.size hu30.2.2.2
                                    replace hu30 := Upd.of_draw hu30
                                    have hs30 := hu30.size
                                    replace hU := hU.trans hu30 (by first | exact (fun _ _ h => h) | exact (fun _ _ h => h.elim) | (intro k hl hk; (try simp only [At, New, Grow, From, No] at hk ⊢); omega))
                                    replace hr1 := hr1.upd hu30 (by first | exact (fun _ _ _ h => h) | (intro k hk hl hS; have : k < w.heap.size := hk; simp only [At, New, Grow, From, No] at hS; omega))
                                    replace ha := ha.upd hu30 (by first | exact (fun _ _ _ h => h) | (intro k hk hl hS; have : k < w.heap.size := hk; simp only [At, New, Grow, From, No] at hS; omega))
                                    replace hI := hI.upd hu30 (by first | exact (fun h => h) | (simp only [At, New, Grow, From, No]; omega)) (by first | exact (fun _ _ _ h => h) | (intro k hk hl hS; have : k < w.heap.size := hk; simp only [At, New, Grow, From, No] at hS; omega))
                                    replace hM := hM.upd hu30 (by first | exact (fun h => h) | (simp only [At, New, Grow, From, No]; omega)) (by first | exact (fun _ _ _ h => h) | (intro k hk hl hS; have : k < w.heap.size := hk; simp only [At, New, Grow, From, No] at hS; omega))
                                    replace ho := ho.upd hu30 (by first | (with_reducible assumption) | exact (fun h => h) | exact (fun _ _ _ h => h) | (simp only [At]; omega) | (intro k hk hl hS; simp only [At] at hS; subst hS; contradiction) | (intro k hk hl hS; simp only [At] at hS; subst hS; exact Grow.old (by omega) (by assumption) hk) | (intro k hk hl hS; (try simp only [At, From, No, Grow, New] at hk hS); omega))
                                    have hS19 := Upd.refl No w30
                                    refine WN.calm _ rfl rfl rfl rfl rfl (fun _ => r_move rfl (ev_t rfl)) ?_
                                    refine WN.calm _ rfl rfl rfl rfl rfl (fun _ => r_not rfl (ev_t rfl)) ?_
                                    refine WN.calm _ rfl rfl rfl rfl rfl (fun _ => r_move rfl (ev_t rfl)) ?_
                                    refine WN.cases 100 rfl (fun hb19_2 => ?_) (fun hb19_2 => ?_)
                                    · try (exfalso; first | (simp at hb19_2; done) | (simp only [decide_eq_true_eq, decide_eq_false_iff_not, Bool.not_eq_true', Bool.not_eq_false', Bool.not_eq_true, Bool.not_eq_false] at hb19_2; omega) | omega)
                                      all_goals
                                        try simp only [decide_eq_true_eq, decide_eq_false_iff_not, Bool.not_eq_true', Bool.not_eq_false', Bool.not_eq_true, Bool.not_eq_false, Option.isNone_none, Option.isNone_some, Option.isSome_none, Option.isSome_some, ne_eq, Decidable.not_not] at hb19_2
                                        refine WN.skip _ rfl rfl rfl rfl ?_
                                        refine WN.skip _ rfl rfl rfl rfl ?_
                                        refine WN.skip _ rfl rfl rfl rfl ?_
                                        refine WN.skip _ rfl rfl rfl rfl ?_
                                        refine WN.heldSkip _ rfl rfl rfl rfl hS19 ?_
                                        refine WN.skip _ rfl rfl rfl rfl ?_
                                        refine WN.step _ rfl (SO.skip rfl rfl rfl ?_)
                                        refine ⟨hS19, ?_⟩
                                        refine WN.skip _ rfl rfl rfl rfl ?_
                                        rw [hst.bad]
                                        refine WN.calm _ rfl rfl rfl rfl rfl (fun _ => r_pickT rfl (ev_t rfl) ev_c) ?_
                                        refine WN.calm _ rfl rfl rfl rfl rfl (fun _ => r_move rfl (ev_t rfl)) ?_
                                        refine WN.skip _ rfl rfl rfl rfl ?_
                                        refine WN.skip _ rfl rfl rfl rfl ?_
                                        refine WN.skip _ rfl rfl rfl rfl ?_
                                        refine WN.skip _ rfl rfl rfl rfl ?_
                                        refine WN.skip _ rfl rfl rfl rfl ?_
                                        refine WN.skip _ rfl rfl rfl rfl ?_
                                        refine WN.heldSkip _ rfl rfl rfl rfl hS19 ?_
                                        refine WN.skip _ rfl rfl rfl rfl ?_
                                        refine WN.step _ rfl (SO.skip rfl rfl rfl ?_)
                                        refine ⟨hS19, ?_⟩
                                        refine WN.skip _ rfl rfl rfl rfl ?_
                                        rw [hst.end]
                                        refine WN.calm _ rfl rfl rfl rfl rfl (fun _ => r_pickT rfl (ev_t rfl) ev_c) ?_
                                        refine WN.done ?_
                                        refine WX.keep [(0, _), (1, _), (5, _), (6, _), (7, _), (121, _)] ⟨rfl, rfl, rfl, rfl, rfl, rfl, trivial⟩ ?_
                                        refine WX.next ?_
                                        refine WC.cond_true rfl (ev_t rfl) ?_
                                        refine WC.seq ?_
                                        -- region 20 law.go:99
                                        refine WC.region ?_
                                        refine WL.val rfl rfl rfl rfl (r_assign rfl ev_c) ?_
                                        refine WL.nil ?_
                                        refine WX.keep [(4, _)] ⟨rfl, trivial⟩ ?_
                                        refine WX.next ?_
                                        refine WC.ret ?_
                                        refine WX.blockRet ?_
                                        refine WX.thenRet ?_
                                        refine WX.thenRet ?_
                                        refine WX.blockRet ?_
                                        refine WX.thenRet ?_
                                        refine WX.retE1 rfl rfl ?_
                                        exact ⟨rfl, hU⟩
                                    · try (exfalso; first | (simp at hb19_2; done) | (simp only [decide_eq_true_eq, decide_eq_false_iff_not, Bool.not_eq_true', Bool.not_eq_false', Bool.not_eq_true, Bool.not_eq_false] at hb19_2; omega) | omega)
                                      all_goals
                                        try simp only [decide_eq_true_eq, decide_eq_false_iff_not, Bool.not_eq_true', Bool.not_eq_false', Bool.not_eq_true, Bool.not_eq_false, Option.isNone_none, Option.isNone_some, Option.isSome_none, Option.isSome_some, ne_eq, Decidable.not_not] at hb19_2
                                        have hM0 := hM
                                        obtain ⟨A3, c3, at_, hb2, hr2, hst⟩ := hM0
                                        refine WN.calm _ rfl rfl rfl rfl rfl (fun _ => r_move rfl (ev_t rfl)) ?_
                                        refine WN.calm _ rfl rfl rfl rfl rfl (fun _ => r_move rfl (ev_t rfl)) ?_
                                        refine WN.calm _ rfl rfl rfl rfl rfl (fun _ => r_nilCheck rfl (ev_t rfl)) ?_
                                        first | refine WN.calm _ rfl rfl rfl rfl rfl (fun _ => r_field0 rfl (ev_t rfl) fld_71_1) ?_ | refine WN.calm _ rfl rfl rfl rfl rfl (fun _ => r_fieldAt rfl (ev_t rfl) fld_71_1) ?_
                                        refine WN.held _ rfl rfl rfl rfl rfl hS19 (fun w' hS => r_load rfl (ev_t rfl) flat_3 ((hb2.upd hS (fun h => h)).cell rfl)) ?_
                                        refine WN.calm _ rfl rfl rfl rfl rfl (fun _ => r_lss rfl (ev_t rfl) ev_c) ?_
                                        refine WN.step _ rfl (SO.call (bad_ok hI) rfl body_44 ⟨(ev_t rfl), trivial⟩ rfl rfl rfl rfl ?_)
                                        rintro v w31 ⟨rfl, rfl⟩
                                        refine ⟨hS19, ?_⟩
                                        refine WN.calm _ rfl rfl rfl rfl rfl (fun _ => r_neqBool rfl (ev_t rfl) (ev_t rfl) bool_4) ?_
                                        rw [hst.bad]
                                        refine WN.calm _ rfl rfl rfl rfl rfl (fun _ => r_pickF rfl (ev_t rfl) (ev_t rfl)) ?_
                                        refine WN.calm _ rfl rfl rfl rfl rfl (fun _ => r_move rfl (ev_t rfl)) ?_
                                        refine WN.cases 110 rfl (fun hb19_12 => ?_) (fun hb19_12 => ?_)
                                        · try (exfalso; first | (simp at hb19_12; done) | (simp only [decide_eq_true_eq, decide_eq_false_iff_not, Bool.not_eq_true', Bool.not_eq_false', Bool.not_eq_true, Bool.not_eq_false] at hb19_12; omega) | omega)
                                          all_goals
                                            try simp only [decide_eq_true_eq, decide_eq_false_iff_not, Bool.not_eq_true', Bool.not_eq_false', Bool.not_eq_true, Bool.not_eq_false, Option.isNone_none, Option.isNone_some, Option.isSome_none, Option.isSome_some, ne_eq, Decidable.not_not] at hb19_12
                                            refine WN.skip _ rfl rfl rfl rfl ?_
                                            refine WN.skip _ rfl rfl rfl rfl ?_
                                            refine WN.skip _ rfl rfl rfl rfl ?_
                                            refine WN.skip _ rfl rfl rfl rfl ?_
                                            refine WN.skip _ rfl rfl rfl rfl ?_
                                            refine WN.skip _ rfl rfl rfl rfl ?_
                                            refine WN.heldSkip _ rfl rfl rfl rfl hS19 ?_
                                            refine WN.skip _ rfl rfl rfl rfl ?_
                                            refine WN.step _ rfl (SO.skip rfl rfl rfl ?_)
                                            refine ⟨hS19, ?_⟩
                                            refine WN.skip _ rfl rfl rfl rfl ?_
                                            rw [hst.end]
                                            refine WN.calm _ rfl rfl rfl rfl rfl (fun _ => r_pickT rfl (ev_t rfl) ev_c) ?_
                                            refine WN.done ?_
                                            refine WX.keep [(0, _), (1, _), (5, _), (6, _), (7, _), (121, _)] ⟨rfl, rfl, rfl, rfl, rfl, rfl, trivial⟩ ?_
                                            refine WX.next ?_
                                            refine WC.cond_true rfl (ev_t rfl) ?_
                                            refine WC.seq ?_
                                            -- region 20 law.go:99
                                            refine WC.region ?_
                                            refine WL.val rfl rfl rfl rfl (r_assign rfl ev_c) ?_
                                            refine WL.nil ?_
                                            refine WX.keep [(4, _)] ⟨rfl, trivial⟩ ?_
                                            refine WX.next ?_
                                            refine WC.ret ?_
                                            refine WX.blockRet ?_
                                            refine WX.thenRet ?_
                                            refine WX.thenRet ?_
                                            refine WX.blockRet ?_
                                            refine WX.thenRet ?_
                                            refine WX.retE1 rfl rfl ?_
                                            exact ⟨rfl, hU⟩
                                        · try (exfalso; first | (simp at hb19_12; done) | (simp only [decide_eq_true_eq, decide_eq_false_iff_not, Bool.not_eq_true', Bool.not_eq_false', Bool.not_eq_true, Bool.not_eq_false] at hb19_12; omega) | omega)
                                          all_goals
                                            try simp only [decide_eq_true_eq, decide_eq_false_iff_not, Bool.not_eq_true', Bool.not_eq_false', Bool.not_eq_true, Bool.not_eq_false, Option.isNone_none, Option.isNone_some, Option.isSome_none, Option.isSome_some, ne_eq, Decidable.not_not] at hb19_12
                                            refine WN.calm _ rfl rfl rfl rfl rfl (fun _ => r_move rfl (ev_t rfl)) ?_
                                            refine WN.calm _ rfl rfl rfl rfl rfl (fun _ => r_move rfl (ev_t rfl)) ?_
                                            refine WN.calm _ rfl rfl rfl rfl rfl (fun _ => r_nilCheck rfl (ev_t rfl)) ?_
                                            first | refine WN.calm _ rfl rfl rfl rfl rfl (fun _ => r_field0 rfl (ev_t rfl) fld_71_1) ?_ | refine WN.calm _ rfl rfl rfl rfl rfl (fun _ => r_fieldAt rfl (ev_t rfl) fld_71_1) ?_
                                            refine WN.calm _ rfl rfl rfl rfl rfl (fun _ => r_move rfl (ev_t rfl)) ?_
                                            refine WN.calm _ rfl rfl rfl rfl rfl (fun _ => r_lenSlice (ts := #[]) rfl (ev_t rfl) elem_37) ?_
                                            refine WN.held _ rfl rfl rfl rfl rfl hS19 (fun w' hS => r_load rfl (ev_t rfl) flat_3 ((hb2.upd hS (fun h => h)).cell rfl)) ?_
                                            refine WN.calm _ rfl rfl rfl rfl rfl (fun _ => r_eql rfl (ev_t rfl) (ev_t rfl)) ?_
                                            refine WN.step _ rfl (SO.call (end_ok hI) rfl body_45 ⟨(ev_t rfl), trivial⟩ rfl rfl rfl rfl ?_)
                                            rintro v w32 ⟨rfl, rfl⟩
                                            refine ⟨hS19, ?_⟩
                                            refine WN.calm _ rfl rfl rfl rfl rfl (fun _ => r_neqBool rfl (ev_t rfl) (ev_t rfl) bool_4) ?_
                                            rw [hst.end]
                                            refine WN.calm _ rfl rfl rfl rfl rfl (fun _ => r_pickF rfl (ev_t rfl) (ev_t rfl)) ?_
                                            refine WN.done ?_
                                            refine WX.keep [(0, _), (1, _), (5, _), (6, _), (7, _), (121, _)] ⟨rfl, rfl, rfl, rfl, rfl, rfl, trivial⟩ ?_
                                            refine WX.next ?_
                                            refine WC.cond rfl (ev_t rfl) (fun hc19 => ?_) (fun hc19 => ?_)
                                            · try (exfalso; first | (simp at hc19; done) | (simp only [decide_eq_true_eq, decide_eq_false_iff_not, Bool.not_eq_true', Bool.not_eq_false', Bool.not_eq_true, Bool.not_eq_false] at hc19; omega) | omega)
                                              all_goals
                                                try simp only [decide_eq_true_eq, decide_eq_false_iff_not, Bool.not_eq_true', Bool.not_eq_false', Bool.not_eq_true, Bool.not_eq_false, Option.isNone_none, Option.isNone_some, Option.isSome_none, Option.isSome_some, ne_eq, Decidable.not_not] at hc19
                                                refine WC.seq ?_
                                                -- region 20 law.go:99
                                                refine WC.region ?_
                                                refine WL.val rfl rfl rfl rfl (r_assign rfl ev_c) ?_
                                                refine WL.nil ?_
                                                refine WX.keep [(4, _)] ⟨rfl, trivial⟩ ?_
                                                refine WX.next ?_
                                                refine WC.ret ?_
                                                refine WX.blockRet ?_
                                                refine WX.thenRet ?_
                                                refine WX.thenRet ?_
                                                refine WX.blockRet ?_
                                                refine WX.thenRet ?_
                                                refine WX.retE1 rfl rfl ?_
                                                exact ⟨rfl, hU⟩
                                            · try (exfalso; first | (simp at hc19; done) | (simp only [decide_eq_true_eq, decide_eq_false_iff_not, Bool.not_eq_true', Bool.not_eq_false', Bool.not_eq_true, Bool.not_eq_false] at hc19; omega) | omega)
                                              all_goals
                                                try simp only [decide_eq_true_eq, decide_eq_false_iff_not, Bool.not_eq_true', Bool.not_eq_false', Bool.not_eq_true, Bool.not_eq_false, Option.isNone_none, Option.isNone_some, Option.isSome_none, Option.isSome_some, ne_eq, Decidable.not_not] at hc19
                                                refine WC.skip ?_
                                                refine WX.blockNormal ?_
                                                refine WX.next ?_
                                                -- region 7 law.go:84
                                                refine WC.region ?_
                                                refine WL.val rfl rfl rfl rfl (r_move rfl (ev_t rfl)) ?_
                                                first | refine WL.val rfl rfl rfl rfl (r_addN rfl (ev_t rfl) ev_c (by simp only [inK]; omega)) ?_ | refine WL.val rfl rfl rfl rfl (r_add rfl (ev_t rfl) ev_c) ?_
                                                refine WL.val rfl rfl rfl rfl (r_assign rfl (ev_t rfl)) ?_
                                                refine WL.nil ?_
                                                refine WX.keep [(0, _), (1, _), (5, _), (6, _), (7, _)] ⟨rfl, rfl, rfl, rfl, rfl, trivial⟩ ?_
                                                refine WX.meet [(0, _), (1, _), (5, _), (6, _), (7, _)] ⟨rfl, rfl, rfl, rfl, rfl, trivial⟩ ?_
                                                exact ⟨50 - (i + 1), by omega, i + 1, s1, by omega, rfl, hU, by omega, hI, hM, hr1, ha, rfl⟩
                            · try (exfalso; first | (simp at hc17; done) | (simp only [decide_eq_true_eq, decide_eq_false_iff_not, Bool.not_eq_true', Bool.not_eq_false', Bool.not_eq_true, Bool.not_eq_false] at hc17; omega) | omega)
                              all_goals
                                try simp only [decide_eq_true_eq, decide_eq_false_iff_not, Bool.not_eq_true', Bool.not_eq_false', Bool.not_eq_true, Bool.not_eq_false, Option.isNone_none, Option.isNone_some, Option.isSome_none, Option.isSome_some, ne_eq, Decidable.not_not] at hc17
                                -- region 10 law.go:96 DRAWS
                                refine WC.draws' (fun u0_ u1_ => Upd (From w.heap.size) u0_ u1_) (fun j => [0, 0, 0, 0, 0, 0, 1, 0, 0, 0, 0, 0, 0, 2, 2, 0, 0].getD j 0) (.calm 0 (.calm 1 (.calm 2 (.calm 3 (.calm 4 (.calm 7 (.calm 8 (.calm 9 (.calm 10 (.calm 11 (.held 5 (.held 12 (.one 6 (.one 13 (.one 14 (.calm 15 (.calm 16 (.done)))))))))))))))))) mixed (by kernel_rfl) (by repeat (first | with_reducible exact Deaf.body | with_reducible apply Deaf.then | with_reducible apply Deaf.block)) ?_
                                intro w33 hu33
                                have hz33 := congrArg Array.size hu33.2.2.2
                                replace hu33 := Upd.of_draw hu33
                                have hs33 := hu33.size
                                replace hU := hU.trans hu33 (by first | exact (fun _ _ h => h) | exact (fun _ _ h => h.elim) | (intro k hl hk; (try simp only [At, New, Grow, From, No] at hk ⊢); omega))
                                replace hr1 := hr1.upd hu33 (by first | exact (fun _ _ _ h => h) | (intro k hk hl hS; have : k < w.heap.size := hk; simp only [At, New, Grow, From, No] at hS; omega))
                                replace ha := ha.upd hu33 (by first | exact (fun _ _ _ h => h) | (intro k hk hl hS; have : k < w.heap.size := hk; simp only [At, New, Grow, From, No] at hS; omega))
                                replace hI := hI.upd hu33 (by first | exact (fun h => h) | (simp only [At, New, Grow, From, No]; omega)) (by first | exact (fun _ _ _ h => h) | (intro k hk hl hS; have : k < w.heap.size := hk; simp only [At, New, Grow, From, No] at hS; omega))
                                replace hM := hM.upd hu33 (by first | exact (fun h => h) | (simp only [At, New, Grow, From, No]; omega)) (by first | exact (fun _ _ _ h => h) | (intro k hk hl hS; have : k < w.heap.size := hk; simp only [At, New, Grow, From, No] at hS; omega))
                                have hS10 := Upd.refl (From w.heap.size) w33
                                refine WN.calm _ rfl rfl rfl rfl rfl (fun _ => r_move rfl (ev_t rfl)) ?_
                                refine WN.calm _ rfl rfl rfl rfl rfl (fun _ => r_move rfl (ev_t rfl)) ?_
                                refine WN.calm _ rfl rfl rfl rfl rfl (fun _ => r_move rfl (ev_t rfl)) ?_
                                refine WN.calm _ rfl rfl rfl rfl rfl (fun _ => r_indexAddr rfl (ev_t rfl) (ev_t rfl) elem_66 size_73 (by omega) (by omega)) ?_
                                first | refine WN.calm _ rfl rfl rfl rfl rfl (fun _ => r_field0 rfl (ev_t rfl) fld_73_1) ?_ | refine WN.calm _ rfl rfl rfl rfl rfl (fun _ => r_fieldAt rfl (ev_t rfl) fld_73_1) ?_
                                refine WN.calm _ rfl rfl rfl rfl rfl (fun _ => r_move rfl (ev_t rfl)) ?_
                                refine WN.calm _ rfl rfl rfl rfl rfl (fun _ => r_move rfl (ev_t rfl)) ?_
                                refine WN.calm _ rfl rfl rfl rfl rfl (fun _ => r_move rfl (ev_t rfl)) ?_
                                refine WN.calm _ rfl rfl rfl rfl rfl (fun _ => r_indexAddr rfl (ev_t rfl) (ev_t rfl) elem_66 size_73 (by omega) (by omega)) ?_
                                first | refine WN.calm _ rfl rfl rfl rfl rfl (fun _ => r_field0 rfl (ev_t rfl) fld_73_1) ?_ | refine WN.calm _ rfl rfl rfl rfl rfl (fun _ => r_fieldAt rfl (ev_t rfl) fld_73_1) ?_
                                refine WN.held _ rfl rfl rfl rfl rfl hS10 (fun w' hS => r_load rfl (ev_t rfl) flat_3 ((ha.upd hS (fun k hk hl hS' => by have : k < w.heap.size := hk; simp only [From] at hS'; omega)).cell (j := i * 2 + 1) (by omega) hz)) ?_
                                refine WN.held _ rfl rfl rfl rfl rfl hS10 (fun w' hS => r_load rfl (ev_t rfl) flat_3 ((ha.upd hS (fun k hk hl hS' => by have : k < w.heap.size := hk; simp only [From] at hS'; omega)).cell (j := i * 2 + 1) (by omega) hz)) ?_
                                refine WN.step _ rfl (SO.call (text_ok (l := (bytesR (Z i) s).1) (s' := (bytesR (Z i) s).2) hI hFg1 hzi rfl) rfl body_43 ⟨(ev_t rfl), (ev_t rfl), trivial⟩ rfl rfl rfl rfl ?_)
                                rintro v w34 ⟨rfl, hI, hu34, hlen⟩
                                have hs34 := hu34.size
                                replace hS10 := Upd.trans_same hS10 (Upd.mono hu34 (by first | exact (fun _ _ h => h) | exact (fun _ _ h => h.elim) | (intro k _ hk; (try simp only [At, New, Grow, From, No] at hk ⊢); omega)))
                                replace hU := hU.trans hu34 (by first | exact (fun _ _ h => h) | exact (fun _ _ h => h.elim) | (intro k hl hk; (try simp only [At, New, Grow, From, No] at hk ⊢); omega))
                                replace hr1 := hr1.upd hu34 (by first | exact (fun _ _ _ h => h) | (intro k hk hl hS; have : k < w.heap.size := hk; simp only [At, New, Grow, From, No] at hS; omega))
                                replace ha := ha.upd hu34 (by first | exact (fun _ _ _ h => h) | (intro k hk hl hS; have : k < w.heap.size := hk; simp only [At, New, Grow, From, No] at hS; omega))
                                replace hM := hM.upd hu34 (by first | exact (fun h => h) | (simp only [At, New, Grow, From, No]; omega)) (by first | exact (fun _ _ _ h => h) | (intro k hk hl hS; have : k < w.heap.size := hk; simp only [At, New, Grow, From, No] at hS; omega))
                                refine ⟨hS10, ?_⟩
                                refine WN.step _ rfl (SO.call (mBytes_ok (l := (bytesR (Z i) s).1) (s' := (bytesR (Z i) s).2) hM hFg2 hzi rfl) rfl body_42 ⟨(ev_t rfl), (ev_t rfl), trivial⟩ rfl rfl rfl rfl ?_)
                                rintro v2 w35 ⟨hrm, hM, hu35⟩
                                have hs35 := hu35.size
                                try replace hS10 := Upd.trans_same hS10 (Upd.mono hu35 (by first | exact (fun _ _ h => h) | exact (fun _ _ h => h.elim) | (intro k _ hk; (try simp only [At, New, Grow, From, No] at hk ⊢); omega)))
                                replace hU := hU.trans hu35 (by first | exact (fun _ _ h => h) | exact (fun _ _ h => h.elim) | (intro k hl hk; (try simp only [At, New, Grow, From, No] at hk ⊢); omega))
                                replace hr1 := hr1.upd hu35 (by first | exact (fun _ _ _ h => h) | (intro k hk hl hS; have : k < w.heap.size := hk; simp only [At, New, Grow, From, No] at hS; omega))
                                replace ha := ha.upd hu35 (by first | exact (fun _ _ _ h => h) | (intro k hk hl hS; have : k < w.heap.size := hk; simp only [At, New, Grow, From, No] at hS; omega))
                                replace hI := hI.upd hu35 (by first | exact (fun h => h) | (simp only [At, New, Grow, From, No]; omega)) (by first | exact (fun _ _ _ h => h) | (intro k hk hl hS; have : k < w.heap.size := hk; simp only [At, New, Grow, From, No] at hS; omega))
                                obtain ⟨s1, hs1⟩ : ∃ s1, (bytesR (Z i) s).2 = s1 := ⟨_, rfl⟩
                                rw [hs1] at hI hM
                                refine ⟨trivial, ?_⟩
                                refine WN.step _ rfl (SO.val rfl rfl rfl rfl (r_toStr rfl (ev_t rfl) hrm elem_37 int_5 str_9) ?_)
                                refine ⟨trivial, ?_⟩
                                refine WN.calm _ rfl rfl rfl rfl rfl (fun _ => r_eqlStr rfl (ev_t rfl) (ev_t rfl)) ?_
                                refine WN.calm _ rfl rfl rfl rfl rfl (fun _ => r_assign rfl (ev_t rfl)) ?_
                                refine WN.done ?_
                                refine WX.keep [(0, _), (1, _), (5, _), (6, _), (7, _), (8, _)] ⟨rfl, rfl, rfl, rfl, rfl, rfl, trivial⟩ ?_
                                refine WX.blockNormal ?_
                                refine WX.next ?_
                                refine WC.seq ?_
                                -- region 19 law.go:98 DRAWS
                                refine WC.draws' (fun u0_ u1_ => Upd No u0_ u1_) (fun j => [0, 0, 0, 0, 1, 0, 0, 0, 0, 0, 0, 0, 0, 0, 1, 0, 0, 0, 0, 0, 0, 0, 0, 0].getD j 0) (.calm 0 (.calm 1 (.calm 2 (.calm 3 (.calm 5 (.calm 6 (.calm 7 (.held 8 (.calm 9 (.one 4 (.calm 10 (.calm 11 (.calm 12 (.calm 13 (.calm 15 (.calm 16 (.calm 17 (.calm 19 (.calm 20 (.held 18 (.calm 21 (.one 14 (.calm 22 (.calm 23 (.done))))))))))))))))))))))))) mixed (by kernel_rfl) (by repeat (first | with_reducible exact Deaf.body | with_reducible apply Deaf.then | with_reducible apply Deaf.block)) ?_
                                intro w36 hu36
                                have hz36 := congrArg Array.size hu36.2.2.2
                                replace hu36 := Upd.of_draw hu36
                                have hs36 := hu36.size
                                replace hU := hU.trans hu36 (by first | exact (fun _ _ h => h) | exact (fun _ _ h => h.elim) | (intro k hl hk; (try simp only [At, New, Grow, From, No] at hk ⊢); omega))
                                replace hr1 := hr1.upd hu36 (by first | exact (fun _ _ _ h => h) | (intro k hk hl hS; have : k < w.heap.size := hk; simp only [At, New, Grow, From, No] at hS; omega))
                                replace ha := ha.upd hu36 (by first | exact (fun _ _ _ h => h) | (intro k hk hl hS; have : k < w.heap.size := hk; simp only [At, New, Grow, From, No] at hS; omega))
                                replace hI := hI.upd hu36 (by first | exact (fun h => h) | (simp only [At, New, Grow, From, No]; omega)) (by first | exact (fun _ _ _ h => h) | (intro k hk hl hS; have : k < w.heap.size := hk; simp only [At, New, Grow, From, No] at hS; omega))
                                replace hM := hM.upd hu36 (by first | exact (fun h => h) | (simp only [At, New, Grow, From, No]; omega)) (by first | exact (fun _ _ _ h => h) | (intro k hk hl hS; have : k < w.heap.size := hk; simp only [At, New, Grow, From, No] at hS; omega))
                                have hS19 := Upd.refl No w36
                                refine WN.calm _ rfl rfl rfl rfl rfl (fun _ => r_move rfl (ev_t rfl)) ?_
                                refine WN.calm _ rfl rfl rfl rfl rfl (fun _ => r_not rfl (ev_t rfl)) ?_
                                refine WN.calm _ rfl rfl rfl rfl rfl (fun _ => r_move rfl (ev_t rfl)) ?_
                                refine WN.cases 100 rfl (fun hb19_2 => ?_) (fun hb19_2 => ?_)
                                · try (exfalso; first | (simp at hb19_2; done) | (simp only [decide_eq_true_eq, decide_eq_false_iff_not, Bool.not_eq_true', Bool.not_eq_false', Bool.not_eq_true, Bool.not_eq_false] at hb19_2; omega) | omega)
                                  all_goals
                                    try simp only [decide_eq_true_eq, decide_eq_false_iff_not, Bool.not_eq_true', Bool.not_eq_false', Bool.not_eq_true, Bool.not_eq_false, Option.isNone_none, Option.isNone_some, Option.isSome_none, Option.isSome_some, ne_eq, Decidable.not_not] at hb19_2
                                    refine WN.skip _ rfl rfl rfl rfl ?_
                                    refine WN.skip _ rfl rfl rfl rfl ?_
                                    refine WN.skip _ rfl rfl rfl rfl ?_
                                    refine WN.skip _ rfl rfl rfl rfl ?_
                                    refine WN.heldSkip _ rfl rfl rfl rfl hS19 ?_
                                    refine WN.skip _ rfl rfl rfl rfl ?_
                                    refine WN.step _ rfl (SO.skip rfl rfl rfl ?_)
                                    refine ⟨hS19, ?_⟩
                                    refine WN.skip _ rfl rfl rfl rfl ?_
                                    rw [hst.bad]
                                    refine WN.calm _ rfl rfl rfl rfl rfl (fun _ => r_pickT rfl (ev_t rfl) ev_c) ?_
                                    refine WN.calm _ rfl rfl rfl rfl rfl (fun _ => r_move rfl (ev_t rfl)) ?_
                                    refine WN.skip _ rfl rfl rfl rfl ?_
                                    refine WN.skip _ rfl rfl rfl rfl ?_
                                    refine WN.skip _ rfl rfl rfl rfl ?_
                                    refine WN.skip _ rfl rfl rfl rfl ?_
                                    refine WN.skip _ rfl rfl rfl rfl ?_
                                    refine WN.skip _ rfl rfl rfl rfl ?_
                                    refine WN.heldSkip _ rfl rfl rfl rfl hS19 ?_
                                    refine WN.skip _ rfl rfl rfl rfl ?_
                                    refine WN.step _ rfl (SO.skip rfl rfl rfl ?_)
                                    refine ⟨hS19, ?_⟩
                                    refine WN.skip _ rfl rfl rfl rfl ?_
                                    rw [hst.end]
                                    refine WN.calm _ rfl rfl rfl rfl rfl (fun _ => r_pickT rfl (ev_t rfl) ev_c) ?_
                                    refine WN.done ?_
                                    refine WX.keep [(0, _), (1, _), (5, _), (6, _), (7, _), (121, _)] ⟨rfl, rfl, rfl, rfl, rfl, rfl, trivial⟩ ?_
                                    refine WX.next ?_
                                    refine WC.cond_true rfl (ev_t rfl) ?_
                                    refine WC.seq ?_
                                    -- region 20 law.go:99
                                    refine WC.region ?_
                                    refine WL.val rfl rfl rfl rfl (r_assign rfl ev_c) ?_
                                    refine WL.nil ?_
                                    refine WX.keep [(4, _)] ⟨rfl, trivial⟩ ?_
                                    refine WX.next ?_
                                    refine WC.ret ?_
                                    refine WX.blockRet ?_
                                    refine WX.thenRet ?_
                                    refine WX.thenRet ?_
                                    refine WX.blockRet ?_
                                    refine WX.thenRet ?_
                                    refine WX.retE1 rfl rfl ?_
                                    exact ⟨rfl, hU⟩
                                · try (exfalso; first | (simp at hb19_2; done) | (simp only [decide_eq_true_eq, decide_eq_false_iff_not, Bool.not_eq_true', Bool.not_eq_false', Bool.not_eq_true, Bool.not_eq_false] at hb19_2; omega) | omega)
                                  all_goals
                                    try simp only [decide_eq_true_eq, decide_eq_false_iff_not, Bool.not_eq_true', Bool.not_eq_false', Bool.not_eq_true, Bool.not_eq_false, Option.isNone_none, Option.isNone_some, Option.isSome_none, Option.isSome_some, ne_eq, Decidable.not_not] at hb19_2
                                    have hM0 := hM
                                    obtain ⟨A3, c3, at_, hb2, hr2, hst⟩ := hM0
                                    refine WN.calm _ rfl rfl rfl rfl rfl (fun _ => r_move rfl (ev_t rfl)) ?_
                                    refine WN.calm _ rfl rfl rfl rfl rfl (fun _ => r_move rfl (ev_t rfl)) ?_
                                    refine WN.calm _ rfl rfl rfl rfl rfl (fun _ => r_nilCheck rfl (ev_t rfl)) ?_
                                    first | refine WN.calm _ rfl rfl rfl rfl rfl (fun _ => r_field0 rfl (ev_t rfl) fld_71_1) ?_ | refine WN.calm _ rfl rfl rfl rfl rfl (fun _ => r_fieldAt rfl (ev_t rfl) fld_71_1) ?_
                                    refine WN.held _ rfl rfl rfl rfl rfl hS19 (fun w' hS => r_load rfl (ev_t rfl) flat_3 ((hb2.upd hS (fun h => h)).cell rfl)) ?_
                                    refine WN.calm _ rfl rfl rfl rfl rfl (fun _ => r_lss rfl (ev_t rfl) ev_c) ?_
                                    refine WN.step _ rfl (SO.call (bad_ok hI) rfl body_44 ⟨(ev_t rfl), trivial⟩ rfl rfl rfl rfl ?_)
                                    rintro v w37 ⟨rfl, rfl⟩
                                    refine ⟨hS19, ?_⟩
                                    refine WN.calm _ rfl rfl rfl rfl rfl (fun _ => r_neqBool rfl (ev_t rfl) (ev_t rfl) bool_4) ?_
                                    rw [hst.bad]
                                    refine WN.calm _ rfl rfl rfl rfl rfl (fun _ => r_pickF rfl (ev_t rfl) (ev_t rfl)) ?_
                                    refine WN.calm _ rfl rfl rfl rfl rfl (fun _ => r_move rfl (ev_t rfl)) ?_
                                    refine WN.cases 110 rfl (fun hb19_12 => ?_) (fun hb19_12 => ?_)
                                    · try (exfalso; first | (simp at hb19_12; done) | (simp only [decide_eq_true_eq, decide_eq_false_iff_not, Bool.not_eq_true', Bool.not_eq_false', Bool.not_eq_true, Bool.not_eq_false] at hb19_12; omega) | omega)
                                      all_goals
                                        try simp only [decide_eq_true_eq, decide_eq_false_iff_not, Bool.not_eq_true', Bool.not_eq_false', Bool.not_eq_true, Bool.not_eq_false, Option.isNone_none, Option.isNone_some, Option.isSome_none, Option.isSome_some, ne_eq, Decidable.not_not] at hb19_12
                                        refine WN.skip _ rfl rfl rfl rfl ?_
                                        refine WN.skip _ rfl rfl rfl rfl ?_
                                        refine WN.skip _ rfl rfl rfl rfl ?_
                                        refine WN.skip _ rfl rfl rfl rfl ?_
                                        refine WN.skip _ rfl rfl rfl rfl ?_
                                        refine WN.skip _ rfl rfl rfl rfl ?_
                                        refine WN.heldSkip _ rfl rfl rfl rfl hS19 ?_
                                        refine WN.skip _ rfl rfl rfl rfl ?_
                                        refine WN.step _ rfl (SO.skip rfl rfl rfl ?_)
                                        refine ⟨hS19, ?_⟩
                                        refine WN.skip _ rfl rfl rfl rfl ?_
                                        rw [hst.end]
                                        refine WN.calm _ rfl rfl rfl rfl rfl (fun _ => r_pickT rfl (ev_t rfl) ev_c) ?_
                                        refine WN.done ?_
                                        refine WX.keep [(0, _), (1, _), (5, _), (6, _), (7, _), (121, _)] ⟨rfl, rfl, rfl, rfl, rfl, rfl, trivial⟩ ?_
                                        refine WX.next ?_
                                        refine WC.cond_true rfl (ev_t rfl) ?_
                                        refine WC.seq ?_
                                        -- region 20 law.go:99
                                        refine WC.region ?_
                                        refine WL.val rfl rfl rfl rfl (r_assign rfl ev_c) ?_
                                        refine WL.nil ?_
                                        refine WX.keep [(4, _)] ⟨rfl, trivial⟩ ?_
                                        refine WX.next ?_
                                        refine WC.ret ?_
                                        refine WX.blockRet ?_
                                        refine WX.thenRet ?_
                                        refine WX.thenRet ?_
                                        refine WX.blockRet ?_
                                        refine WX.thenRet ?_
                                        refine WX.retE1 rfl rfl ?_
                                        exact ⟨rfl, hU⟩
                                    · try (exfalso; first | (simp at hb19_12; done) | (simp only [decide_eq_true_eq, decide_eq_false_iff_not, Bool.not_eq_true', Bool.not_eq_false', Bool.not_eq_true, Bool.not_eq_false] at hb19_12; omega) | omega)
                                      all_goals
                                        try simp only [decide_eq_true_eq, decide_eq_false_iff_not, Bool.not_eq_true', Bool.not_eq_false', Bool.not_eq_true, Bool.not_eq_false, Option.isNone_none, Option.isNone_some, Option.isSome_none, Option.isSome_some, ne_eq, Decidable.not_not] at hb19_12
                                        refine WN.calm _ rfl rfl rfl rfl rfl (fun _ => r_move rfl (ev_t rfl)) ?_
                                        refine WN.calm _ rfl rfl rfl rfl rfl (fun _ => r_move rfl (ev_t rfl)) ?_
                                        refine WN.calm _ rfl rfl rfl rfl rfl (fun _ => r_nilCheck rfl (ev_t rfl)) ?_
                                        first | refine WN.calm _ rfl rfl rfl rfl rfl (fun _ => r_field0 rfl (ev_t rfl) fld_71_1) ?_ | refine WN.calm _ rfl rfl rfl rfl rfl (fun _ => r_fieldAt rfl (ev_t rfl) fld_71_1) ?_
                                        refine WN.calm _ rfl rfl rfl rfl rfl (fun _ => r_move rfl (ev_t rfl)) ?_
                                        refine WN.calm _ rfl rfl rfl rfl rfl (fun _ => r_lenSlice (ts := #[]) rfl (ev_t rfl) elem_37) ?_
                                        refine WN.held _ rfl rfl rfl rfl rfl hS19 (fun w' hS => r_load rfl (ev_t rfl) flat_3 ((hb2.upd hS (fun h => h)).cell rfl)) ?_
                                        refine WN.calm _ rfl rfl rfl rfl rfl (fun _ => r_eql rfl (ev_t rfl) (ev_t rfl)) ?_
                                        refine WN.step _ rfl (SO.call (end_ok hI) rfl body_45 ⟨(ev_t rfl), trivial⟩ rfl rfl rfl rfl ?_)
                                        rintro v w38 ⟨rfl, rfl⟩
                                        refine ⟨hS19, ?_⟩
                                        refine WN.calm _ rfl rfl rfl rfl rfl (fun _ => r_neqBool rfl (ev_t rfl) (ev_t rfl) bool_4) ?_
                                        rw [hst.end]
                                        refine WN.calm _ rfl rfl rfl rfl rfl (fun _ => r_pickF rfl (ev_t rfl) (ev_t rfl)) ?_
                                        refine WN.done ?_
                                        refine WX.keep [(0, _), (1, _), (5, _), (6, _), (7, _), (121, _)] ⟨rfl, rfl, rfl, rfl, rfl, rfl, trivial⟩ ?_
                                        refine WX.next ?_
                                        refine WC.cond rfl (ev_t rfl) (fun hc19 => ?_) (fun hc19 => ?_)
                                        · try (exfalso; first | (simp at hc19; done) | (simp only [decide_eq_true_eq, decide_eq_false_iff_not, Bool.not_eq_true', Bool.not_eq_false', Bool.not_eq_true, Bool.not_eq_false] at hc19; omega) | omega)
                                          all_goals
                                            try simp only [decide_eq_true_eq, decide_eq_false_iff_not, Bool.not_eq_true', Bool.not_eq_false', Bool.not_eq_true, Bool.not_eq_false, Option.isNone_none, Option.isNone_some, Option.isSome_none, Option.isSome_some, ne_eq, Decidable.not_not] at hc19
                                            refine WC.seq ?_
                                            -- region 20 law.go:99
                                            refine WC.region ?_
                                            refine WL.val rfl rfl rfl rfl (r_assign rfl ev_c) ?_
                                            refine WL.nil ?_
                                            refine WX.keep [(4, _)] ⟨rfl, trivial⟩ ?_
                                            refine WX.next ?_
                                            refine WC.ret ?_
                                            refine WX.blockRet ?_
                                            refine WX.thenRet ?_
                                            refine WX.thenRet ?_
                                            refine WX.blockRet ?_
                                            refine WX.thenRet ?_
                                            refine WX.retE1 rfl rfl ?_
                                            exact ⟨rfl, hU⟩
                                        · try (exfalso; first | (simp at hc19; done) | (simp only [decide_eq_true_eq, decide_eq_false_iff_not, Bool.not_eq_true', Bool.not_eq_false', Bool.not_eq_true, Bool.not_eq_false] at hc19; omega) | omega)
                                          all_goals
                                            try simp only [decide_eq_true_eq, decide_eq_false_iff_not, Bool.not_eq_true', Bool.not_eq_false', Bool.not_eq_true, Bool.not_eq_false, Option.isNone_none, Option.isNone_some, Option.isSome_none, Option.isSome_some, ne_eq, Decidable.not_not] at hc19
                                            refine WC.skip ?_
                                            refine WX.blockNormal ?_
                                            refine WX.next ?_
                                            -- region 7 law.go:84
                                            refine WC.region ?_
                                            refine WL.val rfl rfl rfl rfl (r_move rfl (ev_t rfl)) ?_
                                            first | refine WL.val rfl rfl rfl rfl (r_addN rfl (ev_t rfl) ev_c (by simp only [inK]; omega)) ?_ | refine WL.val rfl rfl rfl rfl (r_add rfl (ev_t rfl) ev_c) ?_
                                            refine WL.val rfl rfl rfl rfl (r_assign rfl (ev_t rfl)) ?_
                                            refine WL.nil ?_
                                            refine WX.keep [(0, _), (1, _), (5, _), (6, _), (7, _)] ⟨rfl, rfl, rfl, rfl, rfl, trivial⟩ ?_
                                            refine WX.meet [(0, _), (1, _), (5, _), (6, _), (7, _)] ⟨rfl, rfl, rfl, rfl, rfl, trivial⟩ ?_
                                            exact ⟨50 - (i + 1), by omega, i + 1, s1, by omega, rfl, hU, by omega, hI, hM, hr1, ha, rfl⟩
            · try (exfalso; first | (simp at hc6; done) | (simp only [decide_eq_true_eq, decide_eq_false_iff_not, Bool.not_eq_true', Bool.not_eq_false', Bool.not_eq_true, Bool.not_eq_false] at hc6; omega) | omega)
              all_goals
                try simp only [decide_eq_true_eq, decide_eq_false_iff_not, Bool.not_eq_true', Bool.not_eq_false', Bool.not_eq_true, Bool.not_eq_false, Option.isNone_none, Option.isNone_some, Option.isSome_none, Option.isSome_some, ne_eq, Decidable.not_not] at hc6
                refine WC.exit ?_
                refine WX.thenExit ?_
                refine WX.thenExit ?_
                refine WX.blockHere ?_
                refine WX.next ?_
                refine WC.seq ?_
                -- region 21 law.go:102
                refine WC.region ?_
                refine WL.val rfl rfl rfl rfl (r_assign rfl ev_c) ?_
                refine WL.nil ?_
                refine WX.keep [(4, _)] ⟨rfl, trivial⟩ ?_
                refine WX.next ?_
                refine WC.ret ?_
                refine WX.retE1 rfl rfl ?_
                exact ⟨rfl, hU⟩
        · try (exfalso; first | (simp at hb6_4; done) | (simp only [decide_eq_true_eq, decide_eq_false_iff_not, Bool.not_eq_true', Bool.not_eq_false', Bool.not_eq_true, Bool.not_eq_false] at hb6_4; omega) | omega)
          all_goals
            try simp only [decide_eq_true_eq, decide_eq_false_iff_not, Bool.not_eq_true', Bool.not_eq_false', Bool.not_eq_true, Bool.not_eq_false, Option.isNone_none, Option.isNone_some, Option.isSome_none, Option.isSome_some, ne_eq, Decidable.not_not] at hb6_4
            refine WL.skip rfl rfl rfl ?_
            refine WL.skip rfl rfl rfl ?_
            refine WL.val rfl rfl rfl rfl (r_pickF rfl (ev_t rfl) ev_c) ?_
            refine WL.nil ?_
            refine WX.keep [(0, _), (1, _), (5, _), (6, _), (7, _), (23, _)] ⟨rfl, rfl, rfl, rfl, rfl, rfl, trivial⟩ ?_
            refine WX.next ?_
            refine WC.cond_false rfl (ev_t rfl) ?_
            refine WC.exit ?_
            refine WX.thenExit ?_
            refine WX.thenExit ?_
            refine WX.blockHere ?_
            refine WX.next ?_
            refine WC.seq ?_
            -- region 21 law.go:102
            refine WC.region ?_
            refine WL.val rfl rfl rfl rfl (r_assign rfl ev_c) ?_
            refine WL.nil ?_
            refine WX.keep [(4, _)] ⟨rfl, trivial⟩ ?_
            refine WX.next ?_
            refine WC.ret ?_
            refine WX.retE1 rfl rfl ?_
            exact ⟨rfl, hU⟩
end Go.Proofs.Ytjiafgnibhgfbaa
