/-
  law 06: TypesOpen.
-/
import Derived.Test.YtncakfcafkfmfaaTyye
import Derived.Test.YtncakfcafkfmfaaTyl
import Derived.Test.YtncakfcafkfmfaaTyN
import Derived.Test.YtncakfcafkfmfaaTyZ
namespace Go.Proofs.Ytncakfcafkfmfaa
open Go
set_option linter.unusedSimpArgs false
set_option linter.unusedVariables false

def bigO : Nat → Nat
  | 0 => 1
  | d + 1 => 1 + 5 * bigO d
theorem sumO_le {l : List Nat} {b : Nat} (h : ∀ x ∈ l, x ≤ b) : l.sum ≤ l.length * b := by
  induction l with
  | nil => simp
  | cons a l ih =>
    have h1 := h a (by simp)
    have h2 := ih fun x hx => h x (List.mem_cons_of_mem _ hx)
    rw [List.sum_cons, List.length_cons, Nat.succ_mul]
    omega
theorem clean_szO : ∀ {d : Nat} {t : Tr}, smallR d t = true → sz (cleanR d t) ≤ bigO d
  | 0, t, h => by simp [smallR] at h
  | d + 1, .mk n v ks, h => by
    simp only [smallR, Bool.and_eq_true, decide_eq_true_eq] at h
    obtain ⟨⟨h1, h2⟩, h3⟩ := h
    simp only [cleanR]
    by_cases hn : n = []
    · simp only [hn, dif_pos, sz_v, bigO]; omega
    · simp only [hn, dif_neg, not_false_eq_true, sz_c, bigO, List.map_map]
      have := sumO_le (l := ks.map (sz ∘ cleanR d)) (b := bigO d) (fun x hx => by
        obtain ⟨k, hk, rfl⟩ := List.mem_map.1 hx
        exact clean_szO (List.all_eq_true.1 h3 k hk))
      rw [List.length_map] at this
      have h5 : ks.length * bigO d ≤ 5 * bigO d := Nat.mul_le_mul_right _ h1
      omega

set_option maxHeartbeats 8000000 in
theorem typesOpen.walk {w : World} {a1 a2 a3 : Value} {ta : Tr} {n : Int} (hta : TR w (fun k => k < w.heap.size) (a1, a2, a3) ta) (hm : (Lit.int .u8 n).wf = true) :
    Ret Try.prog 9 #[.agg #[a1, a2, a3], .int .u8 n] w fun v w' => v = .bool true ∧ Upd No w w' := by
  have hm' : 0 ≤ n ∧ n ≤ 255 := by simpa [Lit.wf, IntKind.min, IntKind.max, IntKind.signed, IntKind.bits] using hm
  obtain ⟨B0, hB0⟩ : ∃ B0, B0 = w.heap.size := ⟨_, rfl⟩
  rw [← hB0] at hta
  refine enterRet (vs := [_, _]) (N := 104) Try.func9 rfl rfl rfl ?_
  have hU := Upd.refl No w
  refine WC.keep [(0, _), (1, _)] ⟨rfl, rfl, trivial⟩ ?_
  refine WC.seq ?_
  refine WC.region ?_
  refine WL.cons (SO.alloc rfl rfl rfl rfl (r_boxAgg rfl (ev_t rfl)) ?_)
  intro w1 hu1 hB1 hz1
  have hs1 := hu1.size
  replace hU := hU.trans hu1 (by first | exact (fun _ _ h => h) | exact (fun _ _ h => h.elim) | (intro k hl hk; (try simp only [At, New, Grow, From, No] at hk ⊢); omega) | (intro k hl hk; simp only [At] at hk; omega))
  replace hta := hta.upd hu1 (fun k hk hl hS => by first | exact (show False from hS).elim | (simp only [At, New] at hk hS; omega) | (simp only [At] at hS; omega) | (have := hMut k hS; omega))
  refine WL.val rfl rfl rfl rfl (r_assign rfl ev_c) ?_
  refine WL.nil ?_
  refine WX.keep [(1, _), (2, _)] ⟨rfl, rfl, trivial⟩ ?_
  refine WX.next ?_
  refine WC.seq ?_
  refine WC.seq ?_
  refine WC.region ?_
  refine WL.val rfl rfl rfl rfl (r_loadAgg (vs := [_, _, _]) rfl (ev_t rfl) agg_28 size_28 (Blk.cellsL hB1)) ?_
  refine WL.cons (SO.call (small_ok 5 _ _ _ _ _ ta hta (by omega)) rfl body_14 ⟨(ev_t rfl), ev_c, trivial⟩ rfl rfl rfl rfl ?_)
  rintro v w2 ⟨rfl, hu2⟩
  have hs2 := hu2.size
  replace hU := hU.trans hu2 (by first | exact (fun _ _ h => h) | exact (fun _ _ h => h.elim) | (intro k hl hk; (try simp only [At, New, Grow, From, No] at hk ⊢); omega) | (intro k hl hk; simp only [At] at hk; omega))
  replace hta := hta.upd hu2 (fun k hk hl hS => by first | exact (show False from hS).elim | (simp only [At, New] at hk hS; omega) | (simp only [At] at hS; omega) | (have := hMut k hS; omega))
  replace hB1 := hB1.updA hu2
  refine WL.val rfl rfl rfl rfl (r_not rfl (ev_t rfl)) ?_
  refine WL.val rfl rfl rfl rfl (r_move rfl (ev_t rfl)) ?_
  refine WL.cases 19 rfl (fun hb1_3 => ?_) (fun hb1_3 => ?_)
  · try (exfalso; first | (simp at hb1_3; done) | (simp only [decide_eq_true_eq, decide_eq_false_iff_not, Bool.not_eq_true', Bool.not_eq_false', Bool.not_eq_true, Bool.not_eq_false] at hb1_3; omega) | omega)
    all_goals
     try simp only [decide_eq_true_eq, decide_eq_false_iff_not, Bool.not_eq_true', Bool.not_eq_false', Bool.not_eq_true, Bool.not_eq_false, Option.isNone_none, Option.isNone_some, Option.isSome_none, Option.isSome_some, ne_eq, Decidable.not_not] at hb1_3
     refine WL.skip rfl rfl rfl ?_
     refine WL.skip rfl rfl rfl ?_
     refine WL.val rfl rfl rfl rfl (r_pickT rfl (ev_t rfl) ev_c) ?_
     refine WL.nil ?_
     refine WX.keep [(1, _), (2, _), (22, _)] ⟨rfl, rfl, rfl, trivial⟩ ?_
     refine WX.next ?_
     refine WC.cond_true rfl (ev_t rfl) ?_
     refine WC.seq ?_
     refine WC.region ?_
     refine WL.cons (SO.call (awake_ok) rfl body_10 trivial rfl rfl rfl rfl ?_)
     rintro v w3 ⟨rfl, hu3⟩
     have hs3 := hu3.size
     replace hU := hU.trans hu3 (by first | exact (fun _ _ h => h) | exact (fun _ _ h => h.elim) | (intro k hl hk; (try simp only [At, New, Grow, From, No] at hk ⊢); omega) | (intro k hl hk; simp only [At] at hk; omega))
     replace hta := hta.upd hu3 (fun k hk hl hS => by first | exact (show False from hS).elim | (simp only [At, New] at hk hS; omega) | (simp only [At] at hS; omega) | (have := hMut k hS; omega))
     replace hB1 := hB1.updA hu3
     refine WL.val rfl rfl rfl rfl (r_assign rfl (ev_t rfl)) ?_
     refine WL.nil ?_
     refine WX.keep [(4, _)] ⟨rfl, trivial⟩ ?_
     refine WX.next ?_
     refine WC.ret ?_
     refine WX.thenRet ?_
     refine WX.retE1 rfl rfl ?_
     exact ⟨rfl, hU⟩
  · try (exfalso; first | (simp at hb1_3; done) | (simp only [decide_eq_true_eq, decide_eq_false_iff_not, Bool.not_eq_true', Bool.not_eq_false', Bool.not_eq_true, Bool.not_eq_false] at hb1_3; omega) | omega)
    all_goals
     try simp only [decide_eq_true_eq, decide_eq_false_iff_not, Bool.not_eq_true', Bool.not_eq_false', Bool.not_eq_true, Bool.not_eq_false, Option.isNone_none, Option.isNone_some, Option.isSome_none, Option.isSome_some, ne_eq, Decidable.not_not] at hb1_3
     refine WL.cons (SO.call (awake_ok) rfl body_10 trivial rfl rfl rfl rfl ?_)
     rintro v w4 ⟨rfl, hu4⟩
     have hs4 := hu4.size
     replace hU := hU.trans hu4 (by first | exact (fun _ _ h => h) | exact (fun _ _ h => h.elim) | (intro k hl hk; (try simp only [At, New, Grow, From, No] at hk ⊢); omega) | (intro k hl hk; simp only [At] at hk; omega))
     replace hta := hta.upd hu4 (fun k hk hl hS => by first | exact (show False from hS).elim | (simp only [At, New] at hk hS; omega) | (simp only [At] at hS; omega) | (have := hMut k hS; omega))
     replace hB1 := hB1.updA hu4
     refine WL.val rfl rfl rfl rfl (r_not rfl (ev_t rfl)) ?_
     refine WL.val rfl rfl rfl rfl (r_pickF rfl (ev_t rfl) (ev_t rfl)) ?_
     refine WL.nil ?_
     refine WX.keep [(1, _), (2, _), (22, _)] ⟨rfl, rfl, rfl, trivial⟩ ?_
     refine WX.next ?_
     refine WC.cond rfl (ev_t rfl) (fun hc1 => ?_) (fun hc1 => ?_)
     · try (exfalso; first | (simp at hc1; done) | (simp only [decide_eq_true_eq, decide_eq_false_iff_not, Bool.not_eq_true', Bool.not_eq_false', Bool.not_eq_true, Bool.not_eq_false] at hc1; omega) | omega)
       all_goals
        try simp only [decide_eq_true_eq, decide_eq_false_iff_not, Bool.not_eq_true', Bool.not_eq_false', Bool.not_eq_true, Bool.not_eq_false, Option.isNone_none, Option.isNone_some, Option.isSome_none, Option.isSome_some, ne_eq, Decidable.not_not] at hc1
        refine WC.seq ?_
        refine WC.region ?_
        refine WL.cons (SO.call (awake_ok) rfl body_10 trivial rfl rfl rfl rfl ?_)
        rintro v w5 ⟨rfl, hu5⟩
        have hs5 := hu5.size
        replace hU := hU.trans hu5 (by first | exact (fun _ _ h => h) | exact (fun _ _ h => h.elim) | (intro k hl hk; (try simp only [At, New, Grow, From, No] at hk ⊢); omega) | (intro k hl hk; simp only [At] at hk; omega))
        replace hta := hta.upd hu5 (fun k hk hl hS => by first | exact (show False from hS).elim | (simp only [At, New] at hk hS; omega) | (simp only [At] at hS; omega) | (have := hMut k hS; omega))
        replace hB1 := hB1.updA hu5
        refine WL.val rfl rfl rfl rfl (r_assign rfl (ev_t rfl)) ?_
        refine WL.nil ?_
        refine WX.keep [(4, _)] ⟨rfl, trivial⟩ ?_
        refine WX.next ?_
        refine WC.ret ?_
        refine WX.thenRet ?_
        refine WX.retE1 rfl rfl ?_
        exact ⟨rfl, hU⟩
     · try (exfalso; first | (simp at hc1; done) | (simp only [decide_eq_true_eq, decide_eq_false_iff_not, Bool.not_eq_true', Bool.not_eq_false', Bool.not_eq_true, Bool.not_eq_false] at hc1; omega) | omega)
       all_goals
        try simp only [decide_eq_true_eq, decide_eq_false_iff_not, Bool.not_eq_true', Bool.not_eq_false', Bool.not_eq_true, Bool.not_eq_false, Option.isNone_none, Option.isNone_some, Option.isSome_none, Option.isSome_some, ne_eq, Decidable.not_not] at hc1
        have hsa : smallR 5 ta = true := by simp_all
        have hxa := clean_tv hsa hta
        have hzs := clean_szO hsa
        have hvz := vars_sz (cleanR 5 ta)
        generalize cleanR 5 ta = X at *
        simp only [bigO] at hzs
        have hnv := (nubA_len (vars X) []).2
        have hN : (varsOf X).length ≤ 10000 := by unfold varsOf; simp only [List.length_nil] at hnv; omega
        refine WC.skip ?_
        refine WX.next ?_
        refine WC.seq ?_
        refine WC.region ?_
        refine WL.val rfl rfl rfl rfl (r_move rfl (ev_t rfl)) ?_
        first | refine WL.val rfl rfl rfl rfl (r_convN rfl (ev_t rfl) some_5 int_3 (by simp only [inK]; omega)) ?_ | refine WL.val rfl rfl rfl rfl (r_conv rfl (ev_t rfl) some_5 int_3) ?_
        first | refine WL.val rfl rfl rfl rfl (r_remN rfl (ev_t rfl) ev_c (by omega) (by omega)) ?_ | refine WL.val rfl rfl rfl rfl (r_rem rfl (ev_t rfl) ev_c (by omega)) ?_
        refine WL.val rfl rfl rfl rfl (r_assign rfl (ev_t rfl)) ?_
        refine WL.nil ?_
        refine WX.keep [(2, _), (5, _)] ⟨rfl, rfl, trivial⟩ ?_
        refine WX.next ?_
        refine WC.seq ?_
        refine WC.region ?_
        obtain ⟨kk, hkk, hk0⟩ : ∃ kk : Int, kk = n % 50 ∧ 0 ≤ kk ∧ kk < 50 := ⟨_, rfl, Int.emod_nonneg _ (by omega), Int.emod_lt_of_pos _ (by omega)⟩
        rw [← hkk]
        refine WL.val rfl rfl rfl rfl (r_loadAgg (vs := [_, _, _]) rfl (ev_t rfl) agg_28 size_28 (Blk.cellsL hB1)) ?_
        refine WL.cons (SO.call (tclose_ok hxa (by omega)) rfl body_26 ⟨(ev_t rfl), ev_c, trivial⟩ rfl rfl rfl rfl ?_)
        rintro v w6 ⟨c1, c2, c3', rfl, hc, hu6⟩
        obtain ⟨mc, Ac, kc, xkc, rfl, rfl, rfl, _⟩ := hc.open
        replace hc := hc.bound
        have hs6 := hu6.size
        replace hU := hU.trans hu6 (by first | exact (fun _ _ h => h) | exact (fun _ _ h => h.elim) | (intro k hl hk; (try simp only [At, New, Grow, From, No] at hk ⊢); omega) | (intro k hl hk; simp only [At] at hk; omega))
        replace hB1 := hB1.updA hu6
        refine WL.cons (SO.alloc rfl rfl rfl rfl (r_alloc rfl zero_49) ?_)
        intro w7 hu7 hB7 hz7
        have hs7 := hu7.size
        replace hU := hU.trans hu7 (by first | exact (fun _ _ h => h) | exact (fun _ _ h => h.elim) | (intro k hl hk; (try simp only [At, New, Grow, From, No] at hk ⊢); omega) | (intro k hl hk; simp only [At] at hk; omega))
        replace hB1 := hB1.updA hu7
        replace hc := hc.upd hu7 (fun k hk hl hS => by first | exact (show False from hS).elim | (simp only [At, New] at hk hS; omega) | (simp only [At] at hS; omega) | (have := hMut k hS; omega))
        refine WL.cons (SO.storeAll (us := [_, _, _, _]) rfl (ev_t rfl) (ev_t rfl) size_49 hB7 rfl rfl rfl rfl rfl ?_)
        intro w8 hu8 hB7 hz8
        have hs8 := hu8.size
        replace hU := hU.trans hu8 (by first | exact (fun _ _ h => h) | exact (fun _ _ h => h.elim) | (intro k hl hk; (try simp only [At, New, Grow, From, No] at hk ⊢); omega) | (intro k hl hk; simp only [At] at hk; omega))
        replace hB1 := hB1.updA hu8
        replace hc := hc.upd hu8 (fun k hk hl hS => by first | exact (show False from hS).elim | (simp only [At, New] at hk hS; omega) | (simp only [At] at hS; omega) | (have := hMut k hS; omega))
        refine WL.nil ?_
        refine WX.keep [(5, _), (6, _)] ⟨rfl, rfl, trivial⟩ ?_
        have hb6 := hB7
        obtain ⟨b6, hb6e⟩ : ∃ b, b = w6.heap.size := ⟨_, rfl⟩
        rw [← hb6e] at hb6 ⊢
        have hopU := opened (t := X) (kk + 1000)
        have hopV := opened (t := X) (kk + 1000 + ((varsOf X).length : Int))
        have hvC : ∀ x ∈ vars (canon X), 1 ≤ x ∧ x ≤ ((varsOf X).length : Int) := fun x hx => vars_canon hx
        have hszC := sz_canon X
        have hvzC := vars_sz (canon X)
        generalize (varsOf X).length = N at *
        generalize canon X = C at *
        have hb6l := hb6.lt
        obtain ⟨SC, hSC⟩ : ∃ SC, SC = w8.heap.size := ⟨_, rfl⟩
        replace hc := hc.mono (F' := fun k => k < SC) (fun k hk => by have := hk.2; omega)
        refine WX.next ?_
        refine WC.seq ?_
        refine WC.region ?_
        refine WL.val rfl rfl rfl rfl (r_move rfl (ev_t rfl)) ?_
        first | refine WL.val rfl rfl rfl rfl (r_addN rfl (ev_t rfl) ev_c (by simp only [inK]; omega)) ?_ | refine WL.val rfl rfl rfl rfl (r_add rfl (ev_t rfl) ev_c) ?_
        refine WL.cons (SO.call (tnew_ok (F := fun _ => False)) rfl body_11 ⟨(ev_t rfl), trivial⟩ rfl rfl rfl rfl ?_)
        rintro v w9 ⟨p, m1, m2, rfl, hI, hMut, hu9⟩
        obtain ⟨hlp, hl1, hl2⟩ := hI.lt
        have hs9 := hu9.size
        replace hU := hU.trans hu9 (by first | exact (fun _ _ h => h) | exact (fun _ _ h => h.elim) | (intro k hl hk; (try simp only [At, New, Grow, From, No] at hk ⊢); omega) | (intro k hl hk; simp only [At] at hk; omega))
        replace hc := hc.upd hu9 (fun k hk hl hS => by first | exact (show False from hS).elim | (simp only [At, New] at hk hS; omega) | (simp only [At] at hS; omega) | (have := hMut k hS; omega))
        replace hb6 := hb6.upd hu9 (by first | exact (fun h => h) | (simp only [At]; omega) | (intro hS; have := hMut _ hS; omega))
        obtain ⟨SM, hSM⟩ : ∃ SM, SM = w9.heap.size := ⟨_, rfl⟩
        replace hMut : ∀ k, Mut p m1 m2 k → SC ≤ k ∧ k < SM := fun k hk => by have := hMut k hk; simp only [New] at this; omega
        have hpM := hMut p (.inl rfl)
        refine WL.val rfl rfl rfl rfl (r_assign rfl (ev_t rfl)) ?_
        refine WL.nil ?_
        refine WX.keep [(5, _), (6, _), (7, _)] ⟨rfl, rfl, rfl, trivial⟩ ?_
        refine WX.next ?_
        refine WC.seq ?_
        refine WC.region ?_
        refine WL.val rfl rfl rfl rfl (r_move rfl (ev_t rfl)) ?_
        refine WL.val rfl rfl rfl rfl (r_loadAgg (vs := [_, _, _, _]) rfl (ev_t rfl) agg_49 size_49 (Blk.cellsL hb6)) ?_
        refine WL.cons (SO.call (open_ok hI (fun k h => h.elim) (fun k h => h.elim) (by omega) (by omega) hc (fun k hk => by omega) hvC) rfl body_27 ⟨(ev_t rfl), (ev_t rfl), trivial⟩ rfl rfl rfl rfl ?_)
        rintro v w10 ⟨d1, d2, d3, rfl, hu, hI2, hu10⟩
        obtain ⟨mu, Au, ku, xku, rfl, rfl, rfl, _⟩ := hu.open
        replace hu := hu.mono (F' := fun k => SM ≤ k ∧ k < w10.heap.size) (fun k hk => by simp only [New] at hk; omega)
        have hs10 := hu10.size
        replace hU := hU.trans hu10 (by first | exact (fun _ _ h => h) | exact (fun _ _ h => h.elim) | (intro k hl hk; (try simp only [At, New, Grow, From, No] at hk ⊢); omega) | (intro k hl hk; simp only [At] at hk; omega))
        replace hc := hc.upd hu10 (fun k hk hl hS => by first | exact (show False from hS).elim | (simp only [At, New] at hk hS; omega) | (simp only [At] at hS; omega) | (have := hMut k hS; omega))
        replace hb6 := hb6.upd hu10 (by first | exact (fun h => h) | (simp only [At]; omega) | (intro hS; have := hMut _ hS; omega))
        have hI := hI2
        refine WL.cons (SO.alloc rfl rfl rfl rfl (r_alloc rfl zero_28) ?_)
        intro w11 hu11 hB11 hz11
        have hs11 := hu11.size
        replace hU := hU.trans hu11 (by first | exact (fun _ _ h => h) | exact (fun _ _ h => h.elim) | (intro k hl hk; (try simp only [At, New, Grow, From, No] at hk ⊢); omega) | (intro k hl hk; simp only [At] at hk; omega))
        replace hc := hc.upd hu11 (fun k hk hl hS => by first | exact (show False from hS).elim | (simp only [At, New] at hk hS; omega) | (simp only [At] at hS; omega) | (have := hMut k hS; omega))
        replace hb6 := hb6.upd hu11 (by first | exact (fun h => h) | (simp only [At]; omega) | (intro hS; have := hMut _ hS; omega))
        replace hI := hI.upd hu11 (fun k hk hl hS => by first | exact (show False from hS).elim | (simp only [At] at hS; subst hS; rcases hk with hk | hk; have := hMut _ hk; omega; exact hk.elim))
        replace hu := hu.upd hu11 (fun k hk hl hS => by first | exact (show False from hS).elim | (simp only [At] at hS; omega))
        refine WL.cons (SO.storeAll (us := [_, _, _]) rfl (ev_t rfl) (ev_t rfl) size_28 hB11 rfl rfl rfl rfl rfl ?_)
        intro w12 hu12 hB11 hz12
        have hs12 := hu12.size
        replace hU := hU.trans hu12 (by first | exact (fun _ _ h => h) | exact (fun _ _ h => h.elim) | (intro k hl hk; (try simp only [At, New, Grow, From, No] at hk ⊢); omega) | (intro k hl hk; simp only [At] at hk; omega))
        replace hc := hc.upd hu12 (fun k hk hl hS => by first | exact (show False from hS).elim | (simp only [At, New] at hk hS; omega) | (simp only [At] at hS; omega) | (have := hMut k hS; omega))
        replace hb6 := hb6.upd hu12 (by first | exact (fun h => h) | (simp only [At]; omega) | (intro hS; have := hMut _ hS; omega))
        replace hI := hI.upd hu12 (fun k hk hl hS => by first | exact (show False from hS).elim | (simp only [At] at hS; subst hS; rcases hk with hk | hk; have := hMut _ hk; omega; exact hk.elim))
        replace hu := hu.upd hu12 (fun k hk hl hS => by first | exact (show False from hS).elim | (simp only [At] at hS; omega))
        refine WL.nil ?_
        refine WX.keep [(5, _), (6, _), (7, _), (8, _)] ⟨rfl, rfl, rfl, rfl, trivial⟩ ?_
        have hb8 := hB11
        obtain ⟨b8, hb8e⟩ : ∃ b, b = w10.heap.size := ⟨_, rfl⟩
        rw [← hb8e] at hb8 ⊢
        have hb8l := hb8.lt
        refine WX.next ?_
        refine WC.seq ?_
        refine WC.region ?_
        refine WL.val rfl rfl rfl rfl (r_move rfl (ev_t rfl)) ?_
        refine WL.val rfl rfl rfl rfl (r_loadAgg (vs := [_, _, _, _]) rfl (ev_t rfl) agg_49 size_49 (Blk.cellsL hb6)) ?_
        refine WL.cons (SO.call (open_ok hI (fun k h => h.elim) (fun k h => h.elim) (by omega) (by omega) hc (fun k hk => by omega) hvC) rfl body_27 ⟨(ev_t rfl), (ev_t rfl), trivial⟩ rfl rfl rfl rfl ?_)
        rintro v w13 ⟨d1, d2, d3, rfl, hv, hI2, hu13⟩
        obtain ⟨mv, Av, kv, xkv, rfl, rfl, rfl, _⟩ := hv.open
        replace hv := hv.mono (F' := fun k => SM ≤ k ∧ k < w13.heap.size) (fun k hk => by simp only [New] at hk; omega)
        have hs13 := hu13.size
        replace hU := hU.trans hu13 (by first | exact (fun _ _ h => h) | exact (fun _ _ h => h.elim) | (intro k hl hk; (try simp only [At, New, Grow, From, No] at hk ⊢); omega) | (intro k hl hk; simp only [At] at hk; omega))
        replace hc := hc.upd hu13 (fun k hk hl hS => by first | exact (show False from hS).elim | (simp only [At, New] at hk hS; omega) | (simp only [At] at hS; omega) | (have := hMut k hS; omega))
        replace hb6 := hb6.upd hu13 (by first | exact (fun h => h) | (simp only [At]; omega) | (intro hS; have := hMut _ hS; omega))
        replace hu := hu.upd hu13 (fun k hk hl hS => by first | exact (show False from hS).elim | (simp only [At] at hS; omega))
        replace hb8 := hb8.upd hu13 (by first | exact (fun h => h) | (simp only [At]; omega) | (intro hS; have := hMut _ hS; omega))
        have hI := hI2
        refine WL.cons (SO.alloc rfl rfl rfl rfl (r_alloc rfl zero_28) ?_)
        intro w14 hu14 hB14 hz14
        have hs14 := hu14.size
        replace hU := hU.trans hu14 (by first | exact (fun _ _ h => h) | exact (fun _ _ h => h.elim) | (intro k hl hk; (try simp only [At, New, Grow, From, No] at hk ⊢); omega) | (intro k hl hk; simp only [At] at hk; omega))
        replace hc := hc.upd hu14 (fun k hk hl hS => by first | exact (show False from hS).elim | (simp only [At, New] at hk hS; omega) | (simp only [At] at hS; omega) | (have := hMut k hS; omega))
        replace hb6 := hb6.upd hu14 (by first | exact (fun h => h) | (simp only [At]; omega) | (intro hS; have := hMut _ hS; omega))
        replace hu := hu.upd hu14 (fun k hk hl hS => by first | exact (show False from hS).elim | (simp only [At] at hS; omega))
        replace hb8 := hb8.upd hu14 (by first | exact (fun h => h) | (simp only [At]; omega) | (intro hS; have := hMut _ hS; omega))
        replace hI := hI.upd hu14 (fun k hk hl hS => by first | exact (show False from hS).elim | (simp only [At] at hS; subst hS; rcases hk with hk | hk; have := hMut _ hk; omega; exact hk.elim))
        replace hv := hv.upd hu14 (fun k hk hl hS => by first | exact (show False from hS).elim | (simp only [At] at hS; omega))
        refine WL.cons (SO.storeAll (us := [_, _, _]) rfl (ev_t rfl) (ev_t rfl) size_28 hB14 rfl rfl rfl rfl rfl ?_)
        intro w15 hu15 hB14 hz15
        have hs15 := hu15.size
        replace hU := hU.trans hu15 (by first | exact (fun _ _ h => h) | exact (fun _ _ h => h.elim) | (intro k hl hk; (try simp only [At, New, Grow, From, No] at hk ⊢); omega) | (intro k hl hk; simp only [At] at hk; omega))
        replace hc := hc.upd hu15 (fun k hk hl hS => by first | exact (show False from hS).elim | (simp only [At, New] at hk hS; omega) | (simp only [At] at hS; omega) | (have := hMut k hS; omega))
        replace hb6 := hb6.upd hu15 (by first | exact (fun h => h) | (simp only [At]; omega) | (intro hS; have := hMut _ hS; omega))
        replace hu := hu.upd hu15 (fun k hk hl hS => by first | exact (show False from hS).elim | (simp only [At] at hS; omega))
        replace hb8 := hb8.upd hu15 (by first | exact (fun h => h) | (simp only [At]; omega) | (intro hS; have := hMut _ hS; omega))
        replace hI := hI.upd hu15 (fun k hk hl hS => by first | exact (show False from hS).elim | (simp only [At] at hS; subst hS; rcases hk with hk | hk; have := hMut _ hk; omega; exact hk.elim))
        replace hv := hv.upd hu15 (fun k hk hl hS => by first | exact (show False from hS).elim | (simp only [At] at hS; omega))
        refine WL.nil ?_
        refine WX.keep [(5, _), (6, _), (7, _), (8, _), (9, _)] ⟨rfl, rfl, rfl, rfl, rfl, trivial⟩ ?_
        have hb9 := hB14
        obtain ⟨b9, hb9e⟩ : ∃ b, b = w13.heap.size := ⟨_, rfl⟩
        rw [← hb9e] at hb9 ⊢
        have hb9l := hb9.lt
        refine WX.next ?_
        refine WC.seq ?_
        refine WC.region ?_
        refine WL.val rfl rfl rfl rfl (r_move rfl (ev_t rfl)) ?_
        refine WL.cons (SO.call (fresh_ok hI (fun k h => h.elim) (by simp only [inK]; omega)) rfl body_28 ⟨(ev_t rfl), trivial⟩ rfl rfl rfl rfl ?_)
        rintro v w16 ⟨rfl, hI2, hu16⟩
        have hs16 := hu16.size
        replace hU := hU.trans hu16 (by first | exact (fun _ _ h => h) | exact (fun _ _ h => h.elim) | (intro k hl hk; (try simp only [At, New, Grow, From, No] at hk ⊢); omega) | (intro k hl hk; simp only [At] at hk; omega))
        replace hc := hc.upd hu16 (fun k hk hl hS => by first | exact (show False from hS).elim | (simp only [At, New] at hk hS; omega) | (simp only [At] at hS; omega) | (have := hMut k hS; omega))
        replace hb6 := hb6.upd hu16 (by first | exact (fun h => h) | (simp only [At]; omega) | (intro hS; have := hMut _ hS; omega))
        replace hu := hu.upd hu16 (fun k hk hl hS => by first | exact (show False from hS).elim | (simp only [At] at hS; omega))
        replace hb8 := hb8.upd hu16 (by first | exact (fun h => h) | (simp only [At]; omega) | (intro hS; have := hMut _ hS; omega))
        replace hv := hv.upd hu16 (fun k hk hl hS => by first | exact (show False from hS).elim | (simp only [At] at hS; omega))
        replace hb9 := hb9.upd hu16 (by first | exact (fun h => h) | (simp only [At]; omega) | (intro hS; have := hMut _ hS; omega))
        refine WL.cons (SO.alloc rfl rfl rfl rfl (r_alloc rfl zero_28) ?_)
        intro w17 hu17 hB17 hz17
        have hs17 := hu17.size
        replace hU := hU.trans hu17 (by first | exact (fun _ _ h => h) | exact (fun _ _ h => h.elim) | (intro k hl hk; (try simp only [At, New, Grow, From, No] at hk ⊢); omega) | (intro k hl hk; simp only [At] at hk; omega))
        replace hc := hc.upd hu17 (fun k hk hl hS => by first | exact (show False from hS).elim | (simp only [At, New] at hk hS; omega) | (simp only [At] at hS; omega) | (have := hMut k hS; omega))
        replace hb6 := hb6.upd hu17 (by first | exact (fun h => h) | (simp only [At]; omega) | (intro hS; have := hMut _ hS; omega))
        replace hu := hu.upd hu17 (fun k hk hl hS => by first | exact (show False from hS).elim | (simp only [At] at hS; omega))
        replace hb8 := hb8.upd hu17 (by first | exact (fun h => h) | (simp only [At]; omega) | (intro hS; have := hMut _ hS; omega))
        replace hv := hv.upd hu17 (fun k hk hl hS => by first | exact (show False from hS).elim | (simp only [At] at hS; omega))
        replace hb9 := hb9.upd hu17 (by first | exact (fun h => h) | (simp only [At]; omega) | (intro hS; have := hMut _ hS; omega))
        refine WL.cons (SO.storeAll (us := [_, _, _]) rfl (ev_t rfl) (ev_t rfl) size_28 hB17 rfl rfl rfl rfl rfl ?_)
        intro w18 hu18 hB17 hz18
        have hs18 := hu18.size
        replace hU := hU.trans hu18 (by first | exact (fun _ _ h => h) | exact (fun _ _ h => h.elim) | (intro k hl hk; (try simp only [At, New, Grow, From, No] at hk ⊢); omega) | (intro k hl hk; simp only [At] at hk; omega))
        replace hc := hc.upd hu18 (fun k hk hl hS => by first | exact (show False from hS).elim | (simp only [At, New] at hk hS; omega) | (simp only [At] at hS; omega) | (have := hMut k hS; omega))
        replace hb6 := hb6.upd hu18 (by first | exact (fun h => h) | (simp only [At]; omega) | (intro hS; have := hMut _ hS; omega))
        replace hu := hu.upd hu18 (fun k hk hl hS => by first | exact (show False from hS).elim | (simp only [At] at hS; omega))
        replace hb8 := hb8.upd hu18 (by first | exact (fun h => h) | (simp only [At]; omega) | (intro hS; have := hMut _ hS; omega))
        replace hv := hv.upd hu18 (fun k hk hl hS => by first | exact (show False from hS).elim | (simp only [At] at hS; omega))
        replace hb9 := hb9.upd hu18 (by first | exact (fun h => h) | (simp only [At]; omega) | (intro hS; have := hMut _ hS; omega))
        refine WL.nil ?_
        refine WX.keep [(5, _), (6, _), (8, _), (9, _), (10, _)] ⟨rfl, rfl, rfl, rfl, rfl, trivial⟩ ?_
        have hb10 := hB17
        obtain ⟨b10, hb10e⟩ : ∃ b, b = w16.heap.size := ⟨_, rfl⟩
        rw [← hb10e] at hb10 ⊢
        have hb10l := hb10.lt
        have hlU : (vars (ext (fun x => Ty.v (kk + 1000 + x)) C)).length ≤ 1000000 := by rw [vars_ext_v, List.length_map]; omega
        have hlV : (vars (ext (fun x => Ty.v (kk + 1000 + (N : Int) + x)) C)).length ≤ 1000000 := by rw [vars_ext_v, List.length_map]; omega
        obtain ⟨U, hUe⟩ : ∃ U, U = ext (fun x => Ty.v (kk + 1000 + x)) C := ⟨_, rfl⟩
        obtain ⟨V, hVe⟩ : ∃ V, V = ext (fun x => Ty.v (kk + 1000 + (N : Int) + x)) C := ⟨_, rfl⟩
        rw [← hUe] at hu hb8 hopU hlU
        rw [← hVe] at hv hb9 hopV hlV
        refine WX.next ?_
        refine WC.seq ?_
        refine WC.region ?_
        refine WL.val rfl rfl rfl rfl (r_loadAgg (vs := [_, _, _]) rfl (ev_t rfl) agg_28 size_28 (Blk.cellsL hb8)) ?_
        refine WL.cons (SO.call (rclose_ok hu hlU) rfl body_29 ⟨(ev_t rfl), trivial⟩ rfl rfl rfl rfl ?_)
        rintro v w19 ⟨e1, e2, e3, Ax, kx, rfl, hx, hvx, hu19⟩
        obtain ⟨mx, Ax2, kx2, xkx, rfl, rfl, rfl, _⟩ := hx.open
        replace hx := hx.bound
        have hrx := hvx.rd (by omega)
        have hs19 := hu19.size
        replace hU := hU.trans hu19 (by first | exact (fun _ _ h => h) | exact (fun _ _ h => h.elim) | (intro k hl hk; (try simp only [At, New, Grow, From, No] at hk ⊢); omega) | (intro k hl hk; simp only [At] at hk; omega))
        replace hc := hc.upd hu19 (fun k hk hl hS => by first | exact (show False from hS).elim | (simp only [At, New] at hk hS; omega) | (simp only [At] at hS; omega) | (have := hMut k hS; omega))
        replace hb6 := hb6.upd hu19 (by first | exact (fun h => h) | (simp only [At]; omega) | (intro hS; have := hMut _ hS; omega))
        replace hv := hv.upd hu19 (fun k hk hl hS => by first | exact (show False from hS).elim | (simp only [At] at hS; omega))
        replace hb9 := hb9.upd hu19 (by first | exact (fun h => h) | (simp only [At]; omega) | (intro hS; have := hMut _ hS; omega))
        replace hb10 := hb10.upd hu19 (by first | exact (fun h => h) | (simp only [At]; omega) | (intro hS; have := hMut _ hS; omega))
        refine WL.val rfl rfl rfl rfl (r_move rfl (ev_t rfl)) ?_
        refine WL.val rfl rfl rfl rfl (r_extract rfl (ev_t rfl) rfl) ?_
        refine WL.val rfl rfl rfl rfl (r_extract rfl (ev_t rfl) rfl) ?_
        refine WL.cons (SO.alloc rfl rfl rfl rfl (r_alloc rfl zero_49) ?_)
        intro w20 hu20 hB20 hz20
        have hs20 := hu20.size
        replace hU := hU.trans hu20 (by first | exact (fun _ _ h => h) | exact (fun _ _ h => h.elim) | (intro k hl hk; (try simp only [At, New, Grow, From, No] at hk ⊢); omega) | (intro k hl hk; simp only [At] at hk; omega))
        replace hc := hc.upd hu20 (fun k hk hl hS => by first | exact (show False from hS).elim | (simp only [At, New] at hk hS; omega) | (simp only [At] at hS; omega) | (have := hMut k hS; omega))
        replace hb6 := hb6.upd hu20 (by first | exact (fun h => h) | (simp only [At]; omega) | (intro hS; have := hMut _ hS; omega))
        replace hv := hv.upd hu20 (fun k hk hl hS => by first | exact (show False from hS).elim | (simp only [At] at hS; omega))
        replace hb9 := hb9.upd hu20 (by first | exact (fun h => h) | (simp only [At]; omega) | (intro hS; have := hMut _ hS; omega))
        replace hb10 := hb10.upd hu20 (by first | exact (fun h => h) | (simp only [At]; omega) | (intro hS; have := hMut _ hS; omega))
        replace hx := hx.upd hu20 (fun k hk hl hS => by first | exact (show False from hS).elim | (simp only [At] at hS; have := hk.2; omega))
        replace hrx := hrx.upd hu20 (fun k hk hl hS => by first | exact (show False from hS).elim | (simp only [At, New] at *; omega))
        refine WL.cons (SO.storeAll (us := [_, _, _, _]) rfl (ev_t rfl) (ev_t rfl) size_49 hB20 rfl rfl rfl rfl rfl ?_)
        intro w21 hu21 hB20 hz21
        have hs21 := hu21.size
        replace hU := hU.trans hu21 (by first | exact (fun _ _ h => h) | exact (fun _ _ h => h.elim) | (intro k hl hk; (try simp only [At, New, Grow, From, No] at hk ⊢); omega) | (intro k hl hk; simp only [At] at hk; omega))
        replace hc := hc.upd hu21 (fun k hk hl hS => by first | exact (show False from hS).elim | (simp only [At, New] at hk hS; omega) | (simp only [At] at hS; omega) | (have := hMut k hS; omega))
        replace hb6 := hb6.upd hu21 (by first | exact (fun h => h) | (simp only [At]; omega) | (intro hS; have := hMut _ hS; omega))
        replace hv := hv.upd hu21 (fun k hk hl hS => by first | exact (show False from hS).elim | (simp only [At] at hS; omega))
        replace hb9 := hb9.upd hu21 (by first | exact (fun h => h) | (simp only [At]; omega) | (intro hS; have := hMut _ hS; omega))
        replace hb10 := hb10.upd hu21 (by first | exact (fun h => h) | (simp only [At]; omega) | (intro hS; have := hMut _ hS; omega))
        replace hx := hx.upd hu21 (fun k hk hl hS => by first | exact (show False from hS).elim | (simp only [At] at hS; have := hk.2; omega))
        replace hrx := hrx.upd hu21 (fun k hk hl hS => by first | exact (show False from hS).elim | (simp only [At, New] at *; omega))
        refine WL.val rfl rfl rfl rfl (r_assign rfl (ev_t rfl)) ?_
        refine WL.nil ?_
        refine WX.keep [(5, _), (6, _), (9, _), (10, _), (11, _), (12, _)] ⟨rfl, rfl, rfl, rfl, rfl, rfl, trivial⟩ ?_
        have hb11 := hB20
        obtain ⟨b11, hb11e⟩ : ∃ b, b = w19.heap.size := ⟨_, rfl⟩
        rw [← hb11e] at hb11 ⊢
        have hb11l := hb11.lt
        refine WX.next ?_
        refine WC.seq ?_
        refine WC.region ?_
        refine WL.val rfl rfl rfl rfl (r_loadAgg (vs := [_, _, _]) rfl (ev_t rfl) agg_28 size_28 (Blk.cellsL hb9)) ?_
        refine WL.cons (SO.call (rclose_ok hv hlV) rfl body_29 ⟨(ev_t rfl), trivial⟩ rfl rfl rfl rfl ?_)
        rintro v w22 ⟨e1, e2, e3, Ay, ky, rfl, hy, hvy, hu22⟩
        obtain ⟨my, Ay2, ky2, xky, rfl, rfl, rfl, _⟩ := hy.open
        replace hy := hy.bound
        have hry := hvy.rd (by omega)
        have hs22 := hu22.size
        replace hU := hU.trans hu22 (by first | exact (fun _ _ h => h) | exact (fun _ _ h => h.elim) | (intro k hl hk; (try simp only [At, New, Grow, From, No] at hk ⊢); omega) | (intro k hl hk; simp only [At] at hk; omega))
        replace hc := hc.upd hu22 (fun k hk hl hS => by first | exact (show False from hS).elim | (simp only [At, New] at hk hS; omega) | (simp only [At] at hS; omega) | (have := hMut k hS; omega))
        replace hb6 := hb6.upd hu22 (by first | exact (fun h => h) | (simp only [At]; omega) | (intro hS; have := hMut _ hS; omega))
        replace hb10 := hb10.upd hu22 (by first | exact (fun h => h) | (simp only [At]; omega) | (intro hS; have := hMut _ hS; omega))
        replace hx := hx.upd hu22 (fun k hk hl hS => by first | exact (show False from hS).elim | (simp only [At] at hS; have := hk.2; omega))
        replace hrx := hrx.upd hu22 (fun k hk hl hS => by first | exact (show False from hS).elim | (simp only [At, New] at *; omega))
        replace hb11 := hb11.upd hu22 (by first | exact (fun h => h) | (simp only [At]; omega) | (intro hS; have := hMut _ hS; omega))
        refine WL.val rfl rfl rfl rfl (r_move rfl (ev_t rfl)) ?_
        refine WL.val rfl rfl rfl rfl (r_extract rfl (ev_t rfl) rfl) ?_
        refine WL.val rfl rfl rfl rfl (r_extract rfl (ev_t rfl) rfl) ?_
        refine WL.cons (SO.alloc rfl rfl rfl rfl (r_alloc rfl zero_49) ?_)
        intro w23 hu23 hB23 hz23
        have hs23 := hu23.size
        replace hU := hU.trans hu23 (by first | exact (fun _ _ h => h) | exact (fun _ _ h => h.elim) | (intro k hl hk; (try simp only [At, New, Grow, From, No] at hk ⊢); omega) | (intro k hl hk; simp only [At] at hk; omega))
        replace hc := hc.upd hu23 (fun k hk hl hS => by first | exact (show False from hS).elim | (simp only [At, New] at hk hS; omega) | (simp only [At] at hS; omega) | (have := hMut k hS; omega))
        replace hb6 := hb6.upd hu23 (by first | exact (fun h => h) | (simp only [At]; omega) | (intro hS; have := hMut _ hS; omega))
        replace hb10 := hb10.upd hu23 (by first | exact (fun h => h) | (simp only [At]; omega) | (intro hS; have := hMut _ hS; omega))
        replace hx := hx.upd hu23 (fun k hk hl hS => by first | exact (show False from hS).elim | (simp only [At] at hS; have := hk.2; omega))
        replace hrx := hrx.upd hu23 (fun k hk hl hS => by first | exact (show False from hS).elim | (simp only [At, New] at *; omega))
        replace hb11 := hb11.upd hu23 (by first | exact (fun h => h) | (simp only [At]; omega) | (intro hS; have := hMut _ hS; omega))
        replace hy := hy.upd hu23 (fun k hk hl hS => by first | exact (show False from hS).elim | (simp only [At] at hS; have := hk.2; omega))
        replace hry := hry.upd hu23 (fun k hk hl hS => by first | exact (show False from hS).elim | (simp only [At, New] at *; omega))
        refine WL.cons (SO.storeAll (us := [_, _, _, _]) rfl (ev_t rfl) (ev_t rfl) size_49 hB23 rfl rfl rfl rfl rfl ?_)
        intro w24 hu24 hB23 hz24
        have hs24 := hu24.size
        replace hU := hU.trans hu24 (by first | exact (fun _ _ h => h) | exact (fun _ _ h => h.elim) | (intro k hl hk; (try simp only [At, New, Grow, From, No] at hk ⊢); omega) | (intro k hl hk; simp only [At] at hk; omega))
        replace hc := hc.upd hu24 (fun k hk hl hS => by first | exact (show False from hS).elim | (simp only [At, New] at hk hS; omega) | (simp only [At] at hS; omega) | (have := hMut k hS; omega))
        replace hb6 := hb6.upd hu24 (by first | exact (fun h => h) | (simp only [At]; omega) | (intro hS; have := hMut _ hS; omega))
        replace hb10 := hb10.upd hu24 (by first | exact (fun h => h) | (simp only [At]; omega) | (intro hS; have := hMut _ hS; omega))
        replace hx := hx.upd hu24 (fun k hk hl hS => by first | exact (show False from hS).elim | (simp only [At] at hS; have := hk.2; omega))
        replace hrx := hrx.upd hu24 (fun k hk hl hS => by first | exact (show False from hS).elim | (simp only [At, New] at *; omega))
        replace hb11 := hb11.upd hu24 (by first | exact (fun h => h) | (simp only [At]; omega) | (intro hS; have := hMut _ hS; omega))
        replace hy := hy.upd hu24 (fun k hk hl hS => by first | exact (show False from hS).elim | (simp only [At] at hS; have := hk.2; omega))
        replace hry := hry.upd hu24 (fun k hk hl hS => by first | exact (show False from hS).elim | (simp only [At, New] at *; omega))
        refine WL.val rfl rfl rfl rfl (r_assign rfl (ev_t rfl)) ?_
        refine WL.nil ?_
        refine WX.keep [(5, _), (6, _), (10, _), (11, _), (12, _), (13, _), (14, _)] ⟨rfl, rfl, rfl, rfl, rfl, rfl, rfl, trivial⟩ ?_
        have hb13 := hB23
        obtain ⟨b13, hb13e⟩ : ∃ b, b = w22.heap.size := ⟨_, rfl⟩
        rw [← hb13e] at hb13 ⊢
        refine WX.next ?_
        refine WC.seq ?_
        refine WC.seq ?_
        refine WC.region ?_
        first | refine WL.val rfl rfl rfl rfl (r_field0 rfl (ev_t rfl) fld_49_1) ?_ | refine WL.val rfl rfl rfl rfl (r_fieldAt rfl (ev_t rfl) fld_49_1) ?_
        refine WL.val rfl rfl rfl rfl (r_loadAgg (vs := [_, _, _]) rfl (ev_t rfl) agg_28 size_28 (cells_tl hb11)) ?_
        first | refine WL.val rfl rfl rfl rfl (r_field0 rfl (ev_t rfl) fld_49_1) ?_ | refine WL.val rfl rfl rfl rfl (r_fieldAt rfl (ev_t rfl) fld_49_1) ?_
        refine WL.val rfl rfl rfl rfl (r_loadAgg (vs := [_, _, _]) rfl (ev_t rfl) agg_28 size_28 (cells_tl hb6)) ?_
        refine WL.cons (SO.call (rsame_ok _ (fun _ => True) _ _ _ _ _ _ _ _ _ (Nat.le_refl _) (hx.mono fun _ _ => trivial) (hc.mono fun _ _ => trivial)) rfl body_16 ⟨(ev_t rfl), (ev_t rfl), trivial⟩ rfl rfl rfl rfl ?_)
        rintro v w25 ⟨bb, rfl, hbb, hu25⟩
        obtain rfl := hbb.2 hopU.1
        have hs25 := hu25.size
        replace hU := hU.trans hu25 (by first | exact (fun _ _ h => h) | exact (fun _ _ h => h.elim) | (intro k hl hk; (try simp only [At, New, Grow, From, No] at hk ⊢); omega) | (intro k hl hk; simp only [At] at hk; omega))
        replace hc := hc.upd hu25 (fun k hk hl hS => by first | exact (show False from hS).elim | (simp only [At, New] at hk hS; omega) | (simp only [At] at hS; omega) | (have := hMut k hS; omega))
        replace hb6 := hb6.upd hu25 (by first | exact (fun h => h) | (simp only [At]; omega) | (intro hS; have := hMut _ hS; omega))
        replace hb10 := hb10.upd hu25 (by first | exact (fun h => h) | (simp only [At]; omega) | (intro hS; have := hMut _ hS; omega))
        replace hx := hx.upd hu25 (fun k hk hl hS => by first | exact (show False from hS).elim | (simp only [At] at hS; have := hk.2; omega))
        replace hrx := hrx.upd hu25 (fun k hk hl hS => by first | exact (show False from hS).elim | (simp only [At, New] at *; omega))
        replace hb11 := hb11.upd hu25 (by first | exact (fun h => h) | (simp only [At]; omega) | (intro hS; have := hMut _ hS; omega))
        replace hy := hy.upd hu25 (fun k hk hl hS => by first | exact (show False from hS).elim | (simp only [At] at hS; have := hk.2; omega))
        replace hry := hry.upd hu25 (fun k hk hl hS => by first | exact (show False from hS).elim | (simp only [At, New] at *; omega))
        replace hb13 := hb13.upd hu25 (by first | exact (fun h => h) | (simp only [At]; omega) | (intro hS; have := hMut _ hS; omega))
        refine WL.val rfl rfl rfl rfl (r_not rfl (ev_t rfl)) ?_
        refine WL.val rfl rfl rfl rfl (r_move rfl (ev_t rfl)) ?_
        refine WL.cases 56 rfl (fun hb11_6 => ?_) (fun hb11_6 => ?_)
        · try (exfalso; first | (simp at hb11_6; done) | (simp only [decide_eq_true_eq, decide_eq_false_iff_not, Bool.not_eq_true', Bool.not_eq_false', Bool.not_eq_true, Bool.not_eq_false] at hb11_6; omega) | omega)
          all_goals
           try simp only [decide_eq_true_eq, decide_eq_false_iff_not, Bool.not_eq_true', Bool.not_eq_false', Bool.not_eq_true, Bool.not_eq_false, Option.isNone_none, Option.isNone_some, Option.isSome_none, Option.isSome_some, ne_eq, Decidable.not_not] at hb11_6
           refine WL.skip rfl rfl rfl ?_
           refine WL.skip rfl rfl rfl ?_
           refine WL.skip rfl rfl rfl ?_
           refine WL.skip rfl rfl rfl ?_
           refine WL.skip rfl rfl rfl ?_
           refine WL.skip rfl rfl rfl ?_
           refine WL.val rfl rfl rfl rfl (r_pickT rfl (ev_t rfl) ev_c) ?_
           refine WL.val rfl rfl rfl rfl (r_move rfl (ev_t rfl)) ?_
           refine WL.skip rfl rfl rfl ?_
           refine WL.skip rfl rfl rfl ?_
           refine WL.skip rfl rfl rfl ?_
           refine WL.val rfl rfl rfl rfl (r_pickT rfl (ev_t rfl) ev_c) ?_
           refine WL.nil ?_
           refine WX.keep [(5, _), (6, _), (10, _), (12, _), (14, _), (68, _)] ⟨rfl, rfl, rfl, rfl, rfl, rfl, trivial⟩ ?_
           refine WX.next ?_
           refine WC.cond_true rfl (ev_t rfl) ?_
           refine WC.seq ?_
           refine WC.region ?_
           refine WL.val rfl rfl rfl rfl (r_assign rfl ev_c) ?_
           refine WL.nil ?_
           refine WX.keep [(4, _)] ⟨rfl, trivial⟩ ?_
           refine WX.next ?_
           refine WC.ret ?_
           refine WX.thenRet ?_
           refine WX.retE1 rfl rfl ?_
           exact ⟨by simp [hopU.2.1], hU⟩
        · try (exfalso; first | (simp at hb11_6; done) | (simp only [decide_eq_true_eq, decide_eq_false_iff_not, Bool.not_eq_true', Bool.not_eq_false', Bool.not_eq_true, Bool.not_eq_false] at hb11_6; omega) | omega)
          all_goals
           try simp only [decide_eq_true_eq, decide_eq_false_iff_not, Bool.not_eq_true', Bool.not_eq_false', Bool.not_eq_true, Bool.not_eq_false, Option.isNone_none, Option.isNone_some, Option.isSome_none, Option.isSome_some, ne_eq, Decidable.not_not] at hb11_6
           first | refine WL.val rfl rfl rfl rfl (r_field0 rfl (ev_t rfl) fld_49_1) ?_ | refine WL.val rfl rfl rfl rfl (r_fieldAt rfl (ev_t rfl) fld_49_1) ?_
           refine WL.val rfl rfl rfl rfl (r_loadAgg (vs := [_, _, _]) rfl (ev_t rfl) agg_28 size_28 (cells_tl hb13)) ?_
           first | refine WL.val rfl rfl rfl rfl (r_field0 rfl (ev_t rfl) fld_49_1) ?_ | refine WL.val rfl rfl rfl rfl (r_fieldAt rfl (ev_t rfl) fld_49_1) ?_
           refine WL.val rfl rfl rfl rfl (r_loadAgg (vs := [_, _, _]) rfl (ev_t rfl) agg_28 size_28 (cells_tl hb6)) ?_
           refine WL.cons (SO.call (rsame_ok _ (fun _ => True) _ _ _ _ _ _ _ _ _ (Nat.le_refl _) (hy.mono fun _ _ => trivial) (hc.mono fun _ _ => trivial)) rfl body_16 ⟨(ev_t rfl), (ev_t rfl), trivial⟩ rfl rfl rfl rfl ?_)
           rintro v w26 ⟨bb, rfl, hbb, hu26⟩
           obtain rfl := hbb.2 hopV.1
           have hs26 := hu26.size
           replace hU := hU.trans hu26 (by first | exact (fun _ _ h => h) | exact (fun _ _ h => h.elim) | (intro k hl hk; (try simp only [At, New, Grow, From, No] at hk ⊢); omega) | (intro k hl hk; simp only [At] at hk; omega))
           replace hc := hc.upd hu26 (fun k hk hl hS => by first | exact (show False from hS).elim | (simp only [At, New] at hk hS; omega) | (simp only [At] at hS; omega) | (have := hMut k hS; omega))
           replace hb6 := hb6.upd hu26 (by first | exact (fun h => h) | (simp only [At]; omega) | (intro hS; have := hMut _ hS; omega))
           replace hb10 := hb10.upd hu26 (by first | exact (fun h => h) | (simp only [At]; omega) | (intro hS; have := hMut _ hS; omega))
           replace hx := hx.upd hu26 (fun k hk hl hS => by first | exact (show False from hS).elim | (simp only [At] at hS; have := hk.2; omega))
           replace hrx := hrx.upd hu26 (fun k hk hl hS => by first | exact (show False from hS).elim | (simp only [At, New] at *; omega))
           replace hb11 := hb11.upd hu26 (by first | exact (fun h => h) | (simp only [At]; omega) | (intro hS; have := hMut _ hS; omega))
           replace hy := hy.upd hu26 (fun k hk hl hS => by first | exact (show False from hS).elim | (simp only [At] at hS; have := hk.2; omega))
           replace hry := hry.upd hu26 (fun k hk hl hS => by first | exact (show False from hS).elim | (simp only [At, New] at *; omega))
           replace hb13 := hb13.upd hu26 (by first | exact (fun h => h) | (simp only [At]; omega) | (intro hS; have := hMut _ hS; omega))
           refine WL.val rfl rfl rfl rfl (r_not rfl (ev_t rfl)) ?_
           refine WL.val rfl rfl rfl rfl (r_pickF rfl (ev_t rfl) (ev_t rfl)) ?_
           refine WL.val rfl rfl rfl rfl (r_move rfl (ev_t rfl)) ?_
           refine WL.cases 64 rfl (fun hb11_14 => ?_) (fun hb11_14 => ?_)
           · try (exfalso; first | (simp at hb11_14; done) | (simp only [decide_eq_true_eq, decide_eq_false_iff_not, Bool.not_eq_true', Bool.not_eq_false', Bool.not_eq_true, Bool.not_eq_false] at hb11_14; omega) | omega)
             all_goals
              try simp only [decide_eq_true_eq, decide_eq_false_iff_not, Bool.not_eq_true', Bool.not_eq_false', Bool.not_eq_true, Bool.not_eq_false, Option.isNone_none, Option.isNone_some, Option.isSome_none, Option.isSome_some, ne_eq, Decidable.not_not] at hb11_14
              refine WL.skip rfl rfl rfl ?_
              refine WL.skip rfl rfl rfl ?_
              refine WL.skip rfl rfl rfl ?_
              refine WL.val rfl rfl rfl rfl (r_pickT rfl (ev_t rfl) ev_c) ?_
              refine WL.nil ?_
              refine WX.keep [(5, _), (6, _), (10, _), (12, _), (14, _), (68, _)] ⟨rfl, rfl, rfl, rfl, rfl, rfl, trivial⟩ ?_
              refine WX.next ?_
              refine WC.cond_true rfl (ev_t rfl) ?_
              refine WC.seq ?_
              refine WC.region ?_
              refine WL.val rfl rfl rfl rfl (r_assign rfl ev_c) ?_
              refine WL.nil ?_
              refine WX.keep [(4, _)] ⟨rfl, trivial⟩ ?_
              refine WX.next ?_
              refine WC.ret ?_
              refine WX.thenRet ?_
              refine WX.retE1 rfl rfl ?_
              exact ⟨by simp [hopU.2.1], hU⟩
           · try (exfalso; first | (simp at hb11_14; done) | (simp only [decide_eq_true_eq, decide_eq_false_iff_not, Bool.not_eq_true', Bool.not_eq_false', Bool.not_eq_true, Bool.not_eq_false] at hb11_14; omega) | omega)
             all_goals
              try simp only [decide_eq_true_eq, decide_eq_false_iff_not, Bool.not_eq_true', Bool.not_eq_false', Bool.not_eq_true, Bool.not_eq_false, Option.isNone_none, Option.isNone_some, Option.isSome_none, Option.isSome_some, ne_eq, Decidable.not_not] at hb11_14
              first | refine WL.val rfl rfl rfl rfl (r_field0 rfl (ev_t rfl) fld_28_0) ?_ | refine WL.val rfl rfl rfl rfl (r_fieldAt rfl (ev_t rfl) fld_28_0) ?_
              refine WL.val rfl rfl rfl rfl (r_load rfl (ev_t rfl) flat_9 (Blk.cell hb10 rfl)) ?_
              refine WL.val rfl rfl rfl rfl (r_neqStr rfl (ev_t rfl) ev_c) ?_
              refine WL.val rfl rfl rfl rfl (r_pickF rfl (ev_t rfl) (ev_t rfl)) ?_
              refine WL.nil ?_
              refine WX.keep [(5, _), (6, _), (10, _), (12, _), (14, _), (68, _)] ⟨rfl, rfl, rfl, rfl, rfl, rfl, trivial⟩ ?_
              refine WX.next ?_
              refine WC.cond rfl (ev_t rfl) (fun hc11 => ?_) (fun hc11 => ?_)
              · try simp only [decide_eq_true_eq, decide_eq_false_iff_not, Bool.not_eq_true', Bool.not_eq_false', Bool.not_eq_true, Bool.not_eq_false, Option.isNone_none, Option.isNone_some, Option.isSome_none, Option.isSome_some, ne_eq, Decidable.not_not] at hc11
                exfalso
                simp at hc11
              · try (exfalso; first | (simp at hc11; done) | (simp only [decide_eq_true_eq, decide_eq_false_iff_not, Bool.not_eq_true', Bool.not_eq_false', Bool.not_eq_true, Bool.not_eq_false] at hc11; omega) | omega)
                all_goals
                 try simp only [decide_eq_true_eq, decide_eq_false_iff_not, Bool.not_eq_true', Bool.not_eq_false', Bool.not_eq_true, Bool.not_eq_false, Option.isNone_none, Option.isNone_some, Option.isSome_none, Option.isSome_some, ne_eq, Decidable.not_not] at hc11
                 refine WC.skip ?_
                 refine WX.next ?_
                 refine WC.seq ?_
                 refine WC.seq ?_
                 refine WC.region ?_
                 refine WL.val rfl rfl rfl rfl (r_assign rfl ev_c) ?_
                 refine WL.nil ?_
                 refine WX.keep [(5, _), (6, _), (10, _), (12, _), (14, _), (15, _)] ⟨rfl, rfl, rfl, rfl, rfl, rfl, trivial⟩ ?_
                 refine WX.next ?_
                 refine WC.block ?_
                 -- loop 1: live [5, 6, 10, 12, 14, 15]
                 refine WC.keep [(5, _), (6, _), (10, _), (12, _), (14, _), (15, _)] ⟨rfl, rfl, rfl, rfl, rfl, rfl, trivial⟩ ?_
                 refine WC.loop (fun q E wA => ∃ (i : Nat), i ≤ N ∧ q = N - i ∧ Upd No w wA ∧ Rd wA (New w18 w19) (.slice Ax (varsOf U).length kx) (varsOf U).length 1 ((varsOf U).map I6) ∧ Rd wA (New w21 w22) (.slice Ay (varsOf V).length ky) (varsOf V).length 1 ((varsOf V).map I6) ∧ Blk wA b10 #[.string ⟨#[]⟩, .int .i64 (kk + 1000 + (N : Int) + (N : Int) + 1), .slice none 0 0] typ ∧ Blk wA b6 #[.int .i64 (N : Int), .string ⟨C.nm.toArray⟩, .int .i64 mc, .slice Ac C.kids.length kc] 49 ∧   E = [(5, .int .i64 kk), (6, .pointer (some ⟨b6, 0, none⟩)), (10, .pointer (some ⟨b10, 0, none⟩)), (12, .slice Ax (varsOf U).length kx), (14, .slice Ay (varsOf V).length ky), (15, .int .i64 (i : Int))]) (N) ?_ ?_
                 · exact ⟨0, by omega, by omega, hU, hrx, hry, hb10, hb6, rfl⟩
                 · clear hU hrx hry hb10 hb6
                   rintro q E wA ⟨i, hi, rfl, hU, hrx, hry, hb10, hb6, rfl⟩
                   have hNU := hopU.2.1
                   refine WC.seq ?_
                   refine WC.seq ?_
                   refine WC.region ?_
                   refine WL.val rfl rfl rfl rfl (r_move rfl (ev_t rfl)) ?_
                   refine WL.val rfl rfl rfl rfl (r_move rfl (ev_t rfl)) ?_
                   refine WL.val rfl rfl rfl rfl (r_lenSlice (ts := #[]) rfl (ev_t rfl) elem_33) ?_
                   refine WL.val rfl rfl rfl rfl (r_lss rfl (ev_t rfl) (ev_t rfl)) ?_
                   refine WL.nil ?_
                   refine WX.keep [(5, _), (6, _), (10, _), (12, _), (14, _), (15, _), (72, _)] ⟨rfl, rfl, rfl, rfl, rfl, rfl, rfl, trivial⟩ ?_
                   refine WX.next ?_
                   refine WC.cond rfl (ev_t rfl) (fun hc14 => ?_) (fun hc14 => ?_)
                   · try (exfalso; first | (simp at hc14; done) | (simp only [decide_eq_true_eq, decide_eq_false_iff_not, Bool.not_eq_true', Bool.not_eq_false', Bool.not_eq_true, Bool.not_eq_false] at hc14; omega) | omega)
                     all_goals
                      try simp only [decide_eq_true_eq, decide_eq_false_iff_not, Bool.not_eq_true', Bool.not_eq_false', Bool.not_eq_true, Bool.not_eq_false, Option.isNone_none, Option.isNone_some, Option.isSome_none, Option.isSome_some, ne_eq, Decidable.not_not] at hc14
                      have hi' : i < (varsOf U).length := by omega
                      have hyi : (varsOf U)[i]? = some (varsOf U)[i] := List.getElem?_eq_getElem hi'
                      have hym := List.mem_of_getElem? hyi
                      generalize (varsOf U)[i] = y at *
                      have hyb := hopU.2.2 y hym
                      obtain ⟨bx0, offx, rfl, _⟩ := hrx.open (by omega)
                      refine WC.skip ?_
                      refine WX.next ?_
                      refine WC.seq ?_
                      refine WC.block ?_
                      refine WC.seq ?_
                      refine WC.draws' (fun u0_ u1_ => Upd No u0_ u1_) (fun j => [0, 0, 0, 1, 0, 0, 0, 0, 0, 0, 0, 0, 1, 1, 0, 0, 0, 0, 0, 0, 0, 1, 0, 0].getD j 0) (.calm 0 (.calm 1 (.calm 2 (.calm 4 (.calm 5 (.one 3 (.calm 6 (.calm 7 (.calm 8 (.calm 9 (.calm 10 (.calm 11 (.one 12 (.one 13 (.calm 14 (.calm 15 (.calm 16 (.calm 17 (.calm 18 (.calm 20 (.held 19 (.one 21 (.calm 22 (.calm 23 (.done))))))))))))))))))))))))) mixed (by kernel_rfl) (by repeat (first | with_reducible exact Deaf.body | with_reducible apply Deaf.then | with_reducible apply Deaf.block)) ?_
                      intro w27 hu27
                      have hz27 := congrArg Array.size hu27.2.2.2
                      replace hu27 := Upd.of_draw hu27
                      have hs27 := hu27.size
                      replace hU := hU.trans hu27 (by first | exact (fun _ _ h => h) | exact (fun _ _ h => h.elim) | (intro k hl hk; (try simp only [At, New, Grow, From, No] at hk ⊢); omega) | (intro k hl hk; simp only [At] at hk; omega))
                      replace hrx := hrx.upd hu27 (fun k hk hl hS => by first | exact (show False from hS).elim | (simp only [At, New] at *; omega))
                      replace hry := hry.upd hu27 (fun k hk hl hS => by first | exact (show False from hS).elim | (simp only [At, New] at *; omega))
                      replace hb10 := hb10.upd hu27 (by first | exact (fun h => h) | (simp only [At]; omega) | (intro hS; have := hMut _ hS; omega))
                      replace hb6 := hb6.upd hu27 (by first | exact (fun h => h) | (simp only [At]; omega) | (intro hS; have := hMut _ hS; omega))
                      have hS16 := Upd.refl No w27
                      refine WN.calm _ rfl rfl rfl rfl rfl (fun _ => r_move rfl (ev_t rfl)) ?_
                      refine WN.calm _ rfl rfl rfl rfl rfl (fun _ => r_move rfl (ev_t rfl)) ?_
                      refine WN.calm _ rfl rfl rfl rfl rfl (fun _ => r_indexAddr rfl (ev_t rfl) (ev_t rfl) elem_33 size_3 (by omega) (by omega)) ?_
                      refine WN.calm _ rfl rfl rfl rfl rfl (fun _ => r_move rfl (ev_t rfl)) ?_
                      first | refine WN.calm _ rfl rfl rfl rfl rfl (fun _ => r_addN rfl (ev_t rfl) ev_c (by simp only [inK]; omega)) ?_ | refine WN.calm _ rfl rfl rfl rfl rfl (fun _ => r_add rfl (ev_t rfl) ev_c) ?_
                      refine WN.step _ rfl (SO.val rfl rfl rfl rfl (r_load rfl (ev_t rfl) flat_3 (Rd.cell hrx (j := i) (u := I6 y) (by omega) (by rw [List.getElem?_map, hyi]; rfl))) ?_)
                      refine ⟨hS16, ?_⟩
                      refine WN.calm _ rfl rfl rfl rfl rfl (fun _ => r_leq rfl (ev_t rfl) (ev_t rfl)) ?_
                      refine WN.calm _ rfl rfl rfl rfl rfl (fun _ => r_move rfl (ev_t rfl)) ?_
                      refine WN.cases 82 rfl (fun hb16_7 => ?_) (fun hb16_7 => ?_)
                      · try simp only [decide_eq_true_eq, decide_eq_false_iff_not, Bool.not_eq_true', Bool.not_eq_false', Bool.not_eq_true, Bool.not_eq_false, Option.isNone_none, Option.isNone_some, Option.isSome_none, Option.isSome_some, ne_eq, Decidable.not_not] at hb16_7
                        exfalso
                        omega
                      · try (exfalso; first | (simp at hb16_7; done) | (simp only [decide_eq_true_eq, decide_eq_false_iff_not, Bool.not_eq_true', Bool.not_eq_false', Bool.not_eq_true, Bool.not_eq_false] at hb16_7; omega) | omega)
                        all_goals
                         try simp only [decide_eq_true_eq, decide_eq_false_iff_not, Bool.not_eq_true', Bool.not_eq_false', Bool.not_eq_true, Bool.not_eq_false, Option.isNone_none, Option.isNone_some, Option.isSome_none, Option.isSome_some, ne_eq, Decidable.not_not] at hb16_7
                         refine WN.calm _ rfl rfl rfl rfl rfl (fun _ => r_move rfl (ev_t rfl)) ?_
                         refine WN.calm _ rfl rfl rfl rfl rfl (fun _ => r_move rfl (ev_t rfl)) ?_
                         refine WN.calm _ rfl rfl rfl rfl rfl (fun _ => r_move rfl (ev_t rfl)) ?_
                         refine WN.calm _ rfl rfl rfl rfl rfl (fun _ => r_indexAddr rfl (ev_t rfl) (ev_t rfl) elem_33 size_3 (by omega) (by omega)) ?_
                         refine WN.step _ rfl (SO.val rfl rfl rfl rfl (r_load rfl (ev_t rfl) flat_3 (Rd.cell hrx (j := i) (u := I6 y) (by omega) (by rw [List.getElem?_map, hyi]; rfl))) ?_)
                         refine ⟨hS16, ?_⟩
                         refine WN.step _ rfl (SO.call (has_ok hry) rfl body_30 ⟨(ev_t rfl), (ev_t rfl), trivial⟩ rfl rfl rfl rfl ?_)
                         rintro v w28 ⟨rfl, he⟩
                         obtain rfl := he.symm
                         refine ⟨hS16, ?_⟩
                         refine WN.calm _ rfl rfl rfl rfl rfl (fun _ => r_pickF rfl (ev_t rfl) (ev_t rfl)) ?_
                         refine WN.calm _ rfl rfl rfl rfl rfl (fun _ => r_move rfl (ev_t rfl)) ?_
                         refine WN.cases 90 rfl (fun hb16_15 => ?_) (fun hb16_15 => ?_)
                         · try simp only [decide_eq_true_eq, decide_eq_false_iff_not, Bool.not_eq_true', Bool.not_eq_false', Bool.not_eq_true, Bool.not_eq_false, Option.isNone_none, Option.isNone_some, Option.isSome_none, Option.isSome_some, ne_eq, Decidable.not_not] at hb16_15
                           exfalso
                           have h9 := hopV.2.2 y (by simpa using hb16_15)
                           omega
                         · try (exfalso; first | (simp at hb16_15; done) | (simp only [decide_eq_true_eq, decide_eq_false_iff_not, Bool.not_eq_true', Bool.not_eq_false', Bool.not_eq_true, Bool.not_eq_false] at hb16_15; omega) | omega)
                           all_goals
                            try simp only [decide_eq_true_eq, decide_eq_false_iff_not, Bool.not_eq_true', Bool.not_eq_false', Bool.not_eq_true, Bool.not_eq_false, Option.isNone_none, Option.isNone_some, Option.isSome_none, Option.isSome_some, ne_eq, Decidable.not_not] at hb16_15
                            refine WN.calm _ rfl rfl rfl rfl rfl (fun _ => r_move rfl (ev_t rfl)) ?_
                            refine WN.calm _ rfl rfl rfl rfl rfl (fun _ => r_move rfl (ev_t rfl)) ?_
                            refine WN.calm _ rfl rfl rfl rfl rfl (fun _ => r_indexAddr rfl (ev_t rfl) (ev_t rfl) elem_33 size_3 (by omega) (by omega)) ?_
                            first | refine WN.calm _ rfl rfl rfl rfl rfl (fun _ => r_field0 rfl (ev_t rfl) fld_28_1) ?_ | refine WN.calm _ rfl rfl rfl rfl rfl (fun _ => r_fieldAt rfl (ev_t rfl) fld_28_1) ?_
                            refine WN.held _ rfl rfl rfl rfl rfl hS16 (fun w' hS => r_load rfl (ev_t rfl) flat_3 (Rd.cell (hrx.upd hS (fun _ _ _ h => h)) (j := i) (u := I6 y) (by omega) (by rw [List.getElem?_map, hyi]; rfl))) ?_
                            refine WN.step _ rfl (SO.val rfl rfl rfl rfl (r_load rfl (ev_t rfl) flat_3 (Blk.cell hb10 rfl)) ?_)
                            refine ⟨hS16, ?_⟩
                            refine WN.calm _ rfl rfl rfl rfl rfl (fun _ => r_eql rfl (ev_t rfl) (ev_t rfl)) ?_
                            refine WN.calm _ rfl rfl rfl rfl rfl (fun _ => r_pickF rfl (ev_t rfl) (ev_t rfl)) ?_
                            refine WN.done ?_
                            refine WX.keep [(5, _), (6, _), (10, _), (12, _), (14, _), (15, _), (98, _)] ⟨rfl, rfl, rfl, rfl, rfl, rfl, rfl, trivial⟩ ?_
                            refine WX.next ?_
                            refine WC.cond rfl (ev_t rfl) (fun hc16 => ?_) (fun hc16 => ?_)
                            · try simp only [decide_eq_true_eq, decide_eq_false_iff_not, Bool.not_eq_true', Bool.not_eq_false', Bool.not_eq_true, Bool.not_eq_false, Option.isNone_none, Option.isNone_some, Option.isSome_none, Option.isSome_some, ne_eq, Decidable.not_not] at hc16
                              exfalso
                              omega
                            · try (exfalso; first | (simp at hc16; done) | (simp only [decide_eq_true_eq, decide_eq_false_iff_not, Bool.not_eq_true', Bool.not_eq_false', Bool.not_eq_true, Bool.not_eq_false] at hc16; omega) | omega)
                              all_goals
                               try simp only [decide_eq_true_eq, decide_eq_false_iff_not, Bool.not_eq_true', Bool.not_eq_false', Bool.not_eq_true, Bool.not_eq_false, Option.isNone_none, Option.isNone_some, Option.isSome_none, Option.isSome_some, ne_eq, Decidable.not_not] at hc16
                               refine WC.skip ?_
                               refine WX.blockNormal ?_
                               refine WX.next ?_
                               refine WC.region ?_
                               refine WL.val rfl rfl rfl rfl (r_move rfl (ev_t rfl)) ?_
                               first | refine WL.val rfl rfl rfl rfl (r_addN rfl (ev_t rfl) ev_c (by simp only [inK]; omega)) ?_ | refine WL.val rfl rfl rfl rfl (r_add rfl (ev_t rfl) ev_c) ?_
                               refine WL.val rfl rfl rfl rfl (r_assign rfl (ev_t rfl)) ?_
                               refine WL.nil ?_
                               refine WX.keep [(5, _), (6, _), (10, _), (12, _), (14, _), (15, _)] ⟨rfl, rfl, rfl, rfl, rfl, rfl, trivial⟩ ?_
                               refine WX.meet [(5, _), (6, _), (10, _), (12, _), (14, _), (15, _)] ⟨rfl, rfl, rfl, rfl, rfl, rfl, trivial⟩ ?_
                               exact ⟨N - (i + 1), by omega, i + 1, by omega, rfl, hU, hrx, hry, hb10, hb6, by simp⟩
                   · try (exfalso; first | (simp at hc14; done) | (simp only [decide_eq_true_eq, decide_eq_false_iff_not, Bool.not_eq_true', Bool.not_eq_false', Bool.not_eq_true, Bool.not_eq_false] at hc14; omega) | omega)
                     all_goals
                      try simp only [decide_eq_true_eq, decide_eq_false_iff_not, Bool.not_eq_true', Bool.not_eq_false', Bool.not_eq_true, Bool.not_eq_false, Option.isNone_none, Option.isNone_some, Option.isSome_none, Option.isSome_some, ne_eq, Decidable.not_not] at hc14
                      refine WC.exit ?_
                      refine WX.thenExit ?_
                      refine WX.thenExit ?_
                      refine WX.blockHere ?_
                      refine WX.next ?_
                      refine WC.seq ?_
                      refine WC.region ?_
                      refine WL.val rfl rfl rfl rfl (r_move rfl (ev_t rfl)) ?_
                      refine WL.val rfl rfl rfl rfl (r_lenSlice (ts := #[]) rfl (ev_t rfl) elem_33) ?_
                      first | refine WL.val rfl rfl rfl rfl (r_field0 rfl (ev_t rfl) fld_49_0) ?_ | refine WL.val rfl rfl rfl rfl (r_fieldAt rfl (ev_t rfl) fld_49_0) ?_
                      refine WL.val rfl rfl rfl rfl (r_load rfl (ev_t rfl) flat_3 (Blk.cell hb6 rfl)) ?_
                      refine WL.val rfl rfl rfl rfl (r_eql rfl (ev_t rfl) (ev_t rfl)) ?_
                      refine WL.val rfl rfl rfl rfl (r_assign rfl (ev_t rfl)) ?_
                      refine WL.nil ?_
                      refine WX.keep [(4, _)] ⟨rfl, trivial⟩ ?_
                      refine WX.next ?_
                      refine WC.ret ?_
                      refine WX.retE1 rfl rfl ?_
                      exact ⟨by simp [hopU.2.1], hU⟩
end Go.Proofs.Ytncakfcafkfmfaa
