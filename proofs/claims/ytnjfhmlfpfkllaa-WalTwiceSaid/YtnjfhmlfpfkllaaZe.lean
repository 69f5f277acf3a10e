/-
  Several texts put together: Wbd, Wd, Wbe, Wbf.
-/
import Derived.Test.YtnjfhmlfpfkllaaZd
/-
  wal: Open.
-/
namespace Go.Proofs.Ytnjfhmlfpfkllaa
open Go
set_option linter.unusedSimpArgs false
set_option linter.unusedVariables false

def st0 : WSt := ⟨0, -1, 0, []⟩
theorem walC_s {d : Nat} {a side : Int} {turn : Nat} {s : WSt} {lv : Value} : ∀ j v, [Value.int .u64 (s.term : Int), .int .i64 s.vote, .int .u64 (s.base : Int), lv][j]? = some v → (walC d a side turn s lv)[4 + j]? = some v := by
  intro j v h
  rcases j with _ | _ | _ | _ | j
  · exact h
  · exact h
  · exact h
  · exact h
  · simp at h

/-- a log and its drum, in blocks of F -/
def IsWal (w : World) (F : Nat → Prop) (p d : Nat) (D : DS) (a side : Int) (turn : Nat) (s : WSt) : Prop := ∃ (R G : Nat → Prop) (lv : Value), Blk w p (walC d a side turn s lv) 53 ∧ IsD w R d D ∧ Ents w G lv s.log ∧ F p ∧ (∀ k, R k → F k ∧ k ≠ p ∧ k < w.heap.size) ∧ (∀ k, G k → F k ∧ k ≠ p ∧ ¬ R k ∧ k < w.heap.size)
theorem IsWal.upd {w w' : World} {F H : Nat → Prop} {p d : Nat} {D : DS} {a side : Int} {turn : Nat} {s : WSt} (h : IsWal w F p d D a side turn s) (hu : Upd H w w') (hn : ∀ k, F k → k < w.heap.size → ¬ H k) : IsWal w' F p d D a side turn s := by
  obtain ⟨R, G, lv, h1, h2, h3, h4, h5, h6⟩ := h
  have hs := hu.size
  refine ⟨R, G, lv, h1.upd hu (hn _ h4 h1.lt), h2.upd hu (fun k hk hl => hn k (h5 k hk).1 hl), h3.upd hu (fun k hk hl => hn k (h6 k hk).1 hl), h4, fun k hk => ?_, fun k hk => ?_⟩
  · have := h5 k hk; exact ⟨this.1, this.2.1, by omega⟩
  · have := h6 k hk; exact ⟨this.1, this.2.1, this.2.2.1, by omega⟩
theorem IsWal.mono {w : World} {F F' : Nat → Prop} {p d : Nat} {D : DS} {a side : Int} {turn : Nat} {s : WSt} (h : IsWal w F p d D a side turn s) (hF : ∀ k, F k → k < w.heap.size → F' k) : IsWal w F' p d D a side turn s := by
  obtain ⟨R, G, lv, h1, h2, h3, h4, h5, h6⟩ := h
  refine ⟨R, G, lv, h1, h2, h3, hF _ h4 h1.lt, fun k hk => ?_, fun k hk => ?_⟩
  · have := h5 k hk; exact ⟨hF k this.1 this.2.2, this.2⟩
  · have := h6 k hk; exact ⟨hF k this.1 this.2.2.2, this.2⟩

set_option maxHeartbeats 4000000 in
theorem Open_ok {w : World} {Fd : Nat → Prop} {d a nt most n : Nat} {T : Nat → List UInt8} {D : DS} {A : Nat → Nat} {S : Nat → WSt} {N : Nat → Nat} (hD : IsD w Fd d D) (hQ : QD D nt most T)
    (ha : a + 1 < nt) (hn : nt ≤ 8) (hm : 102 ≤ most) (hTa : T a = []) (hA0 : A 0 = 0) (hS0 : S 0 = st0) (hN0 : N 0 = 0)
    (hst : ∀ j, j < n → StepS (T (a + 1)) (A j) (S j) (N j) (A (j + 1)) (S (j + 1)) (N (j + 1))) (hend : A n = (T (a + 1)).length) (hlen : (T (a + 1)).length ≤ 10000000) (hcase : n = 0 ∨ 0 < N n) :
    Ret Try.prog 14 #[.pointer (some ⟨d, 0, none⟩), .int .i64 (a : Int)] w fun u w' => ∃ (p turn : Nat) (s : WSt) (D' : DS) (T' : Nat → List UInt8), u = .tuple #[.pointer (some ⟨p, 0, none⟩), .int .i64 0] ∧
      IsWal w' (Grow Fd w w') p d D' a 1 turn s ∧ QD D' nt most T' ∧ Upd Fd w w' ∧ p = w.heap.size ∧
      ((n = 0 ∧ turn = 1 ∧ s = st0 ∧ T' = putA T (a + 1) (allB 0 (-1) 0 1)) ∨ (0 < N n ∧ turn = N n ∧ s = S n ∧ T' = T)) := by
  have hD0 := hD
  replace hD : IsD w (fun k => Fd k ∧ k < w.heap.size) d D := hD.mono (fun k hk hl => ⟨hk, hl⟩)
  obtain ⟨Fx, hFx⟩ : ∃ Fx : Nat → Prop, Fx = fun k => Fd k ∧ k < w.heap.size := ⟨_, rfl⟩
  rw [← hFx] at hD
  have hFb : ∀ k, Fx k → Fd k ∧ k < w.heap.size := fun k hk => by rw [hFx] at hk; exact hk
  refine enterRet (vs := [_, _]) (N := 106) Try.func14 rfl rfl rfl ?_
  have hU := Upd.refl No w
  refine WC.keep [(0, _), (1, _)] ⟨rfl, rfl, trivial⟩ ?_
  refine WC.seq ?_
  refine WC.region ?_
  refine WL.val rfl rfl rfl rfl (r_assign rfl ev_c) ?_
  refine WL.val rfl rfl rfl rfl (r_assign rfl ev_c) ?_
  refine WL.nil ?_
  refine WX.keep [(0, _), (1, _)] ⟨rfl, rfl, trivial⟩ ?_
  refine WX.next ?_
  refine WC.seq ?_
  refine WC.seq ?_
  refine WC.region ?_
  refine WL.val rfl rfl rfl rfl (r_move rfl (ev_t rfl)) ?_
  refine WL.val rfl rfl rfl rfl (r_eqlPtrNil rfl (ev_t rfl) ev_c ptr_24) ?_
  refine WL.nil ?_
  refine WX.keep [(0, _), (1, _), (17, _)] ⟨rfl, rfl, rfl, trivial⟩ ?_
  refine WX.next ?_
  refine WC.cond rfl (ev_t rfl) (fun hc1 => ?_) (fun hc1 => ?_)
  · try (exfalso; first | (simp at hc1; done) | (simp only [decide_eq_true_eq, decide_eq_false_iff_not, Bool.not_eq_true', Bool.not_eq_false', Bool.not_eq_true, Bool.not_eq_false] at hc1; omega) | omega)
    all_goals
     try simp only [decide_eq_true_eq, decide_eq_false_iff_not, Bool.not_eq_true', Bool.not_eq_false', Bool.not_eq_true, Bool.not_eq_false, Option.isNone_none, Option.isNone_some, Option.isSome_none, Option.isSome_some, ne_eq, Decidable.not_not] at hc1
     refine WC.seq ?_
     refine WC.region ?_
     refine WL.val rfl rfl rfl rfl (r_assign rfl ev_c) ?_
     refine WL.val rfl rfl rfl rfl (r_assign rfl ev_c) ?_
     refine WL.nil ?_
     refine WX.keep [(4, _), (5, _)] ⟨rfl, rfl, trivial⟩ ?_
     refine WX.next ?_
     refine WC.ret ?_
     refine WX.thenRet ?_
     refine WX.retE2 rfl rfl rfl ?_
     fail
  · try (exfalso; first | (simp at hc1; done) | (simp only [decide_eq_true_eq, decide_eq_false_iff_not, Bool.not_eq_true', Bool.not_eq_false', Bool.not_eq_true, Bool.not_eq_false] at hc1; omega) | omega)
    all_goals
     try simp only [decide_eq_true_eq, decide_eq_false_iff_not, Bool.not_eq_true', Bool.not_eq_false', Bool.not_eq_true, Bool.not_eq_false, Option.isNone_none, Option.isNone_some, Option.isSome_none, Option.isSome_some, ne_eq, Decidable.not_not] at hc1
     refine WC.skip ?_
     refine WX.next ?_
     refine WC.seq ?_
     refine WC.seq ?_
     refine WC.region ?_
     refine WL.val rfl rfl rfl rfl (r_move rfl (ev_t rfl)) ?_
     refine WL.val rfl rfl rfl rfl (r_lss rfl (ev_t rfl) ev_c) ?_
     refine WL.val rfl rfl rfl rfl (r_move rfl (ev_t rfl)) ?_
     refine WL.cases 20 rfl (fun hb3_2 => ?_) (fun hb3_2 => ?_)
     · try (exfalso; first | (simp at hb3_2; done) | (simp only [decide_eq_true_eq, decide_eq_false_iff_not, Bool.not_eq_true', Bool.not_eq_false', Bool.not_eq_true, Bool.not_eq_false] at hb3_2; omega) | omega)
       all_goals
        try simp only [decide_eq_true_eq, decide_eq_false_iff_not, Bool.not_eq_true', Bool.not_eq_false', Bool.not_eq_true, Bool.not_eq_false, Option.isNone_none, Option.isNone_some, Option.isSome_none, Option.isSome_some, ne_eq, Decidable.not_not] at hb3_2
        omega
        refine WL.skip rfl rfl rfl ?_
        refine WL.skip rfl rfl rfl ?_
        refine WL.skip rfl rfl rfl ?_
        refine WL.skip rfl rfl rfl ?_
        refine WL.skip rfl rfl rfl ?_
        refine WL.val rfl rfl rfl rfl (r_pickT rfl (ev_t rfl) ev_c) ?_
        refine WL.nil ?_
        refine WX.keep [(0, _), (1, _), (26, _)] ⟨rfl, rfl, rfl, trivial⟩ ?_
        refine WX.next ?_
        refine WC.cond_true rfl (ev_t rfl) ?_
        refine WC.seq ?_
        refine WC.region ?_
        refine WL.val rfl rfl rfl rfl (r_assign rfl ev_c) ?_
        refine WL.val rfl rfl rfl rfl (r_assign rfl ev_c) ?_
        refine WL.nil ?_
        refine WX.keep [(4, _), (5, _)] ⟨rfl, rfl, trivial⟩ ?_
        refine WX.next ?_
        refine WC.ret ?_
        refine WX.thenRet ?_
        refine WX.retE2 rfl rfl rfl ?_
        fail
     · try (exfalso; first | (simp at hb3_2; done) | (simp only [decide_eq_true_eq, decide_eq_false_iff_not, Bool.not_eq_true', Bool.not_eq_false', Bool.not_eq_true, Bool.not_eq_false] at hb3_2; omega) | omega)
       all_goals
        try simp only [decide_eq_true_eq, decide_eq_false_iff_not, Bool.not_eq_true', Bool.not_eq_false', Bool.not_eq_true, Bool.not_eq_false, Option.isNone_none, Option.isNone_some, Option.isSome_none, Option.isSome_some, ne_eq, Decidable.not_not] at hb3_2
        refine WL.val rfl rfl rfl rfl (r_move rfl (ev_t rfl)) ?_
        refine WL.val rfl rfl rfl rfl (r_move rfl (ev_t rfl)) ?_
        refine WL.cons (SO.call (Tracks_ok hD) rfl body_24 ⟨(ev_t rfl), trivial⟩ rfl rfl rfl rfl ?_)
        rw [hQ.len]
        rintro v w1 ⟨rfl, he⟩
        obtain rfl := he
        first | refine WL.val rfl rfl rfl rfl (r_subN rfl (ev_t rfl) ev_c (by simp only [inK]; omega)) ?_ | refine WL.val rfl rfl rfl rfl (r_sub rfl (ev_t rfl) ev_c) ?_
        refine WL.val rfl rfl rfl rfl (r_gtr rfl (ev_t rfl) (ev_t rfl)) ?_
        refine WL.val rfl rfl rfl rfl (r_pickF rfl (ev_t rfl) (ev_t rfl)) ?_
        refine WL.nil ?_
        refine WX.keep [(0, _), (1, _), (26, _)] ⟨rfl, rfl, rfl, trivial⟩ ?_
        refine WX.next ?_
        refine WC.cond rfl (ev_t rfl) (fun hc3 => ?_) (fun hc3 => ?_)
        · try (exfalso; first | (simp at hc3; done) | (simp only [decide_eq_true_eq, decide_eq_false_iff_not, Bool.not_eq_true', Bool.not_eq_false', Bool.not_eq_true, Bool.not_eq_false] at hc3; omega) | omega)
          all_goals
           try simp only [decide_eq_true_eq, decide_eq_false_iff_not, Bool.not_eq_true', Bool.not_eq_false', Bool.not_eq_true, Bool.not_eq_false, Option.isNone_none, Option.isNone_some, Option.isSome_none, Option.isSome_some, ne_eq, Decidable.not_not] at hc3
           refine WC.seq ?_
           refine WC.region ?_
           refine WL.val rfl rfl rfl rfl (r_assign rfl ev_c) ?_
           refine WL.val rfl rfl rfl rfl (r_assign rfl ev_c) ?_
           refine WL.nil ?_
           refine WX.keep [(4, _), (5, _)] ⟨rfl, rfl, trivial⟩ ?_
           refine WX.next ?_
           refine WC.ret ?_
           refine WX.thenRet ?_
           refine WX.retE2 rfl rfl rfl ?_
           fail
        · try (exfalso; first | (simp at hc3; done) | (simp only [decide_eq_true_eq, decide_eq_false_iff_not, Bool.not_eq_true', Bool.not_eq_false', Bool.not_eq_true, Bool.not_eq_false] at hc3; omega) | omega)
          all_goals
           try simp only [decide_eq_true_eq, decide_eq_false_iff_not, Bool.not_eq_true', Bool.not_eq_false', Bool.not_eq_true, Bool.not_eq_false, Option.isNone_none, Option.isNone_some, Option.isSome_none, Option.isSome_some, ne_eq, Decidable.not_not] at hc3
           refine WC.skip ?_
           refine WX.next ?_
           refine WC.seq ?_
           refine WC.region ?_
           refine WL.val rfl rfl rfl rfl (r_move rfl (ev_t rfl)) ?_
           refine WL.val rfl rfl rfl rfl (r_move rfl (ev_t rfl)) ?_
           refine WL.val rfl rfl rfl rfl (r_build (cs := #[_, _, _, _]) (vs := [(1, _)]) rfl ⟨⟨rfl, ev_c⟩, trivial⟩ plc_36 zero_36 rfl) ?_
           refine WL.val rfl rfl rfl rfl (r_build (cs := #[_, _, _, _, _, _, _, _]) (vs := [(0, _), (1, _), (4, _)]) rfl ⟨⟨rfl, (ev_t rfl)⟩, ⟨rfl, (ev_t rfl)⟩, ⟨rfl, (ev_t rfl)⟩, trivial⟩ plc_53 zero_53 rfl) ?_
           refine WL.cons (SO.alloc rfl rfl rfl rfl (r_boxAgg rfl (ev_t rfl)) ?_)
           intro w2 hu2 hB2 hz2
           have hs2 := hu2.size
           replace hU := hU.transA hu2
           replace hD := hD.upd hu2 (by first | exact (fun _ _ _ h => h) | (intro k hk hl hS; simp only [At, New] at hS; have := hFb k hk; omega))
           refine WL.val rfl rfl rfl rfl (r_assign rfl (ev_t rfl)) ?_
           refine WL.nil ?_
           refine WX.keep [(0, _), (1, _), (6, _)] ⟨rfl, rfl, rfl, trivial⟩ ?_
           refine WX.next ?_
           refine WC.seq ?_
           refine WC.region ?_
           have hB := hB2
           change Blk _ _ (walC d a ((0 : Nat) : Int) 0 st0 (.slice none 0 0)) _ at hB
           refine WL.val rfl rfl rfl rfl (r_assign rfl ev_c) ?_
           refine WL.nil ?_
           refine WX.keep [(0, _), (1, _), (6, _), (7, _)] ⟨rfl, rfl, rfl, rfl, trivial⟩ ?_
           refine WX.next ?_
           refine WC.seq ?_
           refine WC.seq ?_
           refine WC.region ?_
           refine WL.val rfl rfl rfl rfl (r_move rfl ev_c) ?_
           refine WL.nil ?_
           refine WX.keep [(0, _), (1, _), (6, _), (7, _), (32, _)] ⟨rfl, rfl, rfl, rfl, rfl, trivial⟩ ?_
           refine WX.next ?_
           refine WC.block ?_
           -- loop 1: live [0, 1, 6, 7, 32]
           refine WC.keep [(0, _), (1, _), (6, _), (7, _), (32, _)] ⟨rfl, rfl, rfl, rfl, rfl, trivial⟩ ?_
           refine WC.loop (fun qq E wC => ∃ (j sd tn : Nat) (st : WSt) (lv : Value), j ≤ 2 ∧ qq = 2 - j ∧ Upd No w wC ∧ w.heap.size < wC.heap.size ∧ IsD wC Fx d D ∧ Blk wC w.heap.size (walC d a (sd : Int) tn st lv) 53 ∧ Ents wC (fun k => w.heap.size < k ∧ k < wC.heap.size) lv st.log ∧ (st.log = [] → lv = .slice none 0 0) ∧   (((j < 2 ∨ N n = 0) ∧ sd = 0 ∧ tn = 0 ∧ st = st0) ∨ (j = 2 ∧ 0 < N n ∧ sd = 1 ∧ tn = N n ∧ st = S n)) ∧ E = [(0, .pointer (some ⟨d, 0, none⟩)), (1, .int .i64 (a : Int)), (6, .pointer (some ⟨w.heap.size, 0, none⟩)), (7, .int .i64 0), (32, .int .i64 (j : Int))]) (2) ?_ ?_
           · exact ⟨0, 0, 0, st0, .slice none 0 0, by omega, by omega, hU, by omega, hD, hB, Ents.nil _ _, fun _ => rfl, .inl ⟨.inl (by omega), rfl, rfl, rfl⟩, rfl⟩
           · clear hU hD hB
             rintro qq E wC ⟨j, sd, tn, st, lv, hj, rfl, hU, hszC, hD, hB, hE, hlv, hcs, rfl⟩
             refine WC.seq ?_
             refine WC.region ?_
             refine WL.val rfl rfl rfl rfl (r_lss rfl (ev_t rfl) ev_c) ?_
             refine WL.nil ?_
             refine WX.keep [(0, _), (1, _), (6, _), (7, _), (32, _), (33, _)] ⟨rfl, rfl, rfl, rfl, rfl, rfl, trivial⟩ ?_
             refine WX.next ?_
             refine WC.seq ?_
             refine WC.cond rfl (ev_t rfl) (fun hc8 => ?_) (fun hc8 => ?_)
             · try (exfalso; first | (simp at hc8; done) | (simp only [decide_eq_true_eq, decide_eq_false_iff_not, Bool.not_eq_true', Bool.not_eq_false', Bool.not_eq_true, Bool.not_eq_false] at hc8; omega) | omega)
               all_goals
                try simp only [decide_eq_true_eq, decide_eq_false_iff_not, Bool.not_eq_true', Bool.not_eq_false', Bool.not_eq_true, Bool.not_eq_false, Option.isNone_none, Option.isNone_some, Option.isSome_none, Option.isSome_some, ne_eq, Decidable.not_not] at hc8
                obtain ⟨rfl, rfl, rfl⟩ : sd = 0 ∧ tn = 0 ∧ st = st0 := by rcases hcs with ⟨_, h⟩ | ⟨h, _⟩; exact h; omega
                obtain rfl := hlv rfl
                obtain ⟨m, hmn, hm0, hm1⟩ : ∃ m, m ≤ n ∧ (j = 0 → m = 0) ∧ (j = 1 → m = n) := by
                  rcases Nat.eq_zero_or_pos j with h | h
                  · exact ⟨0, by omega, fun _ => rfl, fun h => by omega⟩
                  · exact ⟨n, by omega, fun h => by omega, fun _ => rfl⟩
                have hTl : (T (a + j)).length ≤ 10000000 ∧ A m = (T (a + j)).length := by
                  rcases Nat.eq_zero_or_pos j with h | h
                  · subst h; rw [hm0 rfl, Nat.add_zero, hTa, hA0]; simp
                  · obtain rfl : j = 1 := by omega
                    rw [hm1 rfl]; exact ⟨hlen, hend⟩
                have hsm : ∀ i, i < m → StepS (T (a + j)) (A i) (S i) (N i) (A (i + 1)) (S (i + 1)) (N (i + 1)) := fun i hi => by
                  rcases Nat.eq_zero_or_pos j with h | h
                  · have := hm0 h; omega
                  · obtain rfl : j = 1 := by omega
                    exact hst i (by omega)
                have hnow := hQ.now (a + j) (by omega)
                refine WC.skip ?_
                refine WX.next ?_
                refine WC.seq ?_
                refine WC.block ?_
                refine WC.seq ?_
                refine WC.region ?_
                refine WL.val rfl rfl rfl rfl (r_move rfl (ev_t rfl)) ?_
                refine WL.val rfl rfl rfl rfl (r_assign rfl (ev_t rfl)) ?_
                refine WL.nil ?_
                refine WX.keep [(0, _), (1, _), (6, _), (7, _), (8, _), (32, _)] ⟨rfl, rfl, rfl, rfl, rfl, rfl, trivial⟩ ?_
                refine WX.next ?_
                refine WC.seq ?_
                refine WC.region ?_
                refine WL.val rfl rfl rfl rfl (r_move rfl (ev_t rfl)) ?_
                refine WL.val rfl rfl rfl rfl (r_move rfl (ev_t rfl)) ?_
                refine WL.val rfl rfl rfl rfl (r_move rfl (ev_t rfl)) ?_
                first | refine WL.val rfl rfl rfl rfl (r_addN rfl (ev_t rfl) (ev_t rfl) (by simp only [inK]; omega)) ?_ | refine WL.val rfl rfl rfl rfl (r_add rfl (ev_t rfl) (ev_t rfl)) ?_
                rw [show (a : Int) + (j : Int) = ((a + j : Nat) : Int) by omega]
                refine WL.cons (SO.call (Read_good hD (hQ.look (by omega))) rfl body_25 ⟨(ev_t rfl), (ev_t rfl), trivial⟩ rfl rfl rfl rfl ?_)
                rw [show (((a + j : Nat) : Int)).toNat = a + j by omega, hnow]
                rintro v w3 ⟨pv, rfl, hr, hu3⟩
                obtain ⟨Ar, cr, rfl, hcr⟩ := Own.form hr
                have hrd := hr.rd (by omega)
                have hs3 := hu3.size
                replace hU := hU.transA hu3
                replace hD := hD.upd hu3 (by first | exact (fun _ _ _ h => h) | (intro k hk hl hS; simp only [At, New] at hS; have := hFb k hk; omega))
                replace hB := hB.upd hu3 (by first | exact (fun h => h) | (simp only [At]; omega))
                replace hE := hE.upd hu3 (by first | exact (fun _ _ _ h => h) | (intro k hk hl hS; simp only [At, New] at hS hk; omega))
                refine WL.val rfl rfl rfl rfl (r_move rfl (ev_t rfl)) ?_
                refine WL.val rfl rfl rfl rfl (r_extract rfl (ev_t rfl) rfl) ?_
                refine WL.val rfl rfl rfl rfl (r_extract rfl (ev_t rfl) rfl) ?_
                refine WL.val rfl rfl rfl rfl (r_assign rfl (ev_t rfl)) ?_
                refine WL.val rfl rfl rfl rfl (r_assign rfl (ev_t rfl)) ?_
                refine WL.nil ?_
                refine WX.keep [(0, _), (1, _), (6, _), (7, _), (8, _), (9, _), (10, _), (32, _)] ⟨rfl, rfl, rfl, rfl, rfl, rfl, rfl, rfl, trivial⟩ ?_
                refine WX.next ?_
                refine WC.seq ?_
                refine WC.seq ?_
                refine WC.region ?_
                refine WL.val rfl rfl rfl rfl (r_move rfl (ev_t rfl)) ?_
                refine WL.val rfl rfl rfl rfl (r_neq rfl (ev_t rfl) ev_c) ?_
                refine WL.nil ?_
                refine WX.keep [(0, _), (1, _), (6, _), (7, _), (8, _), (9, _), (10, _), (32, _), (44, _)] ⟨rfl, rfl, rfl, rfl, rfl, rfl, rfl, rfl, rfl, trivial⟩ ?_
                refine WX.next ?_
                refine WC.cond rfl (ev_t rfl) (fun hc11 => ?_) (fun hc11 => ?_)
                · try (exfalso; first | (simp at hc11; done) | (simp only [decide_eq_true_eq, decide_eq_false_iff_not, Bool.not_eq_true', Bool.not_eq_false', Bool.not_eq_true, Bool.not_eq_false] at hc11; omega) | omega)
                  all_goals
                   try simp only [decide_eq_true_eq, decide_eq_false_iff_not, Bool.not_eq_true', Bool.not_eq_false', Bool.not_eq_true, Bool.not_eq_false, Option.isNone_none, Option.isNone_some, Option.isSome_none, Option.isSome_some, ne_eq, Decidable.not_not] at hc11
                   refine WC.seq ?_
                   refine WC.region ?_
                   refine WL.val rfl rfl rfl rfl (r_move rfl (ev_t rfl)) ?_
                   refine WL.val rfl rfl rfl rfl (r_assign rfl ev_c) ?_
                   refine WL.val rfl rfl rfl rfl (r_assign rfl (ev_t rfl)) ?_
                   refine WL.nil ?_
                   refine WX.keep [(4, _), (5, _)] ⟨rfl, rfl, trivial⟩ ?_
                   refine WX.next ?_
                   refine WC.ret ?_
                   refine WX.thenRet ?_
                   refine WX.blockRet ?_
                   refine WX.thenRet ?_
                   refine WX.thenRet ?_
                   refine WX.blockRet ?_
                   refine WX.thenRet ?_
                   refine WX.retE2 rfl rfl rfl ?_
                   fail
                · try (exfalso; first | (simp at hc11; done) | (simp only [decide_eq_true_eq, decide_eq_false_iff_not, Bool.not_eq_true', Bool.not_eq_false', Bool.not_eq_true, Bool.not_eq_false] at hc11; omega) | omega)
                  all_goals
                   try simp only [decide_eq_true_eq, decide_eq_false_iff_not, Bool.not_eq_true', Bool.not_eq_false', Bool.not_eq_true, Bool.not_eq_false, Option.isNone_none, Option.isNone_some, Option.isSome_none, Option.isSome_some, ne_eq, Decidable.not_not] at hc11
                   refine WC.skip ?_
                   refine WX.next ?_
                   refine WC.seq ?_
                   refine WC.region ?_
                   refine WL.val rfl rfl rfl rfl (r_move rfl (ev_t rfl)) ?_
                   refine WL.cons (SO.call (read_ok hrd hTl.1 hA0 hS0 hN0 hsm hTl.2) rfl body_26 ⟨(ev_t rfl), trivial⟩ rfl rfl rfl rfl ?_)
                   rintro v w4 ⟨lv', rfl, hE', hlv', hu4⟩
                   obtain ⟨Al, cl, rfl, hcl⟩ := hE'.form
                   have hE2 := hE'.mono (F' := fun k => w.heap.size < k ∧ k < w4.heap.size) (fun k hk => by simp only [New] at hk; omega)
                   have hs4 := hu4.size
                   replace hU := hU.transA hu4
                   replace hD := hD.upd hu4 (by first | exact (fun _ _ _ h => h) | (intro k hk hl hS; simp only [At, New] at hS; have := hFb k hk; omega))
                   replace hB := hB.upd hu4 (by first | exact (fun h => h) | (simp only [At]; omega))
                   replace hE := hE.upd hu4 (by first | exact (fun _ _ _ h => h) | (intro k hk hl hS; simp only [At, New] at hS hk; omega))
                   replace hrd := hrd.upd hu4 (by first | exact (fun _ _ _ h => h) | (intro k hk hl hS; simp only [At, New] at hS hk; omega))
                   refine WL.val rfl rfl rfl rfl (r_move rfl (ev_t rfl)) ?_
                   refine WL.val rfl rfl rfl rfl (r_extract rfl (ev_t rfl) rfl) ?_
                   refine WL.val rfl rfl rfl rfl (r_extract rfl (ev_t rfl) rfl) ?_
                   refine WL.val rfl rfl rfl rfl (r_extract rfl (ev_t rfl) rfl) ?_
                   refine WL.cons (SO.alloc rfl rfl rfl rfl (r_alloc rfl zero_36) ?_)
                   intro w5 hu5 hB5 hz5
                   have hs5 := hu5.size
                   replace hU := hU.transA hu5
                   replace hD := hD.upd hu5 (by first | exact (fun _ _ _ h => h) | (intro k hk hl hS; simp only [At, New] at hS; have := hFb k hk; omega))
                   replace hB := hB.upd hu5 (by first | exact (fun h => h) | (simp only [At]; omega))
                   replace hE := hE.upd hu5 (by first | exact (fun _ _ _ h => h) | (intro k hk hl hS; simp only [At, New] at hS hk; omega))
                   replace hrd := hrd.upd hu5 (by first | exact (fun _ _ _ h => h) | (intro k hk hl hS; simp only [At, New] at hS hk; omega))
                   replace hE2 := hE2.upd hu5 (by first | exact (fun _ _ _ h => h) | (intro k hk hl hS; simp only [At] at hS; omega))
                   refine WL.cons (SO.storeAll (us := [_, _, _, _]) rfl (ev_t rfl) (ev_t rfl) size_36 hB5 rfl rfl rfl rfl rfl ?_)
                   intro w6 hu6 hB5 hz6
                   have hs6 := hu6.size
                   replace hU := hU.transA hu6
                   replace hD := hD.upd hu6 (by first | exact (fun _ _ _ h => h) | (intro k hk hl hS; simp only [At, New] at hS; have := hFb k hk; omega))
                   replace hB := hB.upd hu6 (by first | exact (fun h => h) | (simp only [At]; omega))
                   replace hE := hE.upd hu6 (by first | exact (fun _ _ _ h => h) | (intro k hk hl hS; simp only [At, New] at hS hk; omega))
                   replace hrd := hrd.upd hu6 (by first | exact (fun _ _ _ h => h) | (intro k hk hl hS; simp only [At, New] at hS hk; omega))
                   replace hE2 := hE2.upd hu6 (by first | exact (fun _ _ _ h => h) | (intro k hk hl hS; simp only [At] at hS; omega))
                   refine WL.val rfl rfl rfl rfl (r_assign rfl (ev_t rfl)) ?_
                   refine WL.val rfl rfl rfl rfl (r_assign rfl (ev_t rfl)) ?_
                   refine WL.nil ?_
                   refine WX.keep [(0, _), (1, _), (6, _), (7, _), (8, _), (9, _), (11, _), (12, _), (13, _), (32, _)] ⟨rfl, rfl, rfl, rfl, rfl, rfl, rfl, rfl, rfl, rfl, trivial⟩ ?_
                   refine WX.next ?_
                   refine WC.seq ?_
                   refine WC.region ?_
                   have h11 := hB5
                   change Blk _ _ (stC (S m) (.slice Al (S m).log.length cl)) _ at h11
                   refine WL.val rfl rfl rfl rfl (r_move rfl (ev_t rfl)) ?_
                   refine WL.val rfl rfl rfl rfl (r_move rfl (ev_t rfl)) ?_
                   refine WL.val rfl rfl rfl rfl (r_nilCheck rfl (ev_t rfl)) ?_
                   first | refine WL.val rfl rfl rfl rfl (r_field0 rfl (ev_t rfl) fld_53_3) ?_ | refine WL.val rfl rfl rfl rfl (r_fieldAt rfl (ev_t rfl) fld_53_3) ?_
                   refine WL.val rfl rfl rfl rfl (r_load rfl (ev_t rfl) flat_29 (Blk.cell hB rfl)) ?_
                   refine WL.val rfl rfl rfl rfl (r_gtr rfl (ev_t rfl) (ev_t rfl)) ?_
                   refine WL.nil ?_
                   refine WX.keep [(0, _), (1, _), (6, _), (7, _), (8, _), (9, _), (11, _), (12, _), (13, _), (32, _), (57, _)] ⟨rfl, rfl, rfl, rfl, rfl, rfl, rfl, rfl, rfl, rfl, rfl, trivial⟩ ?_
                   refine WX.next ?_
                   refine WC.cond rfl (ev_t rfl) (fun hc14 => ?_) (fun hc14 => ?_)
                   · try (exfalso; first | (simp at hc14; done) | (simp only [decide_eq_true_eq, decide_eq_false_iff_not, Bool.not_eq_true', Bool.not_eq_false', Bool.not_eq_true, Bool.not_eq_false] at hc14; omega) | omega)
                     all_goals
                      try simp only [decide_eq_true_eq, decide_eq_false_iff_not, Bool.not_eq_true', Bool.not_eq_false', Bool.not_eq_true, Bool.not_eq_false, Option.isNone_none, Option.isNone_some, Option.isSome_none, Option.isSome_some, ne_eq, Decidable.not_not] at hc14
                      have hNm : 0 < N m := by omega
                      obtain rfl : j = 1 := by
                        rcases Nat.eq_zero_or_pos j with h | h
                        · rw [hm0 h, hN0] at hNm; omega
                        · omega
                      obtain rfl := hm1 rfl
                      refine WC.region ?_
                      refine WL.val rfl rfl rfl rfl (r_move rfl (ev_t rfl)) ?_
                      refine WL.val rfl rfl rfl rfl (r_move rfl (ev_t rfl)) ?_
                      refine WL.val rfl rfl rfl rfl (r_move rfl (ev_t rfl)) ?_
                      refine WL.val rfl rfl rfl rfl (r_loadAgg (vs := [_, _, _, _]) rfl (ev_t rfl) agg_36 size_36 (Blk.cellsL h11)) ?_
                      refine WL.val rfl rfl rfl rfl (r_move rfl (ev_t rfl)) ?_
                      refine WL.val rfl rfl rfl rfl (r_move rfl (ev_t rfl)) ?_
                      refine WL.val rfl rfl rfl rfl (r_move rfl (ev_t rfl)) ?_
                      refine WL.val rfl rfl rfl rfl (r_lenSlice (ts := #[]) rfl (ev_t rfl) elem_22) ?_
                      refine WL.val rfl rfl rfl rfl (r_move rfl (ev_t rfl)) ?_
                      first | refine WL.val rfl rfl rfl rfl (r_subN rfl (ev_t rfl) (ev_t rfl) (by simp only [inK]; omega)) ?_ | refine WL.val rfl rfl rfl rfl (r_sub rfl (ev_t rfl) (ev_t rfl)) ?_
                      refine WL.val rfl rfl rfl rfl (r_nilCheck rfl (ev_t rfl)) ?_
                      first | refine WL.val rfl rfl rfl rfl (r_field0 rfl (ev_t rfl) fld_53_4) ?_ | refine WL.val rfl rfl rfl rfl (r_fieldAt rfl (ev_t rfl) fld_53_4) ?_
                      refine WL.cons (SO.storeN (us := [_, _, _, _]) rfl (ev_t rfl) (ev_t rfl) size_36 hB (by simp [walC]) rfl rfl rfl rfl ?_)
                      intro w7 hu7 hB hz9
                      have hs7 := hu7.size
                      replace hU := hU.transA hu7
                      replace hD := hD.upd hu7 (by first | exact (fun _ _ _ h => h) | (intro k hk hl hS; simp only [At, New] at hS; have := hFb k hk; omega))
                      replace hE := hE.upd hu7 (by first | exact (fun _ _ _ h => h) | (intro k hk hl hS; simp only [At, New] at hS hk; omega))
                      replace hrd := hrd.upd hu7 (by first | exact (fun _ _ _ h => h) | (intro k hk hl hS; simp only [At, New] at hS hk; omega))
                      replace hE2 := hE2.upd hu7 (by first | exact (fun _ _ _ h => h) | (intro k hk hl hS; simp only [At] at hS; omega))
                      replace hB5 := hB5.updA hu7
                      replace h11 := h11.upd hu7 (by first | exact (fun h => h) | (simp only [At]; omega))
                      refine WL.val rfl rfl rfl rfl (r_nilCheck rfl (ev_t rfl)) ?_
                      first | refine WL.val rfl rfl rfl rfl (r_field0 rfl (ev_t rfl) fld_53_2) ?_ | refine WL.val rfl rfl rfl rfl (r_fieldAt rfl (ev_t rfl) fld_53_2) ?_
                      refine WL.cons (SO.store rfl (ev_t rfl) (ev_t rfl) size_3 hB rfl rfl rfl rfl rfl ?_)
                      intro w8 hu8 hB hz8
                      have hs8 := hu8.size
                      replace hU := hU.transA hu8
                      replace hD := hD.upd hu8 (by first | exact (fun _ _ _ h => h) | (intro k hk hl hS; simp only [At, New] at hS; have := hFb k hk; omega))
                      replace hE := hE.upd hu8 (by first | exact (fun _ _ _ h => h) | (intro k hk hl hS; simp only [At, New] at hS hk; omega))
                      replace hrd := hrd.upd hu8 (by first | exact (fun _ _ _ h => h) | (intro k hk hl hS; simp only [At, New] at hS hk; omega))
                      replace hE2 := hE2.upd hu8 (by first | exact (fun _ _ _ h => h) | (intro k hk hl hS; simp only [At] at hS; omega))
                      replace hB5 := hB5.updA hu8
                      replace h11 := h11.upd hu8 (by first | exact (fun h => h) | (simp only [At]; omega))
                      refine WL.val rfl rfl rfl rfl (r_nilCheck rfl (ev_t rfl)) ?_
                      first | refine WL.val rfl rfl rfl rfl (r_field0 rfl (ev_t rfl) fld_53_3) ?_ | refine WL.val rfl rfl rfl rfl (r_fieldAt rfl (ev_t rfl) fld_53_3) ?_
                      refine WL.cons (SO.store rfl (ev_t rfl) (ev_t rfl) size_29 hB rfl rfl rfl rfl rfl ?_)
                      intro w9 hu9 hB hz9
                      have hs9 := hu9.size
                      replace hU := hU.transA hu9
                      replace hD := hD.upd hu9 (by first | exact (fun _ _ _ h => h) | (intro k hk hl hS; simp only [At, New] at hS; have := hFb k hk; omega))
                      replace hE := hE.upd hu9 (by first | exact (fun _ _ _ h => h) | (intro k hk hl hS; simp only [At, New] at hS hk; omega))
                      replace hrd := hrd.upd hu9 (by first | exact (fun _ _ _ h => h) | (intro k hk hl hS; simp only [At, New] at hS hk; omega))
                      replace hE2 := hE2.upd hu9 (by first | exact (fun _ _ _ h => h) | (intro k hk hl hS; simp only [At] at hS; omega))
                      replace hB5 := hB5.updA hu9
                      replace h11 := h11.upd hu9 (by first | exact (fun h => h) | (simp only [At]; omega))
                      refine WL.val rfl rfl rfl rfl (r_assign rfl (ev_t rfl)) ?_
                      refine WL.nil ?_
                      refine WX.keep [(0, _), (1, _), (6, _), (7, _), (32, _)] ⟨rfl, rfl, rfl, rfl, rfl, trivial⟩ ?_
                      refine WX.blockNormal ?_
                      refine WX.next ?_
                      refine WC.region ?_
                      first | refine WL.val rfl rfl rfl rfl (r_addN rfl (ev_t rfl) ev_c (by simp only [inK]; omega)) ?_ | refine WL.val rfl rfl rfl rfl (r_add rfl (ev_t rfl) ev_c) ?_
                      refine WL.val rfl rfl rfl rfl (r_move rfl (ev_t rfl)) ?_
                      refine WL.nil ?_
                      refine WX.keep [(0, _), (1, _), (6, _), (7, _), (32, _)] ⟨rfl, rfl, rfl, rfl, rfl, trivial⟩ ?_
                      refine WX.meet [(0, _), (1, _), (6, _), (7, _), (32, _)] ⟨rfl, rfl, rfl, rfl, rfl, trivial⟩ ?_
                      first
                        | exact ⟨0, by omega, 2, 1, N m, S m, _, by omega, by omega, hU, by omega, hD, hB, hE2.mono (fun k hk => by omega), hlv', .inr ⟨rfl, hNm, rfl, rfl, rfl⟩, by rw [hTl.2, Int.sub_self]; rfl⟩
                        | exact ⟨2 - (j + 1), by omega, j + 1, 0, 0, st0, .slice none 0 0, by omega, by omega, hU, by omega, hD, hB, Ents.nil _ _, (fun _ => rfl), .inl ⟨by (rcases Nat.eq_zero_or_pos j with h | h; left; omega; right; rw [← hm1 (by omega)]; omega), rfl, rfl, rfl⟩, rfl⟩
                   · try (exfalso; first | (simp at hc14; done) | (simp only [decide_eq_true_eq, decide_eq_false_iff_not, Bool.not_eq_true', Bool.not_eq_false', Bool.not_eq_true, Bool.not_eq_false] at hc14; omega) | omega)
                     all_goals
                      try simp only [decide_eq_true_eq, decide_eq_false_iff_not, Bool.not_eq_true', Bool.not_eq_false', Bool.not_eq_true, Bool.not_eq_false, Option.isNone_none, Option.isNone_some, Option.isSome_none, Option.isSome_some, ne_eq, Decidable.not_not] at hc14
                      refine WC.skip ?_
                      refine WX.blockNormal ?_
                      refine WX.next ?_
                      refine WC.region ?_
                      first | refine WL.val rfl rfl rfl rfl (r_addN rfl (ev_t rfl) ev_c (by simp only [inK]; omega)) ?_ | refine WL.val rfl rfl rfl rfl (r_add rfl (ev_t rfl) ev_c) ?_
                      refine WL.val rfl rfl rfl rfl (r_move rfl (ev_t rfl)) ?_
                      refine WL.nil ?_
                      refine WX.keep [(0, _), (1, _), (6, _), (7, _), (32, _)] ⟨rfl, rfl, rfl, rfl, rfl, trivial⟩ ?_
                      refine WX.meet [(0, _), (1, _), (6, _), (7, _), (32, _)] ⟨rfl, rfl, rfl, rfl, rfl, trivial⟩ ?_
                      first
                        | exact ⟨0, by omega, 2, 1, N m, S m, _, by omega, by omega, hU, by omega, hD, hB, hE2.mono (fun k hk => by omega), hlv', .inr ⟨rfl, hNm, rfl, rfl, rfl⟩, by rw [hTl.2, Int.sub_self]; rfl⟩
                        | exact ⟨2 - (j + 1), by omega, j + 1, 0, 0, st0, .slice none 0 0, by omega, by omega, hU, by omega, hD, hB, Ents.nil _ _, (fun _ => rfl), .inl ⟨by (rcases Nat.eq_zero_or_pos j with h | h; left; omega; right; rw [← hm1 (by omega)]; omega), rfl, rfl, rfl⟩, rfl⟩
             · try (exfalso; first | (simp at hc8; done) | (simp only [decide_eq_true_eq, decide_eq_false_iff_not, Bool.not_eq_true', Bool.not_eq_false', Bool.not_eq_true, Bool.not_eq_false] at hc8; omega) | omega)
               all_goals
                try simp only [decide_eq_true_eq, decide_eq_false_iff_not, Bool.not_eq_true', Bool.not_eq_false', Bool.not_eq_true, Bool.not_eq_false, Option.isNone_none, Option.isNone_some, Option.isSome_none, Option.isSome_some, ne_eq, Decidable.not_not] at hc8
                obtain rfl : j = 2 := by omega
                refine WC.exit ?_
                refine WX.thenExit ?_
                refine WX.thenExit ?_
                refine WX.blockHere ?_
                refine WX.next ?_
                refine WC.seq ?_
                refine WC.seq ?_
                refine WC.region ?_
                refine WL.val rfl rfl rfl rfl (r_move rfl (ev_t rfl)) ?_
                refine WL.val rfl rfl rfl rfl (r_nilCheck rfl (ev_t rfl)) ?_
                first | refine WL.val rfl rfl rfl rfl (r_field0 rfl (ev_t rfl) fld_53_3) ?_ | refine WL.val rfl rfl rfl rfl (r_fieldAt rfl (ev_t rfl) fld_53_3) ?_
                refine WL.val rfl rfl rfl rfl (r_load rfl (ev_t rfl) flat_29 (Blk.cell hB rfl)) ?_
                refine WL.val rfl rfl rfl rfl (r_eql rfl (ev_t rfl) ev_c) ?_
                refine WL.val rfl rfl rfl rfl (r_move rfl (ev_t rfl)) ?_
                refine WL.cases 80 rfl (fun hb17_5 => ?_) (fun hb17_5 => ?_)
                · try (exfalso; first | (simp at hb17_5; done) | (simp only [decide_eq_true_eq, decide_eq_false_iff_not, Bool.not_eq_true', Bool.not_eq_false', Bool.not_eq_true, Bool.not_eq_false] at hb17_5; omega) | omega)
                  all_goals
                   try simp only [decide_eq_true_eq, decide_eq_false_iff_not, Bool.not_eq_true', Bool.not_eq_false', Bool.not_eq_true, Bool.not_eq_false, Option.isNone_none, Option.isNone_some, Option.isSome_none, Option.isSome_some, ne_eq, Decidable.not_not] at hb17_5
                   obtain ⟨h0, rfl, rfl, rfl⟩ : N n = 0 ∧ sd = 0 ∧ tn = 0 ∧ st = st0 := by
                     rcases hcs with ⟨h, h2⟩ | ⟨_, h1, _, h2, _⟩
                     · exact ⟨by omega, h2⟩
                     · omega
                   obtain rfl := hlv rfl
                   refine WL.skip rfl rfl rfl ?_
                   refine WL.skip rfl rfl rfl ?_
                   refine WL.val rfl rfl rfl rfl (r_pickT rfl (ev_t rfl) ev_c) ?_
                   refine WL.nil ?_
                   refine WX.keep [(0, _), (1, _), (6, _), (83, _)] ⟨rfl, rfl, rfl, rfl, trivial⟩ ?_
                   refine WX.next ?_
                   refine WC.cond_true rfl (ev_t rfl) ?_
                   refine WC.seq ?_
                   refine WC.seq ?_
                   refine WC.region ?_
                   refine WL.val rfl rfl rfl rfl (r_move rfl (ev_t rfl)) ?_
                   refine WL.val rfl rfl rfl rfl (r_move rfl (ev_t rfl)) ?_
                   refine WL.val rfl rfl rfl rfl (r_nilCheck rfl (ev_t rfl)) ?_
                   first | refine WL.val rfl rfl rfl rfl (r_field0 rfl (ev_t rfl) fld_53_4) ?_ | refine WL.val rfl rfl rfl rfl (r_fieldAt rfl (ev_t rfl) fld_53_4) ?_
                   refine WL.val rfl rfl rfl rfl (r_loadAgg (vs := [_, _, _, _]) rfl (ev_t rfl) agg_36 size_36 (Blk.cellsP hB walC_s)) ?_
                   refine WL.cons (SO.call (again_ok hB hD hQ (fun k hk => by have := hFb k hk; omega) (by omega) ha hn (by omega) hm (by decide) (by simp only [inK]; omega) (by decide)) rfl body_20 ⟨(ev_t rfl), (ev_t rfl), trivial⟩ rfl rfl rfl rfl ?_)
                   rintro v w10 ⟨rfl, hB, D', hD', hQ', hu10⟩
                   have hq9 := hU.size
                   have hU9 := hU
                   clear hU
                   have hU : Upd Fd w w10 := (Upd.no hU9).trans hu10 (fun k hk hS => by rcases hS with h | h; omega; exact (hFb k h).1)
                   have hs9 := hu10.size
                   refine WL.val rfl rfl rfl rfl (r_assign rfl (ev_t rfl)) ?_
                   refine WL.nil ?_
                   refine WX.keep [(6, _), (14, _)] ⟨rfl, rfl, trivial⟩ ?_
                   refine WX.next ?_
                   refine WC.seq ?_
                   refine WC.region ?_
                   refine WL.val rfl rfl rfl rfl (r_move rfl (ev_t rfl)) ?_
                   refine WL.val rfl rfl rfl rfl (r_neq rfl (ev_t rfl) ev_c) ?_
                   refine WL.nil ?_
                   refine WX.keep [(6, _), (14, _), (91, _)] ⟨rfl, rfl, rfl, trivial⟩ ?_
                   refine WX.next ?_
                   refine WC.cond rfl (ev_t rfl) (fun hc19 => ?_) (fun hc19 => ?_)
                   · try (exfalso; first | (simp at hc19; done) | (simp only [decide_eq_true_eq, decide_eq_false_iff_not, Bool.not_eq_true', Bool.not_eq_false', Bool.not_eq_true, Bool.not_eq_false] at hc19; omega) | omega)
                     all_goals
                      try simp only [decide_eq_true_eq, decide_eq_false_iff_not, Bool.not_eq_true', Bool.not_eq_false', Bool.not_eq_true, Bool.not_eq_false, Option.isNone_none, Option.isNone_some, Option.isSome_none, Option.isSome_some, ne_eq, Decidable.not_not] at hc19
                      refine WC.seq ?_
                      refine WC.region ?_
                      refine WL.val rfl rfl rfl rfl (r_move rfl (ev_t rfl)) ?_
                      refine WL.val rfl rfl rfl rfl (r_assign rfl ev_c) ?_
                      refine WL.val rfl rfl rfl rfl (r_assign rfl (ev_t rfl)) ?_
                      refine WL.nil ?_
                      refine WX.keep [(4, _), (5, _)] ⟨rfl, rfl, trivial⟩ ?_
                      refine WX.next ?_
                      refine WC.ret ?_
                      refine WX.thenRet ?_
                      refine WX.thenRet ?_
                      refine WX.retE2 rfl rfl rfl ?_
                      fail
                   · try (exfalso; first | (simp at hc19; done) | (simp only [decide_eq_true_eq, decide_eq_false_iff_not, Bool.not_eq_true', Bool.not_eq_false', Bool.not_eq_true, Bool.not_eq_false] at hc19; omega) | omega)
                     all_goals
                      try simp only [decide_eq_true_eq, decide_eq_false_iff_not, Bool.not_eq_true', Bool.not_eq_false', Bool.not_eq_true, Bool.not_eq_false, Option.isNone_none, Option.isNone_some, Option.isSome_none, Option.isSome_some, ne_eq, Decidable.not_not] at hc19
                      refine WC.skip ?_
                      refine WX.next ?_
                      refine WC.seq ?_
                      refine WC.region ?_
                      refine WL.val rfl rfl rfl rfl (r_move rfl (ev_t rfl)) ?_
                      refine WL.val rfl rfl rfl rfl (r_assign rfl (ev_t rfl)) ?_
                      refine WL.val rfl rfl rfl rfl (r_assign rfl ev_c) ?_
                      refine WL.nil ?_
                      refine WX.keep [(4, _), (5, _)] ⟨rfl, rfl, trivial⟩ ?_
                      refine WX.next ?_
                      refine WC.ret ?_
                      refine WX.thenRet ?_
                      refine WX.retE2 rfl rfl rfl ?_
                      refine ⟨_, 1, st0, D', _, rfl, ⟨fun k => Grow Fx wC w10 k ∧ k < w10.heap.size, fun _ => False, .slice none 0 0, hB, hD'.mono (fun k hk hl => ⟨hk, hl⟩), Ents.nil _ _, .inr ⟨by omega, by omega⟩, fun k hk => ?_, fun k h => h.elim⟩, hQ', hU, rfl, .inl ⟨by omega, rfl, rfl, rfl⟩⟩
                      rcases hk.1 with h | h
                      · exact ⟨.inl (hFb k h).1, by have := (hFb k h).2; omega, hk.2⟩
                      · exact ⟨.inr ⟨by omega, hk.2⟩, by omega, hk.2⟩
                · try (exfalso; first | (simp at hb17_5; done) | (simp only [decide_eq_true_eq, decide_eq_false_iff_not, Bool.not_eq_true', Bool.not_eq_false', Bool.not_eq_true, Bool.not_eq_false] at hb17_5; omega) | omega)
                  all_goals
                   try simp only [decide_eq_true_eq, decide_eq_false_iff_not, Bool.not_eq_true', Bool.not_eq_false', Bool.not_eq_true, Bool.not_eq_false, Option.isNone_none, Option.isNone_some, Option.isSome_none, Option.isSome_some, ne_eq, Decidable.not_not] at hb17_5
                   obtain ⟨hNn, rfl, rfl, rfl⟩ : 0 < N n ∧ sd = 1 ∧ tn = N n ∧ st = S n := by
                     rcases hcs with ⟨h, _, h2, _⟩ | ⟨_, h1, h2, h3, h4⟩
                     · omega
                     · exact ⟨h1, h2, h3, h4⟩
                   refine WL.val rfl rfl rfl rfl (r_move rfl (ev_t rfl)) ?_
                   refine WL.val rfl rfl rfl rfl (r_gtr rfl (ev_t rfl) ev_c) ?_
                   refine WL.val rfl rfl rfl rfl (r_pickF rfl (ev_t rfl) (ev_t rfl)) ?_
                   refine WL.nil ?_
                   refine WX.keep [(0, _), (1, _), (6, _), (83, _)] ⟨rfl, rfl, rfl, rfl, trivial⟩ ?_
                   refine WX.next ?_
                   refine WC.cond rfl (ev_t rfl) (fun hc17 => ?_) (fun hc17 => ?_)
                   · try (exfalso; first | (simp at hc17; done) | (simp only [decide_eq_true_eq, decide_eq_false_iff_not, Bool.not_eq_true', Bool.not_eq_false', Bool.not_eq_true, Bool.not_eq_false] at hc17; omega) | omega)
                     all_goals
                      try simp only [decide_eq_true_eq, decide_eq_false_iff_not, Bool.not_eq_true', Bool.not_eq_false', Bool.not_eq_true, Bool.not_eq_false, Option.isNone_none, Option.isNone_some, Option.isSome_none, Option.isSome_some, ne_eq, Decidable.not_not] at hc17
                      refine WC.seq ?_
                      refine WC.seq ?_
                      refine WC.region ?_
                      refine WL.val rfl rfl rfl rfl (r_move rfl (ev_t rfl)) ?_
                      refine WL.val rfl rfl rfl rfl (r_move rfl (ev_t rfl)) ?_
                      refine WL.val rfl rfl rfl rfl (r_nilCheck rfl (ev_t rfl)) ?_
                      first | refine WL.val rfl rfl rfl rfl (r_field0 rfl (ev_t rfl) fld_53_4) ?_ | refine WL.val rfl rfl rfl rfl (r_fieldAt rfl (ev_t rfl) fld_53_4) ?_
                      refine WL.val rfl rfl rfl rfl (r_loadAgg (vs := [_, _, _, _]) rfl (ev_t rfl) agg_36 size_36 (Blk.cellsP hB walC_s)) ?_
                      refine WL.cons (SO.call (again_ok hB hD hQ (fun k hk => by have := hFb k hk; omega) (by omega) ha hn (by omega) hm (by decide) (by simp only [inK]; omega) (by decide)) rfl body_20 ⟨(ev_t rfl), (ev_t rfl), trivial⟩ rfl rfl rfl rfl ?_)
                      rintro v w11 ⟨rfl, hB, D', hD', hQ', hu11⟩
                      have hq9 := hU.size
                      have hU9 := hU
                      clear hU
                      have hU : Upd Fd w w11 := (Upd.no hU9).trans hu11 (fun k hk hS => by rcases hS with h | h; omega; exact (hFb k h).1)
                      have hs9 := hu11.size
                      refine WL.val rfl rfl rfl rfl (r_assign rfl (ev_t rfl)) ?_
                      refine WL.nil ?_
                      refine WX.keep [(6, _), (14, _)] ⟨rfl, rfl, trivial⟩ ?_
                      refine WX.next ?_
                      refine WC.seq ?_
                      refine WC.region ?_
                      refine WL.val rfl rfl rfl rfl (r_move rfl (ev_t rfl)) ?_
                      refine WL.val rfl rfl rfl rfl (r_neq rfl (ev_t rfl) ev_c) ?_
                      refine WL.nil ?_
                      refine WX.keep [(6, _), (14, _), (91, _)] ⟨rfl, rfl, rfl, trivial⟩ ?_
                      refine WX.next ?_
                      refine WC.cond rfl (ev_t rfl) (fun hc19 => ?_) (fun hc19 => ?_)
                      · try (exfalso; first | (simp at hc19; done) | (simp only [decide_eq_true_eq, decide_eq_false_iff_not, Bool.not_eq_true', Bool.not_eq_false', Bool.not_eq_true, Bool.not_eq_false] at hc19; omega) | omega)
                        all_goals
                         try simp only [decide_eq_true_eq, decide_eq_false_iff_not, Bool.not_eq_true', Bool.not_eq_false', Bool.not_eq_true, Bool.not_eq_false, Option.isNone_none, Option.isNone_some, Option.isSome_none, Option.isSome_some, ne_eq, Decidable.not_not] at hc19
                         refine WC.seq ?_
                         refine WC.region ?_
                         refine WL.val rfl rfl rfl rfl (r_move rfl (ev_t rfl)) ?_
                         refine WL.val rfl rfl rfl rfl (r_assign rfl ev_c) ?_
                         refine WL.val rfl rfl rfl rfl (r_assign rfl (ev_t rfl)) ?_
                         refine WL.nil ?_
                         refine WX.keep [(4, _), (5, _)] ⟨rfl, rfl, trivial⟩ ?_
                         refine WX.next ?_
                         refine WC.ret ?_
                         refine WX.thenRet ?_
                         refine WX.thenRet ?_
                         refine WX.retE2 rfl rfl rfl ?_
                         fail
                      · try (exfalso; first | (simp at hc19; done) | (simp only [decide_eq_true_eq, decide_eq_false_iff_not, Bool.not_eq_true', Bool.not_eq_false', Bool.not_eq_true, Bool.not_eq_false] at hc19; omega) | omega)
                        all_goals
                         try simp only [decide_eq_true_eq, decide_eq_false_iff_not, Bool.not_eq_true', Bool.not_eq_false', Bool.not_eq_true, Bool.not_eq_false, Option.isNone_none, Option.isNone_some, Option.isSome_none, Option.isSome_some, ne_eq, Decidable.not_not] at hc19
                         refine WC.skip ?_
                         refine WX.next ?_
                         refine WC.seq ?_
                         refine WC.region ?_
                         refine WL.val rfl rfl rfl rfl (r_move rfl (ev_t rfl)) ?_
                         refine WL.val rfl rfl rfl rfl (r_assign rfl (ev_t rfl)) ?_
                         refine WL.val rfl rfl rfl rfl (r_assign rfl ev_c) ?_
                         refine WL.nil ?_
                         refine WX.keep [(4, _), (5, _)] ⟨rfl, rfl, trivial⟩ ?_
                         refine WX.next ?_
                         refine WC.ret ?_
                         refine WX.thenRet ?_
                         refine WX.retE2 rfl rfl rfl ?_
                         refine ⟨_, 1, st0, D', _, rfl, ⟨fun k => Grow Fx wC w10 k ∧ k < w10.heap.size, fun _ => False, .slice none 0 0, hB, hD'.mono (fun k hk hl => ⟨hk, hl⟩), Ents.nil _ _, .inr ⟨by omega, by omega⟩, fun k hk => ?_, fun k h => h.elim⟩, hQ', hU, rfl, .inl ⟨by omega, rfl, rfl, rfl⟩⟩
                         rcases hk.1 with h | h
                         · exact ⟨.inl (hFb k h).1, by have := (hFb k h).2; omega, hk.2⟩
                         · exact ⟨.inr ⟨by omega, hk.2⟩, by omega, hk.2⟩
                   · try (exfalso; first | (simp at hc17; done) | (simp only [decide_eq_true_eq, decide_eq_false_iff_not, Bool.not_eq_true', Bool.not_eq_false', Bool.not_eq_true, Bool.not_eq_false] at hc17; omega) | omega)
                     all_goals
                      try simp only [decide_eq_true_eq, decide_eq_false_iff_not, Bool.not_eq_true', Bool.not_eq_false', Bool.not_eq_true, Bool.not_eq_false, Option.isNone_none, Option.isNone_some, Option.isSome_none, Option.isSome_some, ne_eq, Decidable.not_not] at hc17
                      refine WC.skip ?_
                      refine WX.next ?_
                      refine WC.seq ?_
                      refine WC.seq ?_
                      refine WC.region ?_
                      refine WL.val rfl rfl rfl rfl (r_move rfl (ev_t rfl)) ?_
                      refine WL.val rfl rfl rfl rfl (r_move rfl (ev_t rfl)) ?_
                      refine WL.val rfl rfl rfl rfl (r_move rfl (ev_t rfl)) ?_
                      refine WL.val rfl rfl rfl rfl (r_nilCheck rfl (ev_t rfl)) ?_
                      first | refine WL.val rfl rfl rfl rfl (r_field0 rfl (ev_t rfl) fld_53_2) ?_ | refine WL.val rfl rfl rfl rfl (r_fieldAt rfl (ev_t rfl) fld_53_2) ?_
                      refine WL.val rfl rfl rfl rfl (r_load rfl (ev_t rfl) flat_3 (Blk.cell hB rfl)) ?_
                      first | refine WL.val rfl rfl rfl rfl (r_addN rfl (ev_t rfl) (ev_t rfl) (by simp only [inK]; omega)) ?_ | refine WL.val rfl rfl rfl rfl (r_add rfl (ev_t rfl) (ev_t rfl)) ?_
                      rw [show (a : Int) + ((1 : Nat) : Int) = ((a + 1 : Nat) : Int) by omega]
                      refine WL.cons (SO.call (Sync_good hD (hQ.look (by omega))) rfl body_12 ⟨(ev_t rfl), (ev_t rfl), trivial⟩ rfl rfl rfl rfl ?_)
                      rw [(hQ.sync (i := a + 1) (by omega)).1]
                      rintro v w12 ⟨rfl, hD9, hu12⟩
                      have hq9 := hU.size
                      have hB9 := hB.upd hu12 (fun h => by have := (hFb _ h).2; omega)
                      have hE9 := hE.upd hu12 (fun k hk _ h => by have := (hFb _ h).2; omega)
                      have hU9 := hU
                      clear hU hB hE hD
                      have hU : Upd Fd w w12 := (Upd.no hU9).trans hu12 (fun k hk hS => (hFb k hS).1)
                      have hs9 := hu12.size
                      refine WL.val rfl rfl rfl rfl (r_assign rfl (ev_t rfl)) ?_
                      refine WL.nil ?_
                      refine WX.keep [(6, _), (15, _)] ⟨rfl, rfl, trivial⟩ ?_
                      refine WX.next ?_
                      refine WC.seq ?_
                      refine WC.region ?_
                      refine WL.val rfl rfl rfl rfl (r_move rfl (ev_t rfl)) ?_
                      refine WL.val rfl rfl rfl rfl (r_neq rfl (ev_t rfl) ev_c) ?_
                      refine WL.nil ?_
                      refine WX.keep [(6, _), (15, _), (103, _)] ⟨rfl, rfl, rfl, trivial⟩ ?_
                      refine WX.next ?_
                      refine WC.cond rfl (ev_t rfl) (fun hc23 => ?_) (fun hc23 => ?_)
                      · try (exfalso; first | (simp at hc23; done) | (simp only [decide_eq_true_eq, decide_eq_false_iff_not, Bool.not_eq_true', Bool.not_eq_false', Bool.not_eq_true, Bool.not_eq_false] at hc23; omega) | omega)
                        all_goals
                         try simp only [decide_eq_true_eq, decide_eq_false_iff_not, Bool.not_eq_true', Bool.not_eq_false', Bool.not_eq_true, Bool.not_eq_false, Option.isNone_none, Option.isNone_some, Option.isSome_none, Option.isSome_some, ne_eq, Decidable.not_not] at hc23
                         refine WC.seq ?_
                         refine WC.region ?_
                         refine WL.val rfl rfl rfl rfl (r_move rfl (ev_t rfl)) ?_
                         refine WL.val rfl rfl rfl rfl (r_assign rfl ev_c) ?_
                         refine WL.val rfl rfl rfl rfl (r_assign rfl (ev_t rfl)) ?_
                         refine WL.nil ?_
                         refine WX.keep [(4, _), (5, _)] ⟨rfl, rfl, trivial⟩ ?_
                         refine WX.next ?_
                         refine WC.ret ?_
                         refine WX.thenRet ?_
                         refine WX.retE2 rfl rfl rfl ?_
                         fail
                      · try (exfalso; first | (simp at hc23; done) | (simp only [decide_eq_true_eq, decide_eq_false_iff_not, Bool.not_eq_true', Bool.not_eq_false', Bool.not_eq_true, Bool.not_eq_false] at hc23; omega) | omega)
                        all_goals
                         try simp only [decide_eq_true_eq, decide_eq_false_iff_not, Bool.not_eq_true', Bool.not_eq_false', Bool.not_eq_true, Bool.not_eq_false, Option.isNone_none, Option.isNone_some, Option.isSome_none, Option.isSome_some, ne_eq, Decidable.not_not] at hc23
                         refine WC.skip ?_
                         refine WX.next ?_
                         refine WC.seq ?_
                         refine WC.region ?_
                         refine WL.val rfl rfl rfl rfl (r_move rfl (ev_t rfl)) ?_
                         refine WL.val rfl rfl rfl rfl (r_assign rfl (ev_t rfl)) ?_
                         refine WL.val rfl rfl rfl rfl (r_assign rfl ev_c) ?_
                         refine WL.nil ?_
                         refine WX.keep [(4, _), (5, _)] ⟨rfl, rfl, trivial⟩ ?_
                         refine WX.next ?_
                         refine WC.ret ?_
                         refine WX.retE2 rfl rfl rfl ?_
                         refine ⟨_, N n, S n, _, T, rfl, ⟨fun k => Grow Fx wC w12 k ∧ k < w12.heap.size, fun k => w.heap.size < k ∧ k < wC.heap.size, lv, hB9, hD9.mono (fun k hk hl => ⟨hk, hl⟩), hE9, .inr ⟨by omega, by omega⟩, fun k hk => ?_, fun k hk => ⟨.inr ⟨by omega, by omega⟩, by omega, fun h => ?_, by omega⟩⟩, (hQ.sync (i := a + 1) (by omega)).2, hU, rfl, .inr ⟨by omega, rfl, rfl, rfl⟩⟩
                         · rcases hk.1 with h | h
                           · exact ⟨.inl (hFb k h).1, by have := (hFb k h).2; omega, hk.2⟩
                           · exact ⟨.inr ⟨by omega, hk.2⟩, by omega, hk.2⟩
                         · rcases h.1 with h | h
                           · have := (hFb k h).2; omega
                           · omega
end Go.Proofs.Ytnjfhmlfpfkllaa

/-
  Entries that own their bytes; one more behind them; which can be written.
-/
namespace Go.Proofs.Ytnjfhmlfpfkllaa
open Go
set_option linter.unusedSimpArgs false
set_option linter.unusedVariables false

/-- entries of an own row, each with own bytes -/
def DEnts (w : World) (F : Nat → Prop) (v : Value) (L : List En) : Prop := ∃ (V : List EnV) (G H : Nat → Prop), V.map EnV.x = L ∧ Own w G 33 4 v V.length (V.flatMap EnV.cells) ∧ (∀ r ∈ V, Own w H 5 1 r.v r.x.cell.length (r.x.cell.map U8)) ∧
  (∀ k, G k → F k ∧ k < w.heap.size) ∧ ∀ k, H k → F k ∧ ¬ G k ∧ k < w.heap.size
theorem DEnts.upd {w w' : World} {F S : Nat → Prop} {v : Value} {L : List En} (h : DEnts w F v L) (hu : Upd S w w') (hn : ∀ k, F k → k < w.heap.size → ¬ S k) : DEnts w' F v L := by
  obtain ⟨V, G, H, h1, h2, h3, h4, h5⟩ := h
  refine ⟨V, G, H, h1, h2.upd hu (fun k hk hl => hn k (h4 k hk).1 hl), fun r hr => (h3 r hr).upd hu (fun k hk hl => hn k (h5 k hk).1 hl), fun k hk => ?_, fun k hk => ?_⟩
  · have := h4 k hk; exact ⟨this.1, Nat.lt_of_lt_of_le this.2 hu.size⟩
  · have := h5 k hk; exact ⟨this.1, this.2.1, Nat.lt_of_lt_of_le this.2.2 hu.size⟩
theorem DEnts.mono {w : World} {F F' : Nat → Prop} {v : Value} {L : List En} (h : DEnts w F v L) (hF : ∀ k, F k → k < w.heap.size → F' k) : DEnts w F' v L := by
  obtain ⟨V, G, H, h1, h2, h3, h4, h5⟩ := h
  exact ⟨V, G, H, h1, h2, h3, fun k hk => ⟨hF k (h4 k hk).1 (h4 k hk).2, (h4 k hk).2⟩, fun k hk => ⟨hF k (h5 k hk).1 (h5 k hk).2.2, (h5 k hk).2⟩⟩
theorem DEnts.nil (w : World) (F : Nat → Prop) : DEnts w F (.slice none 0 0) [] := ⟨[], fun _ => False, fun _ => False, rfl, Own.nil _ _ _ _, (fun r h => by cases h), (fun k h => h.elim), (fun k h => h.elim)⟩
theorem DEnts.form {w : World} {F : Nat → Prop} {v : Value} {L : List En} (h : DEnts w F v L) : ∃ A c, v = .slice A L.length c ∧ L.length ≤ c := by
  obtain ⟨V, G, H, rfl, h2, h3⟩ := h
  obtain ⟨A, c, h4, h5⟩ := h2.form
  exact ⟨A, c, by rw [List.length_map]; exact h4, by rw [List.length_map]; exact h5⟩
theorem DEnts.rd {w : World} {F : Nat → Prop} {v : Value} {L : List En} (h : DEnts w F v L) (hl : L.length ≤ 1000000) (hc : ∀ x ∈ L, x.cell.length ≤ 1000000) : Ents w F v L := by
  obtain ⟨V, G, H, h1, h2, h3, h4, h5⟩ := h
  have hl2 : V.length ≤ 1000000 := by rw [← h1, List.length_map] at hl; exact hl
  refine ⟨V, h1, (h2.rd (by omega)).mono fun k hk => (h4 k hk).1, fun r hr => ((h3 r hr).rd ?_).mono fun k hk => (h5 k hk).1⟩
  have := hc r.x (by rw [← h1]; exact List.mem_map.2 ⟨r, hr, rfl⟩)
  omega

theorem DEnts.snoc {wp wn : World} {F F' C G H : Nat → Prop} {v' cv : Value} {V : List EnV} {x : En} (hH : ∀ r ∈ V, Own wp H 5 1 r.v r.x.cell.length (r.x.cell.map U8))
    (hG1 : ∀ k, G k → F k ∧ k < wp.heap.size) (hH1 : ∀ k, H k → F k ∧ ¬ G k ∧ k < wp.heap.size) (hcl : Own wp C 5 1 cv x.cell.length (x.cell.map U8)) (hC : ∀ k, C k → F' k ∧ ¬ G k ∧ k < wp.heap.size)
    (hu : Upd G wp wn) (hO : Own wn (Grow G wp wn) 33 4 v' (V.length + 1) (V.flatMap EnV.cells ++ [.int .u64 (x.term : Int), .int .u64 (x.ses : Int), .int .u64 (x.num : Int), cv]))
    (hF : ∀ k, F k → F' k) (hN : ∀ k, wp.heap.size ≤ k → k < wn.heap.size → F' k) : DEnts wn F' v' (V.map EnV.x ++ [x]) := by
  have hsz := hu.size
  refine ⟨V ++ [⟨x, cv⟩], Grow G wp wn, fun k => H k ∨ C k, by simp, ?_, fun r hr => ?_, fun k hk => ?_, fun k hk => ?_⟩
  · rw [List.length_append, List.flatMap_append]
    exact hO
  · rcases List.mem_append.1 hr with h | h
    · exact ((hH r h).upd hu (fun k hk _ => (hH1 k hk).2.1)).mono fun k hk => .inl hk
    · obtain rfl := List.mem_singleton.1 h
      exact (hcl.upd hu (fun k hk _ => (hC k hk).2.1)).mono fun k hk => .inr hk
  · rcases hk with h | h
    · exact ⟨hF k (hG1 k h).1, by have := (hG1 k h).2; omega⟩
    · exact ⟨hN k h.1 h.2, h.2⟩
  · have hb : F' k ∧ ¬ G k ∧ k < wp.heap.size := by
      rcases hk with h | h
      · exact ⟨hF k (hH1 k h).1, (hH1 k h).2⟩
      · exact hC k h
    refine ⟨hb.1, fun h => ?_, by omega⟩
    rcases h with h | h
    · exact hb.2.1 h
    · omega

theorem OEnts.snoc {wp wn : World} {F F' C G H : Nat → Prop} {v' cv : Value} {V : List EnV} {x : En} (hH : ∀ r ∈ V, Rd wp H r.v r.x.cell.length 1 (r.x.cell.map U8))
    (hG1 : ∀ k, G k → F k ∧ k < wp.heap.size) (hH1 : ∀ k, H k → F k ∧ ¬ G k ∧ k < wp.heap.size) (hcl : Rd wp C cv x.cell.length 1 (x.cell.map U8)) (hC : ∀ k, C k → F' k ∧ ¬ G k ∧ k < wp.heap.size)
    (hu : Upd G wp wn) (hO : Own wn (Grow G wp wn) 33 4 v' (V.length + 1) (V.flatMap EnV.cells ++ [.int .u64 (x.term : Int), .int .u64 (x.ses : Int), .int .u64 (x.num : Int), cv]))
    (hF : ∀ k, F k → F' k) (hN : ∀ k, wp.heap.size ≤ k → k < wn.heap.size → F' k) : OEnts wn F' v' (V.map EnV.x ++ [x]) := by
  have hsz := hu.size
  refine ⟨V ++ [⟨x, cv⟩], Grow G wp wn, fun k => H k ∨ C k, by simp, ?_, fun r hr => ?_, fun k hk => ?_, fun k hk => ?_⟩
  · rw [List.length_append, List.flatMap_append]
    exact hO
  · rcases List.mem_append.1 hr with h | h
    · exact ((hH r h).upd hu (fun k hk _ => (hH1 k hk).2.1)).mono fun k hk => .inl hk
    · obtain rfl := List.mem_singleton.1 h
      exact (hcl.upd hu (fun k hk _ => (hC k hk).2.1)).mono fun k hk => .inr hk
  · rcases hk with h | h
    · exact ⟨hF k (hG1 k h).1, by have := (hG1 k h).2; omega⟩
    · exact ⟨hN k h.1 h.2, h.2⟩
  · have hb : F' k ∧ ¬ G k ∧ k < wp.heap.size := by
      rcases hk with h | h
      · exact ⟨hF k (hH1 k h).1, (hH1 k h).2⟩
      · exact hC k h
    refine ⟨hb.1, fun h => ?_, by omega⟩
    rcases h with h | h
    · exact hb.2.1 h
    · omega
end Go.Proofs.Ytnjfhmlfpfkllaa

/-
  wal: a copy of entries; State.
-/
namespace Go.Proofs.Ytnjfhmlfpfkllaa
open Go
set_option linter.unusedSimpArgs false
set_option linter.unusedVariables false

theorem cloneE_ok {w : World} {F : Nat → Prop} {v : Value} {L : List En} (hr : Ents w F v L) (hl : L.length ≤ 100000) :
    Ret Try.prog 16 #[v] w fun v' w' => OEnts w' (Grow F w w') v' L ∧ Upd No w w' := by
  obtain ⟨V, rfl, hr, hc⟩ := hr.bound
  rw [List.length_map] at hl
  obtain ⟨A, c, rfl, hle⟩ := hr.slice_form
  have h1 := EnV.cells_one hc
  refine enterRet (vs := [_]) (N := 8) Try.func16 rfl rfl rfl ?_
  have hU := Upd.refl No w
  refine WC.keep [(0, _)] ⟨rfl, trivial⟩ ?_
  refine WC.seq ?_
  refine WC.region ?_
  refine WL.val rfl rfl rfl rfl (r_assign rfl ev_c) ?_
  refine WL.nil ?_
  refine WX.keep [(0, _)] ⟨rfl, trivial⟩ ?_
  refine WX.next ?_
  refine WC.seq ?_
  refine WC.seq ?_
  refine WC.region ?_
  refine WL.val rfl rfl rfl rfl (r_move rfl (ev_t rfl)) ?_
  refine WL.val rfl rfl rfl rfl (r_eqlSliceNil rfl (ev_t rfl) ev_c elem_28) ?_
  refine WL.nil ?_
  refine WX.keep [(0, _), (4, _)] ⟨rfl, rfl, trivial⟩ ?_
  refine WX.next ?_
  refine WC.cond rfl (ev_t rfl) (fun hc1 => ?_) (fun hc1 => ?_)
  · try (exfalso; first | (simp at hc1; done) | (simp only [decide_eq_true_eq, decide_eq_false_iff_not, Bool.not_eq_true', Bool.not_eq_false', Bool.not_eq_true, Bool.not_eq_false] at hc1; omega) | omega)
    all_goals
     try simp only [decide_eq_true_eq, decide_eq_false_iff_not, Bool.not_eq_true', Bool.not_eq_false', Bool.not_eq_true, Bool.not_eq_false, Option.isNone_none, Option.isNone_some, Option.isSome_none, Option.isSome_some, ne_eq, Decidable.not_not] at hc1
     have h0 : V.length = 0 := by
       rcases Nat.eq_zero_or_pos V.length with h | h
       · exact h
       · obtain ⟨b, off, rfl, _⟩ := hr.open h
         simp at hc1
     refine WC.seq ?_
     refine WC.region ?_
     refine WL.val rfl rfl rfl rfl (r_assign rfl ev_c) ?_
     refine WL.nil ?_
     refine WX.keep [(2, _)] ⟨rfl, trivial⟩ ?_
     refine WX.next ?_
     refine WC.ret ?_
     refine WX.thenRet ?_
     refine WX.retE1 rfl rfl ?_
     obtain rfl := List.eq_nil_of_length_eq_zero h0
     exact ⟨OEnts.nil _ _, hU⟩
  · try (exfalso; first | (simp at hc1; done) | (simp only [decide_eq_true_eq, decide_eq_false_iff_not, Bool.not_eq_true', Bool.not_eq_false', Bool.not_eq_true, Bool.not_eq_false] at hc1; omega) | omega)
    all_goals
     try simp only [decide_eq_true_eq, decide_eq_false_iff_not, Bool.not_eq_true', Bool.not_eq_false', Bool.not_eq_true, Bool.not_eq_false, Option.isNone_none, Option.isNone_some, Option.isSome_none, Option.isSome_some, ne_eq, Decidable.not_not] at hc1
     refine WC.skip ?_
     refine WX.next ?_
     refine WC.seq ?_
     refine WC.region ?_
     refine WL.cons (SO.alloc rfl rfl rfl rfl (r_buildSlice (cs := #[]) (vs := []) rfl trivial row_28 rfl rfl) ?_)
     intro w1 hu1 hB1 hz1
     have hs1 := hu1.size
     replace hU := hU.transA hu1
     replace hr := hr.updA hu1
     refine WL.val rfl rfl rfl rfl (r_move rfl (ev_t rfl)) ?_
     refine WL.cons (SO.append (Own.of_blk (F := At _) (n := 0) (sz := 4) hB1 rfl rfl (by decide)) hr row_28 h1 (le_maxLen (by omega)) (by omega) rfl (ev_t rfl) (ev_t rfl) rfl rfl rfl rfl ?_)
     intro v2 w2 ho hu2
     have hs2 := hu2.size
     replace hU := hU.transA hu2
     replace hr := hr.updA hu2
     obtain ⟨A2, c2, rfl, hc2⟩ := Own.form ho
     refine WL.val rfl rfl rfl rfl (r_assign rfl (ev_t rfl)) ?_
     refine WL.nil ?_
     refine WX.keep [(2, _)] ⟨rfl, trivial⟩ ?_
     refine WX.next ?_
     refine WC.ret ?_
     refine WX.retE1 rfl rfl ?_
     rw [Nat.zero_add] at ho ⊢
     refine ⟨⟨V, fun k => New w w2 k, fun k => F k ∧ k < w.heap.size, rfl, ho.mono (fun k hk => by rcases hk with h | h <;> simp only [At, New] at * <;> omega), fun r hr9 => (hc r hr9).upd hU (fun _ _ _ h => h), fun k hk => ⟨.inr hk, hk.2⟩, fun k hk => ⟨.inl hk.1, fun h => by simp only [New] at h; omega, by have := hU.size; omega⟩⟩, hU⟩

set_option maxHeartbeats 4000000 in
theorem WState_ok {w : World} {p d : Nat} {a side : Int} {turn : Nat} {s : WSt} {lv : Value} {G : Nat → Prop} (hB : Blk w p (walC d a side turn s lv) 53) (hE : Ents w G lv s.log) (hl : s.log.length ≤ 1000) (hcl : ∀ x ∈ s.log, x.cell.length ≤ 100000) :
    Ret Try.prog 8 #[.pointer (some ⟨p, 0, none⟩)] w fun u w' => ∃ lv', u = .agg (stC s lv') ∧ DEnts w' (New w w') lv' s.log ∧ Upd No w w' := by
  obtain ⟨V0, hV0, hr0, hc0⟩ := hE.bound
  obtain ⟨A0, c0, rfl, hle0⟩ := hr0.slice_form
  have hpl := hB.lt
  have hlV : V0.length ≤ 1000 := by rw [← hV0, List.length_map] at hl; exact hl
  refine enterRet (vs := [_]) (N := 36) Try.func8 rfl rfl rfl ?_
  have hU := Upd.refl No w
  refine WC.keep [(0, _)] ⟨rfl, trivial⟩ ?_
  refine WC.seq ?_
  refine WC.region ?_
  refine WL.cons (SO.alloc rfl rfl rfl rfl (r_alloc rfl zero_36) ?_)
  intro w1 hu1 hB1 hz1
  have hs1 := hu1.size
  replace hU := hU.trans hu1 (by first | exact (fun _ _ h => h) | exact (fun _ _ h => h.elim) | (intro k hl hk; (try simp only [At, New, Grow, From, No] at hk ⊢); omega) | (intro k hl hk; first | (simp only [At, No] at *; omega) | (have := hGb k hk; omega)))
  refine WL.nil ?_
  refine WX.keep [(0, _), (2, _)] ⟨rfl, rfl, trivial⟩ ?_
  refine WX.next ?_
  refine WC.seq ?_
  refine WC.seq ?_
  refine WC.region ?_
  have h2 := hB1
  change Blk _ _ (stC ⟨0, 0, 0, []⟩ (.slice none 0 0)) _ at h2
  refine WL.val rfl rfl rfl rfl (r_move rfl (ev_t rfl)) ?_
  refine WL.val rfl rfl rfl rfl (r_eqlPtrNil rfl (ev_t rfl) ev_c ptr_25) ?_
  refine WL.nil ?_
  refine WX.keep [(0, _), (2, _), (7, _)] ⟨rfl, rfl, rfl, trivial⟩ ?_
  refine WX.next ?_
  refine WC.cond rfl (ev_t rfl) (fun hc1 => ?_) (fun hc1 => ?_)
  · try (exfalso; first | (simp at hc1; done) | (simp only [decide_eq_true_eq, decide_eq_false_iff_not, Bool.not_eq_true', Bool.not_eq_false', Bool.not_eq_true, Bool.not_eq_false] at hc1; omega) | omega)
    all_goals
     try simp only [decide_eq_true_eq, decide_eq_false_iff_not, Bool.not_eq_true', Bool.not_eq_false', Bool.not_eq_true, Bool.not_eq_false, Option.isNone_none, Option.isNone_some, Option.isSome_none, Option.isSome_some, ne_eq, Decidable.not_not] at hc1
     refine WC.seq ?_
     refine WC.region ?_
     refine WL.val rfl rfl rfl rfl (r_build (cs := #[_, _, _, _]) (vs := []) rfl trivial plc_36 zero_36 rfl) ?_
     fail -- store 2.1: which block? (st 2.1: name)
  · try (exfalso; first | (simp at hc1; done) | (simp only [decide_eq_true_eq, decide_eq_false_iff_not, Bool.not_eq_true', Bool.not_eq_false', Bool.not_eq_true, Bool.not_eq_false] at hc1; omega) | omega)
    all_goals
     try simp only [decide_eq_true_eq, decide_eq_false_iff_not, Bool.not_eq_true', Bool.not_eq_false', Bool.not_eq_true, Bool.not_eq_false, Option.isNone_none, Option.isNone_some, Option.isSome_none, Option.isSome_some, ne_eq, Decidable.not_not] at hc1
     refine WC.skip ?_
     refine WX.next ?_
     refine WC.seq ?_
     refine WC.region ?_
     refine WL.val rfl rfl rfl rfl (r_move rfl (ev_t rfl)) ?_
     refine WL.val rfl rfl rfl rfl (r_nilCheck rfl (ev_t rfl)) ?_
     first | refine WL.val rfl rfl rfl rfl (r_field0 rfl (ev_t rfl) fld_53_4) ?_ | refine WL.val rfl rfl rfl rfl (r_fieldAt rfl (ev_t rfl) fld_53_4) ?_
     refine WL.val rfl rfl rfl rfl (r_loadAgg (vs := [_, _, _, _]) rfl (ev_t rfl) agg_36 size_36 (Blk.cellsP (hB.upd hU (fun h => h)) walC_s)) ?_
     refine WL.cons (SO.alloc rfl rfl rfl rfl (r_alloc rfl zero_36) ?_)
     intro w2 hu2 hB2 hz2
     have hs2 := hu2.size
     replace hU := hU.trans hu2 (by first | exact (fun _ _ h => h) | exact (fun _ _ h => h.elim) | (intro k hl hk; (try simp only [At, New, Grow, From, No] at hk ⊢); omega) | (intro k hl hk; first | (simp only [At, No] at *; omega) | (have := hGb k hk; omega)))
     replace hB1 := hB1.updA hu2
     replace h2 := h2.upd hu2 (by first | exact (fun h => h) | (simp only [At]; omega) | (intro h; have := hGb _ h; omega))
     refine WL.cons (SO.storeAll (us := [_, _, _, _]) rfl (ev_t rfl) (ev_t rfl) size_36 hB2 rfl rfl rfl rfl rfl ?_)
     intro w3 hu3 hB2 hz3
     have hs3 := hu3.size
     replace hU := hU.trans hu3 (by first | exact (fun _ _ h => h) | exact (fun _ _ h => h.elim) | (intro k hl hk; (try simp only [At, New, Grow, From, No] at hk ⊢); omega) | (intro k hl hk; first | (simp only [At, No] at *; omega) | (have := hGb k hk; omega)))
     replace hB1 := hB1.updA hu3
     replace h2 := h2.upd hu3 (by first | exact (fun h => h) | (simp only [At]; omega) | (intro h; have := hGb _ h; omega))
     refine WL.nil ?_
     refine WX.keep [(0, _), (2, _), (3, _)] ⟨rfl, rfl, rfl, trivial⟩ ?_
     refine WX.next ?_
     refine WC.seq ?_
     refine WC.region ?_
     first | refine WL.val rfl rfl rfl rfl (r_field0 rfl (ev_t rfl) fld_36_3) ?_ | refine WL.val rfl rfl rfl rfl (r_fieldAt rfl (ev_t rfl) fld_36_3) ?_
     refine WL.cons (SO.store rfl (ev_t rfl) ev_c size_28 hB2 rfl rfl rfl rfl rfl ?_)
     intro w4 hu4 hB2 hz4
     have hs4 := hu4.size
     replace hU := hU.trans hu4 (by first | exact (fun _ _ h => h) | exact (fun _ _ h => h.elim) | (intro k hl hk; (try simp only [At, New, Grow, From, No] at hk ⊢); omega) | (intro k hl hk; first | (simp only [At, No] at *; omega) | (have := hGb k hk; omega)))
     replace hB1 := hB1.updA hu4
     replace h2 := h2.upd hu4 (by first | exact (fun h => h) | (simp only [At]; omega) | (intro h; have := hGb _ h; omega))
     refine WL.nil ?_
     refine WX.keep [(0, _), (2, _), (3, _)] ⟨rfl, rfl, rfl, trivial⟩ ?_
     refine WX.next ?_
     refine WC.seq ?_
     refine WC.seq ?_
     refine WC.region ?_
     have h3 := hB2
     change Blk _ _ (stC s (.slice none 0 0)) _ at h3
     rw [show w1.heap.size = w.heap.size + 1 by omega] at h3 ⊢
     have hbg : w.heap.size + 2 ≤ w4.heap.size := by omega
     refine WL.val rfl rfl rfl rfl (r_move rfl (ev_t rfl)) ?_
     refine WL.val rfl rfl rfl rfl (r_nilCheck rfl (ev_t rfl)) ?_
     first | refine WL.val rfl rfl rfl rfl (r_field0 rfl (ev_t rfl) fld_53_4) ?_ | refine WL.val rfl rfl rfl rfl (r_fieldAt rfl (ev_t rfl) fld_53_4) ?_
     first | refine WL.val rfl rfl rfl rfl (r_field0 rfl (ev_t rfl) fld_36_3) ?_ | refine WL.val rfl rfl rfl rfl (r_fieldAt rfl (ev_t rfl) fld_36_3) ?_
     refine WL.val rfl rfl rfl rfl (r_load rfl (ev_t rfl) flat_28 (Blk.cell (hB.upd hU (fun h => h)) rfl)) ?_
     refine WL.val rfl rfl rfl rfl (r_lenSlice (ts := #[]) rfl (ev_t rfl) elem_28) ?_
     refine WL.val rfl rfl rfl rfl (r_move rfl ev_c) ?_
     refine WL.nil ?_
     refine WX.keep [(2, _), (3, _), (18, _), (19, _), (20, _)] ⟨rfl, rfl, rfl, rfl, rfl, trivial⟩ ?_
     refine WX.next ?_
     refine WC.block ?_
     -- loop 1: live [2, 3, 18, 19, 20]
     refine WC.keep [(2, _), (3, _), (18, _), (19, _), (20, _)] ⟨rfl, rfl, rfl, rfl, rfl, trivial⟩ ?_
     refine WC.loop (fun qq E wC => ∃ (j : Nat) (lvj : Value), j ≤ V0.length ∧ qq = V0.length - j ∧ Upd No w wC ∧ w.heap.size + 2 ≤ wC.heap.size ∧ Blk wC w.heap.size (stC ⟨0, 0, 0, []⟩ (.slice none 0 0)) 36 ∧ Blk wC (w.heap.size + 1) (stC s lvj) 36 ∧   DEnts wC (fun k => w.heap.size + 1 < k ∧ k < wC.heap.size) lvj ((V0.take j).map EnV.x) ∧ E = [(2, .pointer (some ⟨w.heap.size, 0, none⟩)), (3, .pointer (some ⟨w.heap.size + 1, 0, none⟩)), (18, .slice A0 V0.length c0), (19, .int .i64 (V0.length : Int)), (20, .int .i64 (j : Int))]) (V0.length) ?_ ?_
     · exact ⟨0, .slice none 0 0, by omega, by omega, hU, hbg, h2, h3, DEnts.nil _ _, rfl⟩
     · clear hU h2 h3
       rintro qq E wC ⟨j, lvj, hj, rfl, hU, hbgC, h2, h3, hDE, rfl⟩
       refine WC.seq ?_
       refine WC.region ?_
       refine WL.val rfl rfl rfl rfl (r_lss rfl (ev_t rfl) (ev_t rfl)) ?_
       refine WL.nil ?_
       refine WX.keep [(2, _), (3, _), (18, _), (19, _), (20, _), (21, _)] ⟨rfl, rfl, rfl, rfl, rfl, rfl, trivial⟩ ?_
       refine WX.next ?_
       refine WC.seq ?_
       refine WC.cond rfl (ev_t rfl) (fun hc6 => ?_) (fun hc6 => ?_)
       · try (exfalso; first | (simp at hc6; done) | (simp only [decide_eq_true_eq, decide_eq_false_iff_not, Bool.not_eq_true', Bool.not_eq_false', Bool.not_eq_true, Bool.not_eq_false] at hc6; omega) | omega)
         all_goals
          try simp only [decide_eq_true_eq, decide_eq_false_iff_not, Bool.not_eq_true', Bool.not_eq_false', Bool.not_eq_true, Bool.not_eq_false, Option.isNone_none, Option.isNone_some, Option.isSome_none, Option.isSome_some, ne_eq, Decidable.not_not] at hc6
          have hjl : j < V0.length := by omega
          have hgj : V0[j]? = some V0[j] := List.getElem?_eq_getElem hjl
          have hmj : V0[j] ∈ V0 := List.getElem_mem hjl
          generalize hrj : V0[j] = r at hgj hmj
          clear hrj
          obtain ⟨rx, rv⟩ := r
          have hxc := hcl rx (by rw [← hV0]; exact List.mem_map.2 ⟨_, hmj, rfl⟩)
          obtain ⟨b0, off, rfl, _⟩ := hr0.open (by omega)
          have hcd := hc0 _ hmj
          obtain ⟨Ar, cr, hrv, hcr⟩ := hcd.slice_form
          simp only at hrv hcd
          subst hrv
          refine WC.skip ?_
          refine WX.next ?_
          refine WC.seq ?_
          refine WC.block ?_
          refine WC.seq ?_
          refine WC.region ?_
          refine WL.val rfl rfl rfl rfl (r_indexAddr rfl (ev_t rfl) (ev_t rfl) elem_28 size_33 (by omega) (by omega)) ?_
          refine WL.val rfl rfl rfl rfl (r_loadAgg (vs := [_, _, _, _]) rfl (ev_t rfl) agg_33 size_33 (Rd.cellsL (us := EnV.cells ⟨rx, _⟩) (hr0.upd hU (fun _ _ _ h => h)) (i := j * 4) (by omega) (fun q v hv => EnV.flat_get hgj hv))) ?_
          refine WL.cons (SO.alloc rfl rfl rfl rfl (r_alloc rfl zero_33) ?_)
          intro w5 hu5 hB5 hz5
          have hs5 := hu5.size
          replace hU := hU.trans hu5 (by first | exact (fun _ _ h => h) | exact (fun _ _ h => h.elim) | (intro k hl hk; (try simp only [At, New, Grow, From, No] at hk ⊢); omega) | (intro k hl hk; first | (simp only [At, No] at *; omega) | (have := hGb k hk; omega)))
          replace h2 := h2.upd hu5 (by first | exact (fun h => h) | (simp only [At]; omega) | (intro h; have := hGb _ h; omega))
          replace h3 := h3.upd hu5 (by first | exact (fun h => h) | (simp only [At]; omega) | (intro h; have := hGb _ h; omega))
          replace hDE := hDE.upd hu5 (by first | exact (fun _ _ _ h => h) | (intro k hk hl hS; simp only [At, New] at hS; omega))
          refine WL.cons (SO.storeAll (us := [_, _, _, _]) rfl (ev_t rfl) (ev_t rfl) size_33 hB5 rfl rfl rfl rfl rfl ?_)
          intro w6 hu6 hB5 hz6
          have hs6 := hu6.size
          replace hU := hU.trans hu6 (by first | exact (fun _ _ h => h) | exact (fun _ _ h => h.elim) | (intro k hl hk; (try simp only [At, New, Grow, From, No] at hk ⊢); omega) | (intro k hl hk; first | (simp only [At, No] at *; omega) | (have := hGb k hk; omega)))
          replace h2 := h2.upd hu6 (by first | exact (fun h => h) | (simp only [At]; omega) | (intro h; have := hGb _ h; omega))
          replace h3 := h3.upd hu6 (by first | exact (fun h => h) | (simp only [At]; omega) | (intro h; have := hGb _ h; omega))
          replace hDE := hDE.upd hu6 (by first | exact (fun _ _ _ h => h) | (intro k hk hl hS; simp only [At, New] at hS; omega))
          refine WL.nil ?_
          refine WX.keep [(2, _), (3, _), (5, _), (18, _), (19, _), (20, _)] ⟨rfl, rfl, rfl, rfl, rfl, rfl, trivial⟩ ?_
          refine WX.next ?_
          refine WC.seq ?_
          refine WC.region ?_
          first | refine WL.val rfl rfl rfl rfl (r_field0 rfl (ev_t rfl) fld_33_3) ?_ | refine WL.val rfl rfl rfl rfl (r_fieldAt rfl (ev_t rfl) fld_33_3) ?_
          refine WL.val rfl rfl rfl rfl (r_load rfl (ev_t rfl) flat_22 (Blk.cell hB5 rfl)) ?_
          refine WL.cons (SO.call (clone_ok (hcd.upd hU (fun _ _ _ h => h))) rfl body_18 ⟨(ev_t rfl), trivial⟩ rfl rfl rfl rfl ?_)
          rintro v w7 ⟨hcc, hu7⟩
          obtain ⟨Ac, cc, rfl, hccl⟩ := Own.form hcc
          have hCn : ∀ k, New w6 w7 k → wC.heap.size + 1 ≤ k ∧ k < w7.heap.size := fun k hk => by simp only [New] at hk; omega
          generalize New w6 w7 = C at *
          have hs7 := hu7.size
          replace hU := hU.trans hu7 (by first | exact (fun _ _ h => h) | exact (fun _ _ h => h.elim) | (intro k hl hk; (try simp only [At, New, Grow, From, No] at hk ⊢); omega) | (intro k hl hk; first | (simp only [At, No] at *; omega) | (have := hGb k hk; omega)))
          replace h2 := h2.upd hu7 (by first | exact (fun h => h) | (simp only [At]; omega) | (intro h; have := hGb _ h; omega))
          replace h3 := h3.upd hu7 (by first | exact (fun h => h) | (simp only [At]; omega) | (intro h; have := hGb _ h; omega))
          replace hDE := hDE.upd hu7 (by first | exact (fun _ _ _ h => h) | (intro k hk hl hS; simp only [At, New] at hS; omega))
          replace hB5 := hB5.updA hu7
          first | refine WL.val rfl rfl rfl rfl (r_field0 rfl (ev_t rfl) fld_33_3) ?_ | refine WL.val rfl rfl rfl rfl (r_fieldAt rfl (ev_t rfl) fld_33_3) ?_
          refine WL.cons (SO.store rfl (ev_t rfl) (ev_t rfl) size_22 hB5 rfl rfl rfl rfl rfl ?_)
          intro w8 hu8 hB5 hz8
          have hs8 := hu8.size
          replace hU := hU.trans hu8 (by first | exact (fun _ _ h => h) | exact (fun _ _ h => h.elim) | (intro k hl hk; (try simp only [At, New, Grow, From, No] at hk ⊢); omega) | (intro k hl hk; first | (simp only [At, No] at *; omega) | (have := hGb k hk; omega)))
          replace h2 := h2.upd hu8 (by first | exact (fun h => h) | (simp only [At]; omega) | (intro h; have := hGb _ h; omega))
          replace h3 := h3.upd hu8 (by first | exact (fun h => h) | (simp only [At]; omega) | (intro h; have := hGb _ h; omega))
          replace hDE := hDE.upd hu8 (by first | exact (fun _ _ _ h => h) | (intro k hk hl hS; simp only [At, New] at hS; omega))
          replace hcc := hcc.upd hu8 (by first | exact (fun _ _ _ h => h) | (intro k hk hl hS; simp only [At] at hS; have := hCn k hk; omega) | (intro k hk hl hS; have := hCn k hk; have := hGb k hS; omega))
          refine WL.nil ?_
          refine WX.keep [(2, _), (3, _), (5, _), (18, _), (19, _), (20, _)] ⟨rfl, rfl, rfl, rfl, rfl, rfl, trivial⟩ ?_
          refine WX.next ?_
          refine WC.region ?_
          have hxB := hB5
          change Blk _ _ #[.int .u64 (rx.term : Int), .int .u64 (rx.ses : Int), .int .u64 (rx.num : Int), .slice Ac rx.cell.length cc] _ at hxB
          first | refine WL.val rfl rfl rfl rfl (r_field0 rfl (ev_t rfl) fld_36_3) ?_ | refine WL.val rfl rfl rfl rfl (r_fieldAt rfl (ev_t rfl) fld_36_3) ?_
          refine WL.val rfl rfl rfl rfl (r_load rfl (ev_t rfl) flat_28 (Blk.cell h3 rfl)) ?_
          refine WL.val rfl rfl rfl rfl (r_loadAgg (vs := [_, _, _, _]) rfl (ev_t rfl) agg_33 size_33 (Blk.cellsL hxB)) ?_
          refine WL.cons (SO.alloc rfl rfl rfl rfl (r_buildSlice (cs := #[_, _, _, _]) (vs := [(0, _)]) rfl ⟨⟨rfl, (ev_t rfl)⟩, trivial⟩ row_28 rfl rfl) ?_)
          intro w9 hu9 hB9 hz9
          have hs9 := hu9.size
          replace hU := hU.trans hu9 (by first | exact (fun _ _ h => h) | exact (fun _ _ h => h.elim) | (intro k hl hk; (try simp only [At, New, Grow, From, No] at hk ⊢); omega) | (intro k hl hk; first | (simp only [At, No] at *; omega) | (have := hGb k hk; omega)))
          replace h2 := h2.upd hu9 (by first | exact (fun h => h) | (simp only [At]; omega) | (intro h; have := hGb _ h; omega))
          replace h3 := h3.upd hu9 (by first | exact (fun h => h) | (simp only [At]; omega) | (intro h; have := hGb _ h; omega))
          replace hDE := hDE.upd hu9 (by first | exact (fun _ _ _ h => h) | (intro k hk hl hS; simp only [At, New] at hS; omega))
          replace hcc := hcc.upd hu9 (by first | exact (fun _ _ _ h => h) | (intro k hk hl hS; simp only [At] at hS; have := hCn k hk; omega) | (intro k hk hl hS; have := hCn k hk; have := hGb k hS; omega))
          replace hxB := hxB.upd hu9 (by first | exact (fun h => h) | (simp only [At]; omega) | (intro h; have := hGb _ h; omega))
          obtain ⟨V, G1, H1, hV, hO, hH, hG1, hH1⟩ := hDE
          have hGb : ∀ k, G1 k → w.heap.size + 1 < k ∧ k < wC.heap.size := fun k hk => (hG1 k hk).1
          have hVj : V.length = j := by have := congrArg List.length hV; simp only [List.length_map, List.length_take] at this; omega
          obtain ⟨wp, hwp⟩ : ∃ q, q = w9 := ⟨_, rfl⟩
          have hcc0 := hcc
          have hUp := hU.size
          refine WL.cons (SO.append hO (Rd.of_blk (F := At _) (n := 1) (sz := 4) hB9 rfl rfl (by omega)) row_28 (by intro u hu; simp at hu; rcases hu with rfl | rfl | rfl | rfl <;> rfl) (le_maxLen (by omega)) (by omega) rfl (ev_t rfl) (ev_t rfl) rfl rfl rfl rfl ?_)
          intro v10 w10 hO2 hu10
          have hs10 := hu10.size
          replace hU := hU.trans hu10 (by first | exact (fun _ _ h => h) | exact (fun _ _ h => h.elim) | (intro k hl hk; (try simp only [At, New, Grow, From, No] at hk ⊢); omega) | (intro k hl hk; first | (simp only [At, No] at *; omega) | (have := hGb k hk; omega)))
          replace h2 := h2.upd hu10 (by first | exact (fun h => h) | (simp only [At]; omega) | (intro h; have := hGb _ h; omega))
          replace h3 := h3.upd hu10 (by first | exact (fun h => h) | (simp only [At]; omega) | (intro h; have := hGb _ h; omega))
          replace hcc := hcc.upd hu10 (by first | exact (fun _ _ _ h => h) | (intro k hk hl hS; simp only [At] at hS; have := hCn k hk; omega) | (intro k hk hl hS; have := hCn k hk; have := hGb k hS; omega))
          replace hxB := hxB.upd hu10 (by first | exact (fun h => h) | (simp only [At]; omega) | (intro h; have := hGb _ h; omega))
          obtain ⟨A10, c10, rfl, hc10⟩ := Own.form hO2
          have hDE := DEnts.snoc (x := rx) (F' := fun k => w.heap.size + 1 < k ∧ k < w10.heap.size) hH hG1 hH1 hcc0 (fun k hk => ⟨⟨by have := hCn k hk; omega, by have := hCn k hk; omega⟩, fun h => by have := hGb k h; have := hCn k hk; omega, by have := hCn k hk; omega⟩) hu10 hO2 (fun k hk => by omega) (fun k h1 h2 => by omega)
          rw [hV] at hDE
          skip
          first | refine WL.val rfl rfl rfl rfl (r_field0 rfl (ev_t rfl) fld_36_3) ?_ | refine WL.val rfl rfl rfl rfl (r_fieldAt rfl (ev_t rfl) fld_36_3) ?_
          refine WL.cons (SO.store rfl (ev_t rfl) (ev_t rfl) size_28 h3 rfl rfl rfl rfl rfl ?_)
          intro w11 hu11 h3 hz11
          have hs11 := hu11.size
          replace hU := hU.trans hu11 (by first | exact (fun _ _ h => h) | exact (fun _ _ h => h.elim) | (intro k hl hk; (try simp only [At, New, Grow, From, No] at hk ⊢); omega) | (intro k hl hk; first | (simp only [At, No] at *; omega) | (have := hGb k hk; omega)))
          replace h2 := h2.upd hu11 (by first | exact (fun h => h) | (simp only [At]; omega) | (intro h; have := hGb _ h; omega))
          replace hcc := hcc.upd hu11 (by first | exact (fun _ _ _ h => h) | (intro k hk hl hS; simp only [At] at hS; have := hCn k hk; omega) | (intro k hk hl hS; have := hCn k hk; have := hGb k hS; omega))
          replace hxB := hxB.upd hu11 (by first | exact (fun h => h) | (simp only [At]; omega) | (intro h; have := hGb _ h; omega))
          replace hDE := hDE.upd hu11 (by first | exact (fun _ _ _ h => h) | (intro k hk hl hS; simp only [At, New] at hS; omega))
          refine WL.nil ?_
          refine WX.keep [(2, _), (3, _), (18, _), (19, _), (20, _)] ⟨rfl, rfl, rfl, rfl, rfl, trivial⟩ ?_
          refine WX.blockNormal ?_
          refine WX.next ?_
          refine WC.region ?_
          first | refine WL.val rfl rfl rfl rfl (r_addN rfl (ev_t rfl) ev_c (by simp only [inK]; omega)) ?_ | refine WL.val rfl rfl rfl rfl (r_add rfl (ev_t rfl) ev_c) ?_
          refine WL.val rfl rfl rfl rfl (r_move rfl (ev_t rfl)) ?_
          refine WL.nil ?_
          refine WX.keep [(2, _), (3, _), (18, _), (19, _), (20, _)] ⟨rfl, rfl, rfl, rfl, rfl, trivial⟩ ?_
          refine WX.meet [(2, _), (3, _), (18, _), (19, _), (20, _)] ⟨rfl, rfl, rfl, rfl, rfl, trivial⟩ ?_
          refine ⟨V0.length - (j + 1), by omega, j + 1, _, by omega, rfl, hU, by have := hU.size; omega, h2, h3, ?_, rfl⟩
          rw [List.take_add_one, hgj, List.map_append]
          exact hDE.mono (fun k hk hl => by omega)
       · try (exfalso; first | (simp at hc6; done) | (simp only [decide_eq_true_eq, decide_eq_false_iff_not, Bool.not_eq_true', Bool.not_eq_false', Bool.not_eq_true, Bool.not_eq_false] at hc6; omega) | omega)
         all_goals
          try simp only [decide_eq_true_eq, decide_eq_false_iff_not, Bool.not_eq_true', Bool.not_eq_false', Bool.not_eq_true, Bool.not_eq_false, Option.isNone_none, Option.isNone_some, Option.isSome_none, Option.isSome_some, ne_eq, Decidable.not_not] at hc6
          obtain rfl : j = V0.length := by omega
          rw [List.take_length, hV0] at hDE
          obtain ⟨Al, cl, rfl, hcl⟩ := hDE.form
          refine WC.exit ?_
          refine WX.thenExit ?_
          refine WX.thenExit ?_
          refine WX.blockHere ?_
          refine WX.next ?_
          refine WC.seq ?_
          refine WC.region ?_
          refine WL.val rfl rfl rfl rfl (r_loadAgg (vs := [_, _, _, _]) rfl (ev_t rfl) agg_36 size_36 (Blk.cellsL h3)) ?_
          refine WL.cons (SO.storeAll (us := [_, _, _, _]) rfl (ev_t rfl) (ev_t rfl) size_36 h2 rfl rfl rfl rfl rfl ?_)
          intro w12 hu12 h2 hz12
          have hs12 := hu12.size
          replace hU := hU.trans hu12 (by first | exact (fun _ _ h => h) | exact (fun _ _ h => h.elim) | (intro k hl hk; (try simp only [At, New, Grow, From, No] at hk ⊢); omega) | (intro k hl hk; first | (simp only [At, No] at *; omega) | (have := hGb k hk; omega)))
          replace h3 := h3.upd hu12 (by first | exact (fun h => h) | (simp only [At]; omega) | (intro h; have := hGb _ h; omega))
          replace hDE := hDE.upd hu12 (by first | exact (fun _ _ _ h => h) | (intro k hk hl hS; simp only [At, New] at hS; omega))
          refine WL.nil ?_
          refine WX.keep [(2, _)] ⟨rfl, trivial⟩ ?_
          refine WX.next ?_
          refine WC.ret ?_
          refine WX.retC (vs := [_, _, _, _]) rfl rfl agg_36 size_36 (Blk.cellsL h2) ?_
          exact ⟨_, rfl, hDE.mono fun k hk _ => by simp only [New]; omega, hU⟩
end Go.Proofs.Ytnjfhmlfpfkllaa

/-
  wal: Save, where there is room and something is saved.
-/
namespace Go.Proofs.Ytnjfhmlfpfkllaa
open Go
set_option linter.unusedSimpArgs false
set_option linter.unusedVariables false

/-- entries as records -/
def entB : Nat → List En → List UInt8
  | _, [] => []
  | i, x :: l => recB 2 (En.pl i x) ++ entB (i + 1) l
theorem entB_snoc : ∀ (l : List En) (i : Nat) (x : En), entB i (l ++ [x]) = entB i l ++ recB 2 (En.pl (i + l.length) x)
  | [], i, x => by simp [entB]
  | y :: l, i, x => by
    rw [List.cons_append, entB, entB_snoc l (i + 1) x, entB, List.append_assoc, List.length_cons, show i + 1 + l.length = i + (l.length + 1) by omega]
theorem recE_len {i : Nat} {x : En} (hi : i < 18446744073709551616) (hx : x.ok) (hc : x.cell.length ≤ 4000) : (recB 2 (En.pl i x)).length ≤ 4070 := by
  have e0 := encU_len9w hi
  have e1 := encU_len9w hx.t
  have e2 := encU_len9w hx.s
  have e3 := encU_len9w hx.n
  have e4 := encU_len9w (n := x.cell.length) (by omega)
  exact Nat.le_trans (recB_len (kind := 2) (pl := En.pl i x) (m := 4045) (by decide) (by simp only [En.pl, List.length_append]; omega) (by omega)) (by omega)
theorem entB_len : ∀ (l : List En) (i : Nat), i + l.length < 18446744073709551616 → (∀ x ∈ l, x.ok ∧ x.cell.length ≤ 4000) → (entB i l).length ≤ l.length * 4070
  | [], i, _, _ => by simp [entB]
  | x :: l, i, hi, h => by
    have h1 := h x (by simp)
    rw [List.length_cons] at hi
    have h2 := entB_len l (i + 1) (by omega) (fun y hy => h y (by simp [hy]))
    have h3 := recE_len (i := i) (by omega) h1.1 h1.2
    rw [entB, List.length_append, List.length_cons]
    omega

theorem Ents.take {w : World} {F : Nat → Prop} {A : Option Addr} {n c k : Nat} {L : List En} (h : Ents w F (.slice A n c) L) (hk : k ≤ n) : Ents w F (.slice (cutA A c 0 4) (k - 0) (c - 0)) (L.take k) := by
  obtain ⟨V, h1, h2, h3⟩ := h
  obtain ⟨A', c', e, hle⟩ := h2.slice_form
  injection e with e1 e2 e3
  subst e1 e2 e3
  refine ⟨V.take k, by rw [List.map_take, h1], ?_, fun r hr => h3 r (List.mem_of_mem_take hr)⟩
  have h5 := h2.slice (l := 0) (h := k) (by omega) (by omega)
  rw [List.length_take, show min k V.length = k - 0 by omega, ← EnV.flat_take]
  simpa using h5

set_option maxHeartbeats 8000000 in
theorem Save_ok {w : World} {F Fl : Nat → Prop} {p d a side turn nt most t k0 : Nat} {v : Int} {T : Nat → List UInt8} {D : DS} {s : WSt} {lw : Value} {L : List En} (hW : IsWal w F p d D a side turn s) (hQ : QD D nt most T) (hi : a + side < nt) (hnt : nt ≤ 8) (ht : t < 18446744073709551616) (hv : -1 ≤ v ∧ v < 7)
    (hk0 : k0 ≤ s.log.length) (hsb : s.base + 1 + s.log.length + L.length < 18446744073709551616) (hsl : s.log.length ≤ 1000) (hL : Ents w Fl lw L) (hL0 : L ≠ []) (hLl : L.length ≤ 100) (hLx : ∀ x ∈ L, x.ok ∧ x.cell.length ≤ 4000) (hFl : ∀ k, Fl k → ¬ F k)
    (hroom : (T (a + side)).length + (recVo t v ++ entB (s.base + 1 + k0) L).length ≤ most) :
    Ret Try.prog 7 #[.pointer (some ⟨p, 0, none⟩), .int .u64 (t : Int), .int .i64 v, .int .u64 ((s.base + 1 + k0 : Nat) : Int), lw] w fun u w' => u = .int .i64 0 ∧
      ∃ D', IsWal w' (Grow F w w') p d D' a side turn ⟨t, v, s.base, s.log.take k0 ++ L⟩ ∧ QD D' nt most (putA T (a + side) (T (a + side) ++ (recVo t v ++ entB (s.base + 1 + k0) L))) ∧ Upd F w w' := by
  obtain ⟨R, G, lv, hB, hD, hE, hFp, hR, hG⟩ := hW
  obtain ⟨As, cs, rfl, hcs⟩ := hE.form
  obtain ⟨V0, hV0, hr0, hc0⟩ := hL
  obtain ⟨A0, c0, rfl, hle0⟩ := hr0.slice_form
  have hpl := hB.lt
  have hL1 : 0 < V0.length := by
    rcases Nat.eq_zero_or_pos V0.length with h | h
    · exact absurd (by rw [← hV0, List.eq_nil_of_length_eq_zero h]; rfl) hL0
    · exact h
  have hF2 : ∀ k, Fl k → k < w.heap.size → ¬ F k := fun k hk _ => hFl k hk
  have hvK : inK .i64 v := by simp only [inK]; omega
  have hlV : V0.length = L.length := by rw [← hV0, List.length_map]
  have hl1 := recVo_len ht hvK
  have hl2 := entB_len L (s.base + 1 + k0) (by omega) hLx
  obtain ⟨fr, hfr⟩ : ∃ q, s.base + 1 + k0 = q := ⟨_, rfl⟩
  rw [hfr] at hroom hl2 ⊢
  have hsbN : (0 : Int) ≤ (s.base : Int) := by omega
  obtain ⟨qa1, qa2⟩ := hQ.append hi hroom
  have qs := qa2.sync hi
  refine enterRet (vs := [_, _, _, _, _]) (N := 176) Try.func7 rfl rfl rfl ?_
  have hU := Upd.refl F w
  refine WC.keep [(0, _), (1, _), (2, _), (3, _), (4, _)] ⟨rfl, rfl, rfl, rfl, rfl, trivial⟩ ?_
  refine WC.seq ?_
  refine WC.region ?_
  refine WL.val rfl rfl rfl rfl (r_assign rfl ev_c) ?_
  refine WL.nil ?_
  refine WX.keep [(0, _), (1, _), (2, _), (3, _), (4, _)] ⟨rfl, rfl, rfl, rfl, rfl, trivial⟩ ?_
  refine WX.next ?_
  refine WC.seq ?_
  refine WC.block ?_
  refine WC.seq ?_
  refine WC.region ?_
  refine WL.val rfl rfl rfl rfl (r_move rfl (ev_t rfl)) ?_
  refine WL.val rfl rfl rfl rfl (r_eqlPtrNil rfl (ev_t rfl) ev_c ptr_25) ?_
  refine WL.val rfl rfl rfl rfl (r_assign rfl (ev_t rfl)) ?_
  refine WL.nil ?_
  refine WX.keep [(0, _), (1, _), (2, _), (3, _), (4, _), (16, _)] ⟨rfl, rfl, rfl, rfl, rfl, rfl, trivial⟩ ?_
  refine WX.next ?_
  refine WC.cond rfl (ev_t rfl) (fun hc1 => ?_) (fun hc1 => ?_)
  · try (exfalso; first | (simp at hc1; done) | (simp only [decide_eq_true_eq, decide_eq_false_iff_not, Bool.not_eq_true', Bool.not_eq_false', Bool.not_eq_true, Bool.not_eq_false] at hc1; omega) | omega)
    all_goals
     try simp only [decide_eq_true_eq, decide_eq_false_iff_not, Bool.not_eq_true', Bool.not_eq_false', Bool.not_eq_true, Bool.not_eq_false, Option.isNone_none, Option.isNone_some, Option.isSome_none, Option.isSome_some, ne_eq, Decidable.not_not] at hc1
     refine WC.seq ?_
     refine WC.region ?_
     refine WL.val rfl rfl rfl rfl (r_assign rfl ev_c) ?_
     refine WL.nil ?_
     refine WX.keep [(10, _)] ⟨rfl, trivial⟩ ?_
     refine WX.next ?_
     refine WC.ret ?_
     refine WX.blockRet ?_
     refine WX.thenRet ?_
     refine WX.retE1 rfl rfl ?_
     fail
  · try (exfalso; first | (simp at hc1; done) | (simp only [decide_eq_true_eq, decide_eq_false_iff_not, Bool.not_eq_true', Bool.not_eq_false', Bool.not_eq_true, Bool.not_eq_false] at hc1; omega) | omega)
    all_goals
     try simp only [decide_eq_true_eq, decide_eq_false_iff_not, Bool.not_eq_true', Bool.not_eq_false', Bool.not_eq_true, Bool.not_eq_false, Option.isNone_none, Option.isNone_some, Option.isSome_none, Option.isSome_some, ne_eq, Decidable.not_not] at hc1
     refine WC.seq ?_
     refine WC.draws' (fun u0_ u1_ => Upd No u0_ u1_) (fun j => [0, 0, 0, 0, 0, 0, 0, 0, 0, 0, 0, 0, 1, 0, 0, 0, 0, 0, 0, 0, 0, 0, 0, 0, 0, 0, 0, 1, 0, 0, 0, 0, 0, 0].getD j 0) (.calm 0 (.calm 1 (.calm 2 (.calm 3 (.calm 4 (.calm 5 (.calm 6 (.calm 7 (.calm 8 (.calm 9 (.calm 10 (.calm 11 (.one 12 (.calm 13 (.calm 14 (.calm 15 (.calm 16 (.calm 17 (.calm 18 (.calm 19 (.calm 20 (.calm 23 (.calm 24 (.calm 25 (.calm 26 (.held 21 (.calm 22 (.one 27 (.calm 28 (.calm 29 (.calm 30 (.calm 31 (.calm 32 (.calm 33 (.done))))))))))))))))))))))))))))))))))) mixed (by kernel_rfl) (by repeat (first | with_reducible exact Deaf.body | with_reducible apply Deaf.then | with_reducible apply Deaf.block)) ?_
     intro w1 hu1
     have hz1 := congrArg Array.size hu1.2.2.2
     replace hu1 := Upd.of_draw hu1
     have hs1 := hu1.size
     replace hU := hU.trans hu1 (by first | exact (fun _ _ h => h) | exact (fun _ _ h => h.elim) | (intro k hl hk; (try simp only [At, New, Grow, From, No] at hk ⊢); omega) | (intro k hl hk; first | exact (show False from hk).elim | (simp only [At] at hk; omega) | (simp only [At] at hk; subst hk; exact hFp) | (exact (hR _ hk).1) | (have h3 := hRb _ hk; rcases h3 with h5 | h5; exact (hR _ h5).1; omega) | (have h1 := hGb _ hk; rcases h1.1 with h2 | h2; exact (hG _ h2).1; omega) | (have := hPb _ hk; omega)))
     replace hB := hB.upd hu1 (by first | exact (fun h => h) | (simp only [At]; omega) | (intro h; have := hR _ h; omega) | (intro h; have h3 := hRb _ h; rcases h3 with h5 | h5; have h0 := hR _ h5; omega; omega) | (intro h; have h1 := hGb _ h; rcases h1.1 with h2 | h2; have := hG _ h2; omega; omega) | (intro h; have := hPb _ h; omega))
     replace hD := hD.upd hu1 (by first | exact (fun _ _ _ h => h) | (intro k hk hl hS; simp only [At] at hS; have h3 := hRc k hk; rcases h3 with h5 | h5; have h0 := hR _ h5; omega; omega) | (intro k hk hl hS; simp only [At] at hS; have := hR k hk; omega) | (intro k hk hl hS; have h0 := hR k hk; have h1 := hGb _ hS; rcases h1.1 with h2 | h2; exact (hG _ h2).2.2.1 hk; omega) | (intro k hk hl hS; have := hPb _ hS; have := hR k hk; omega))
     replace hE := hE.upd hu1 (by first | exact (fun _ _ _ h => h) | (intro k hk hl hS; simp only [At] at hS; have := hG k hk; omega))
     have hS3 := Upd.refl No w1
     refine WN.calm _ rfl rfl rfl rfl rfl (fun _ => r_move rfl (ev_t rfl)) ?_
     refine WN.calm _ rfl rfl rfl rfl rfl (fun _ => r_lss rfl (ev_t rfl) ev_c) ?_
     refine WN.calm _ rfl rfl rfl rfl rfl (fun _ => r_move rfl (ev_t rfl)) ?_
     refine WN.cases 22 rfl (fun hb3_2 => ?_) (fun hb3_2 => ?_)
     · try (exfalso; first | (simp at hb3_2; done) | (simp only [decide_eq_true_eq, decide_eq_false_iff_not, Bool.not_eq_true', Bool.not_eq_false', Bool.not_eq_true, Bool.not_eq_false] at hb3_2; omega) | omega)
       all_goals
        try simp only [decide_eq_true_eq, decide_eq_false_iff_not, Bool.not_eq_true', Bool.not_eq_false', Bool.not_eq_true, Bool.not_eq_false, Option.isNone_none, Option.isNone_some, Option.isSome_none, Option.isSome_some, ne_eq, Decidable.not_not] at hb3_2
        refine WN.skip _ rfl rfl rfl rfl ?_
        refine WN.skip _ rfl rfl rfl rfl ?_
        refine WN.calm _ rfl rfl rfl rfl rfl (fun _ => r_pickT rfl (ev_t rfl) ev_c) ?_
        refine WN.calm _ rfl rfl rfl rfl rfl (fun _ => r_move rfl (ev_t rfl)) ?_
        refine WN.skip _ rfl rfl rfl rfl ?_
        refine WN.skip _ rfl rfl rfl rfl ?_
        refine WN.skip _ rfl rfl rfl rfl ?_
        refine WN.skip _ rfl rfl rfl rfl ?_
        refine WN.skip _ rfl rfl rfl rfl ?_
        refine WN.step _ rfl (SO.skip rfl rfl rfl ?_)
        refine ⟨hS3, ?_⟩
        refine WN.skip _ rfl rfl rfl rfl ?_
        refine WN.calm _ rfl rfl rfl rfl rfl (fun _ => r_pickT rfl (ev_t rfl) ev_c) ?_
        refine WN.calm _ rfl rfl rfl rfl rfl (fun _ => r_move rfl (ev_t rfl)) ?_
        refine WN.skip _ rfl rfl rfl rfl ?_
        refine WN.skip _ rfl rfl rfl rfl ?_
        refine WN.skip _ rfl rfl rfl rfl ?_
        refine WN.skip _ rfl rfl rfl rfl ?_
        refine WN.skip _ rfl rfl rfl rfl ?_
        refine WN.skip _ rfl rfl rfl rfl ?_
        refine WN.skip _ rfl rfl rfl rfl ?_
        refine WN.skip _ rfl rfl rfl rfl ?_
        refine WN.skip _ rfl rfl rfl rfl ?_
        refine WN.heldSkip _ rfl rfl rfl rfl hS3 ?_
        refine WN.skip _ rfl rfl rfl rfl ?_
        refine WN.step _ rfl (SO.skip rfl rfl rfl ?_)
        refine ⟨hS3, ?_⟩
        refine WN.skip _ rfl rfl rfl rfl ?_
        refine WN.skip _ rfl rfl rfl rfl ?_
        refine WN.skip _ rfl rfl rfl rfl ?_
        refine WN.skip _ rfl rfl rfl rfl ?_
        refine WN.calm _ rfl rfl rfl rfl rfl (fun _ => r_pickT rfl (ev_t rfl) ev_c) ?_
        refine WN.calm _ rfl rfl rfl rfl rfl (fun _ => r_assign rfl (ev_t rfl)) ?_
        refine WN.done ?_
        refine WX.keep [(0, _), (1, _), (2, _), (3, _), (4, _), (19, _)] ⟨rfl, rfl, rfl, rfl, rfl, rfl, trivial⟩ ?_
        refine WX.next ?_
        refine WC.cond_true rfl (ev_t rfl) ?_
        refine WC.seq ?_
        refine WC.region ?_
        refine WL.val rfl rfl rfl rfl (r_assign rfl ev_c) ?_
        refine WL.nil ?_
        refine WX.keep [(10, _)] ⟨rfl, trivial⟩ ?_
        refine WX.next ?_
        refine WC.ret ?_
        refine WX.blockRet ?_
        refine WX.thenRet ?_
        refine WX.retE1 rfl rfl ?_
        fail
     · try (exfalso; first | (simp at hb3_2; done) | (simp only [decide_eq_true_eq, decide_eq_false_iff_not, Bool.not_eq_true', Bool.not_eq_false', Bool.not_eq_true, Bool.not_eq_false] at hb3_2; omega) | omega)
       all_goals
        try simp only [decide_eq_true_eq, decide_eq_false_iff_not, Bool.not_eq_true', Bool.not_eq_false', Bool.not_eq_true, Bool.not_eq_false, Option.isNone_none, Option.isNone_some, Option.isSome_none, Option.isSome_some, ne_eq, Decidable.not_not] at hb3_2
        refine WN.calm _ rfl rfl rfl rfl rfl (fun _ => r_move rfl (ev_t rfl)) ?_
        refine WN.calm _ rfl rfl rfl rfl rfl (fun _ => r_geq rfl (ev_t rfl) ev_c) ?_
        refine WN.calm _ rfl rfl rfl rfl rfl (fun _ => r_pickF rfl (ev_t rfl) (ev_t rfl)) ?_
        refine WN.calm _ rfl rfl rfl rfl rfl (fun _ => r_move rfl (ev_t rfl)) ?_
        refine WN.cases 26 rfl (fun hb3_6 => ?_) (fun hb3_6 => ?_)
        · try (exfalso; first | (simp at hb3_6; done) | (simp only [decide_eq_true_eq, decide_eq_false_iff_not, Bool.not_eq_true', Bool.not_eq_false', Bool.not_eq_true, Bool.not_eq_false] at hb3_6; omega) | omega)
          all_goals
           try simp only [decide_eq_true_eq, decide_eq_false_iff_not, Bool.not_eq_true', Bool.not_eq_false', Bool.not_eq_true, Bool.not_eq_false, Option.isNone_none, Option.isNone_some, Option.isSome_none, Option.isSome_some, ne_eq, Decidable.not_not] at hb3_6
           refine WN.skip _ rfl rfl rfl rfl ?_
           refine WN.skip _ rfl rfl rfl rfl ?_
           refine WN.skip _ rfl rfl rfl rfl ?_
           refine WN.skip _ rfl rfl rfl rfl ?_
           refine WN.skip _ rfl rfl rfl rfl ?_
           refine WN.step _ rfl (SO.skip rfl rfl rfl ?_)
           refine ⟨hS3, ?_⟩
           refine WN.skip _ rfl rfl rfl rfl ?_
           refine WN.calm _ rfl rfl rfl rfl rfl (fun _ => r_pickT rfl (ev_t rfl) ev_c) ?_
           refine WN.calm _ rfl rfl rfl rfl rfl (fun _ => r_move rfl (ev_t rfl)) ?_
           refine WN.skip _ rfl rfl rfl rfl ?_
           refine WN.skip _ rfl rfl rfl rfl ?_
           refine WN.skip _ rfl rfl rfl rfl ?_
           refine WN.skip _ rfl rfl rfl rfl ?_
           refine WN.skip _ rfl rfl rfl rfl ?_
           refine WN.skip _ rfl rfl rfl rfl ?_
           refine WN.skip _ rfl rfl rfl rfl ?_
           refine WN.skip _ rfl rfl rfl rfl ?_
           refine WN.skip _ rfl rfl rfl rfl ?_
           refine WN.heldSkip _ rfl rfl rfl rfl hS3 ?_
           refine WN.skip _ rfl rfl rfl rfl ?_
           refine WN.step _ rfl (SO.skip rfl rfl rfl ?_)
           refine ⟨hS3, ?_⟩
           refine WN.skip _ rfl rfl rfl rfl ?_
           refine WN.skip _ rfl rfl rfl rfl ?_
           refine WN.skip _ rfl rfl rfl rfl ?_
           refine WN.skip _ rfl rfl rfl rfl ?_
           refine WN.calm _ rfl rfl rfl rfl rfl (fun _ => r_pickT rfl (ev_t rfl) ev_c) ?_
           refine WN.calm _ rfl rfl rfl rfl rfl (fun _ => r_assign rfl (ev_t rfl)) ?_
           refine WN.done ?_
           refine WX.keep [(0, _), (1, _), (2, _), (3, _), (4, _), (19, _)] ⟨rfl, rfl, rfl, rfl, rfl, rfl, trivial⟩ ?_
           refine WX.next ?_
           refine WC.cond_true rfl (ev_t rfl) ?_
           refine WC.seq ?_
           refine WC.region ?_
           refine WL.val rfl rfl rfl rfl (r_assign rfl ev_c) ?_
           refine WL.nil ?_
           refine WX.keep [(10, _)] ⟨rfl, trivial⟩ ?_
           refine WX.next ?_
           refine WC.ret ?_
           refine WX.blockRet ?_
           refine WX.thenRet ?_
           refine WX.retE1 rfl rfl ?_
           fail
        · try (exfalso; first | (simp at hb3_6; done) | (simp only [decide_eq_true_eq, decide_eq_false_iff_not, Bool.not_eq_true', Bool.not_eq_false', Bool.not_eq_true, Bool.not_eq_false] at hb3_6; omega) | omega)
          all_goals
           try simp only [decide_eq_true_eq, decide_eq_false_iff_not, Bool.not_eq_true', Bool.not_eq_false', Bool.not_eq_true, Bool.not_eq_false, Option.isNone_none, Option.isNone_some, Option.isSome_none, Option.isSome_some, ne_eq, Decidable.not_not] at hb3_6
           refine WN.calm _ rfl rfl rfl rfl rfl (fun _ => r_move rfl (ev_t rfl)) ?_
           refine WN.calm _ rfl rfl rfl rfl rfl (fun _ => r_move rfl (ev_t rfl)) ?_
           refine WN.calm _ rfl rfl rfl rfl rfl (fun _ => r_nilCheck rfl (ev_t rfl)) ?_
           first | refine WN.calm _ rfl rfl rfl rfl rfl (fun _ => r_field0 rfl (ev_t rfl) fld_53_4) ?_ | refine WN.calm _ rfl rfl rfl rfl rfl (fun _ => r_fieldAt rfl (ev_t rfl) fld_53_4) ?_
           first | refine WN.calm _ rfl rfl rfl rfl rfl (fun _ => r_field0 rfl (ev_t rfl) fld_36_2) ?_ | refine WN.calm _ rfl rfl rfl rfl rfl (fun _ => r_fieldAt rfl (ev_t rfl) fld_36_2) ?_
           refine WN.step _ rfl (SO.val rfl rfl rfl rfl (r_load rfl (ev_t rfl) flat_29 (Blk.cell hB rfl)) ?_)
           refine ⟨hS3, ?_⟩
           refine WN.calm _ rfl rfl rfl rfl rfl (fun _ => r_leq rfl (ev_t rfl) (ev_t rfl)) ?_
           refine WN.calm _ rfl rfl rfl rfl rfl (fun _ => r_pickF rfl (ev_t rfl) (ev_t rfl)) ?_
           refine WN.calm _ rfl rfl rfl rfl rfl (fun _ => r_move rfl (ev_t rfl)) ?_
           refine WN.cases 35 rfl (fun hb3_15 => ?_) (fun hb3_15 => ?_)
           · try (exfalso; first | (simp at hb3_15; done) | (simp only [decide_eq_true_eq, decide_eq_false_iff_not, Bool.not_eq_true', Bool.not_eq_false', Bool.not_eq_true, Bool.not_eq_false] at hb3_15; omega) | omega)
             all_goals
              try simp only [decide_eq_true_eq, decide_eq_false_iff_not, Bool.not_eq_true', Bool.not_eq_false', Bool.not_eq_true, Bool.not_eq_false, Option.isNone_none, Option.isNone_some, Option.isSome_none, Option.isSome_some, ne_eq, Decidable.not_not] at hb3_15
              refine WN.skip _ rfl rfl rfl rfl ?_
              refine WN.skip _ rfl rfl rfl rfl ?_
              refine WN.skip _ rfl rfl rfl rfl ?_
              refine WN.skip _ rfl rfl rfl rfl ?_
              refine WN.skip _ rfl rfl rfl rfl ?_
              refine WN.skip _ rfl rfl rfl rfl ?_
              refine WN.skip _ rfl rfl rfl rfl ?_
              refine WN.skip _ rfl rfl rfl rfl ?_
              refine WN.skip _ rfl rfl rfl rfl ?_
              refine WN.heldSkip _ rfl rfl rfl rfl hS3 ?_
              refine WN.skip _ rfl rfl rfl rfl ?_
              refine WN.step _ rfl (SO.skip rfl rfl rfl ?_)
              refine ⟨hS3, ?_⟩
              refine WN.skip _ rfl rfl rfl rfl ?_
              refine WN.skip _ rfl rfl rfl rfl ?_
              refine WN.skip _ rfl rfl rfl rfl ?_
              refine WN.skip _ rfl rfl rfl rfl ?_
              refine WN.calm _ rfl rfl rfl rfl rfl (fun _ => r_pickT rfl (ev_t rfl) ev_c) ?_
              refine WN.calm _ rfl rfl rfl rfl rfl (fun _ => r_assign rfl (ev_t rfl)) ?_
              refine WN.done ?_
              refine WX.keep [(0, _), (1, _), (2, _), (3, _), (4, _), (19, _)] ⟨rfl, rfl, rfl, rfl, rfl, rfl, trivial⟩ ?_
              refine WX.next ?_
              refine WC.cond_true rfl (ev_t rfl) ?_
              refine WC.seq ?_
              refine WC.region ?_
              refine WL.val rfl rfl rfl rfl (r_assign rfl ev_c) ?_
              refine WL.nil ?_
              refine WX.keep [(10, _)] ⟨rfl, trivial⟩ ?_
              refine WX.next ?_
              refine WC.ret ?_
              refine WX.blockRet ?_
              refine WX.thenRet ?_
              refine WX.retE1 rfl rfl ?_
              fail
           · try (exfalso; first | (simp at hb3_15; done) | (simp only [decide_eq_true_eq, decide_eq_false_iff_not, Bool.not_eq_true', Bool.not_eq_false', Bool.not_eq_true, Bool.not_eq_false] at hb3_15; omega) | omega)
             all_goals
              try simp only [decide_eq_true_eq, decide_eq_false_iff_not, Bool.not_eq_true', Bool.not_eq_false', Bool.not_eq_true, Bool.not_eq_false, Option.isNone_none, Option.isNone_some, Option.isSome_none, Option.isSome_some, ne_eq, Decidable.not_not] at hb3_15
              refine WN.calm _ rfl rfl rfl rfl rfl (fun _ => r_move rfl (ev_t rfl)) ?_
              refine WN.calm _ rfl rfl rfl rfl rfl (fun _ => r_move rfl (ev_t rfl)) ?_
              refine WN.calm _ rfl rfl rfl rfl rfl (fun _ => r_nilCheck rfl (ev_t rfl)) ?_
              first | refine WN.calm _ rfl rfl rfl rfl rfl (fun _ => r_field0 rfl (ev_t rfl) fld_53_4) ?_ | refine WN.calm _ rfl rfl rfl rfl rfl (fun _ => r_fieldAt rfl (ev_t rfl) fld_53_4) ?_
              first | refine WN.calm _ rfl rfl rfl rfl rfl (fun _ => r_field0 rfl (ev_t rfl) fld_36_2) ?_ | refine WN.calm _ rfl rfl rfl rfl rfl (fun _ => r_fieldAt rfl (ev_t rfl) fld_36_2) ?_
              refine WN.calm _ rfl rfl rfl rfl rfl (fun _ => r_move rfl (ev_t rfl)) ?_
              refine WN.calm _ rfl rfl rfl rfl rfl (fun _ => r_nilCheck rfl (ev_t rfl)) ?_
              first | refine WN.calm _ rfl rfl rfl rfl rfl (fun _ => r_field0 rfl (ev_t rfl) fld_53_4) ?_ | refine WN.calm _ rfl rfl rfl rfl rfl (fun _ => r_fieldAt rfl (ev_t rfl) fld_53_4) ?_
              first | refine WN.calm _ rfl rfl rfl rfl rfl (fun _ => r_field0 rfl (ev_t rfl) fld_36_3) ?_ | refine WN.calm _ rfl rfl rfl rfl rfl (fun _ => r_fieldAt rfl (ev_t rfl) fld_36_3) ?_
              refine WN.held _ rfl rfl rfl rfl rfl hS3 (fun w' hS => r_load rfl (ev_t rfl) flat_29 (Blk.cell (hB.upd hS (fun h => h)) rfl)) ?_
              first | refine WN.calm _ rfl rfl rfl rfl rfl (fun _ => r_subN rfl (ev_t rfl) (ev_t rfl) (by simp only [inK]; omega)) ?_ | refine WN.calm _ rfl rfl rfl rfl rfl (fun _ => r_sub rfl (ev_t rfl) (ev_t rfl)) ?_
              refine WN.step _ rfl (SO.val rfl rfl rfl rfl (r_load rfl (ev_t rfl) flat_28 (Blk.cell hB rfl)) ?_)
              refine ⟨hS3, ?_⟩
              refine WN.calm _ rfl rfl rfl rfl rfl (fun _ => r_lenSlice (ts := #[]) rfl (ev_t rfl) elem_28) ?_
              first | refine WN.calm _ rfl rfl rfl rfl rfl (fun _ => r_convN rfl (ev_t rfl) some_3 int_29 (by simp only [inK]; omega)) ?_ | refine WN.calm _ rfl rfl rfl rfl rfl (fun _ => r_conv rfl (ev_t rfl) some_3 int_29) ?_
              first | refine WN.calm _ rfl rfl rfl rfl rfl (fun _ => r_addN rfl (ev_t rfl) ev_c (by simp only [inK]; omega)) ?_ | refine WN.calm _ rfl rfl rfl rfl rfl (fun _ => r_add rfl (ev_t rfl) ev_c) ?_
              refine WN.calm _ rfl rfl rfl rfl rfl (fun _ => r_gtr rfl (ev_t rfl) (ev_t rfl)) ?_
              refine WN.calm _ rfl rfl rfl rfl rfl (fun _ => r_pickF rfl (ev_t rfl) (ev_t rfl)) ?_
              refine WN.calm _ rfl rfl rfl rfl rfl (fun _ => r_assign rfl (ev_t rfl)) ?_
              refine WN.done ?_
              refine WX.keep [(0, _), (1, _), (2, _), (3, _), (4, _), (19, _)] ⟨rfl, rfl, rfl, rfl, rfl, rfl, trivial⟩ ?_
              refine WX.next ?_
              refine WC.cond rfl (ev_t rfl) (fun hc3 => ?_) (fun hc3 => ?_)
              · try (exfalso; first | (simp at hc3; done) | (simp only [decide_eq_true_eq, decide_eq_false_iff_not, Bool.not_eq_true', Bool.not_eq_false', Bool.not_eq_true, Bool.not_eq_false] at hc3; omega) | omega)
                all_goals
                 try simp only [decide_eq_true_eq, decide_eq_false_iff_not, Bool.not_eq_true', Bool.not_eq_false', Bool.not_eq_true, Bool.not_eq_false, Option.isNone_none, Option.isNone_some, Option.isSome_none, Option.isSome_some, ne_eq, Decidable.not_not] at hc3
                 refine WC.seq ?_
                 refine WC.region ?_
                 refine WL.val rfl rfl rfl rfl (r_assign rfl ev_c) ?_
                 refine WL.nil ?_
                 refine WX.keep [(10, _)] ⟨rfl, trivial⟩ ?_
                 refine WX.next ?_
                 refine WC.ret ?_
                 refine WX.blockRet ?_
                 refine WX.thenRet ?_
                 refine WX.retE1 rfl rfl ?_
                 fail
              · try (exfalso; first | (simp at hc3; done) | (simp only [decide_eq_true_eq, decide_eq_false_iff_not, Bool.not_eq_true', Bool.not_eq_false', Bool.not_eq_true, Bool.not_eq_false] at hc3; omega) | omega)
                all_goals
                 try simp only [decide_eq_true_eq, decide_eq_false_iff_not, Bool.not_eq_true', Bool.not_eq_false', Bool.not_eq_true, Bool.not_eq_false, Option.isNone_none, Option.isNone_some, Option.isSome_none, Option.isSome_some, ne_eq, Decidable.not_not] at hc3
                 refine WC.skip ?_
                 refine WX.blockNormal ?_
                 refine WX.next ?_
                 -- cut r5: live [0, 1, 2, 3, 4, 11]
                 refine WC.cut (fun E wC => ∃ (bN : Nat) (lvn : Value) (Q : Nat → Prop), Upd F w wC ∧ w.heap.size ≤ bN ∧ bN < wC.heap.size ∧ Blk wC p (walC d a side turn s (.slice As s.log.length cs)) 53 ∧ IsD wC R d D ∧ Blk wC bN (stC ⟨t, v, s.base, []⟩ lvn) 36 ∧ OEnts wC Q lvn (s.log.take k0) ∧   (∀ k, Q k → (G k ∨ w.heap.size ≤ k) ∧ k ≠ bN) ∧ E = [(0, .pointer (some ⟨p, 0, none⟩)), (1, .int .u64 (t : Int)), (2, .int .i64 v), (3, .int .u64 (fr : Int)), (4, .slice A0 V0.length c0), (11, .pointer (some ⟨bN, 0, none⟩))]) ?_ ?_
                 · refine WC.draws' (fun u0_ u1_ => Upd No u0_ u1_) (fun j => [0, 0, 0, 0, 0, 0, 0, 0, 0, 0, 0, 0, 0, 0, 0, 0, 0, 0, 0, 0, 0, 1, 0, 1, 2].getD j 0) (.calm 0 (.calm 1 (.calm 2 (.calm 3 (.calm 4 (.calm 5 (.calm 7 (.calm 8 (.calm 9 (.calm 10 (.calm 12 (.calm 13 (.calm 14 (.calm 15 (.calm 16 (.held 6 (.held 11 (.held 17 (.calm 18 (.calm 19 (.calm 20 (.two 21 23 (.calm 22 (.one 23 (.one 24 (.done)))) (.one 21 (.calm 22 (.one 24 (.done)))))))))))))))))))))))))) mixed (by kernel_rfl) (by repeat (first | with_reducible exact Deaf.body | with_reducible apply Deaf.then | with_reducible apply Deaf.block)) ?_
                   intro w2 hu2
                   have hz2 := congrArg Array.size hu2.2.2.2
                   replace hu2 := Upd.of_draw hu2
                   have hs2 := hu2.size
                   replace hU := hU.trans hu2 (by first | exact (fun _ _ h => h) | exact (fun _ _ h => h.elim) | (intro k hl hk; (try simp only [At, New, Grow, From, No] at hk ⊢); omega) | (intro k hl hk; first | exact (show False from hk).elim | (simp only [At] at hk; omega) | (simp only [At] at hk; subst hk; exact hFp) | (exact (hR _ hk).1) | (have h3 := hRb _ hk; rcases h3 with h5 | h5; exact (hR _ h5).1; omega) | (have h1 := hGb _ hk; rcases h1.1 with h2 | h2; exact (hG _ h2).1; omega) | (have := hPb _ hk; omega)))
                   replace hB := hB.upd hu2 (by first | exact (fun h => h) | (simp only [At]; omega) | (intro h; have := hR _ h; omega) | (intro h; have h3 := hRb _ h; rcases h3 with h5 | h5; have h0 := hR _ h5; omega; omega) | (intro h; have h1 := hGb _ h; rcases h1.1 with h2 | h2; have := hG _ h2; omega; omega) | (intro h; have := hPb _ h; omega))
                   replace hD := hD.upd hu2 (by first | exact (fun _ _ _ h => h) | (intro k hk hl hS; simp only [At] at hS; have h3 := hRc k hk; rcases h3 with h5 | h5; have h0 := hR _ h5; omega; omega) | (intro k hk hl hS; simp only [At] at hS; have := hR k hk; omega) | (intro k hk hl hS; have h0 := hR k hk; have h1 := hGb _ hS; rcases h1.1 with h2 | h2; exact (hG _ h2).2.2.1 hk; omega) | (intro k hk hl hS; have := hPb _ hS; have := hR k hk; omega))
                   replace hE := hE.upd hu2 (by first | exact (fun _ _ _ h => h) | (intro k hk hl hS; simp only [At] at hS; have := hG k hk; omega))
                   have hS5 := Upd.refl No w2
                   refine WN.calm _ rfl rfl rfl rfl rfl (fun _ => r_move rfl (ev_t rfl)) ?_
                   refine WN.calm _ rfl rfl rfl rfl rfl (fun _ => r_move rfl (ev_t rfl)) ?_
                   refine WN.calm _ rfl rfl rfl rfl rfl (fun _ => r_move rfl (ev_t rfl)) ?_
                   refine WN.calm _ rfl rfl rfl rfl rfl (fun _ => r_nilCheck rfl (ev_t rfl)) ?_
                   first | refine WN.calm _ rfl rfl rfl rfl rfl (fun _ => r_field0 rfl (ev_t rfl) fld_53_4) ?_ | refine WN.calm _ rfl rfl rfl rfl rfl (fun _ => r_fieldAt rfl (ev_t rfl) fld_53_4) ?_
                   first | refine WN.calm _ rfl rfl rfl rfl rfl (fun _ => r_field0 rfl (ev_t rfl) fld_36_2) ?_ | refine WN.calm _ rfl rfl rfl rfl rfl (fun _ => r_fieldAt rfl (ev_t rfl) fld_36_2) ?_
                   refine WN.calm _ rfl rfl rfl rfl rfl (fun _ => r_move rfl (ev_t rfl)) ?_
                   refine WN.calm _ rfl rfl rfl rfl rfl (fun _ => r_nilCheck rfl (ev_t rfl)) ?_
                   first | refine WN.calm _ rfl rfl rfl rfl rfl (fun _ => r_field0 rfl (ev_t rfl) fld_53_4) ?_ | refine WN.calm _ rfl rfl rfl rfl rfl (fun _ => r_fieldAt rfl (ev_t rfl) fld_53_4) ?_
                   first | refine WN.calm _ rfl rfl rfl rfl rfl (fun _ => r_field0 rfl (ev_t rfl) fld_36_3) ?_ | refine WN.calm _ rfl rfl rfl rfl rfl (fun _ => r_fieldAt rfl (ev_t rfl) fld_36_3) ?_
                   refine WN.calm _ rfl rfl rfl rfl rfl (fun _ => r_move rfl (ev_t rfl)) ?_
                   refine WN.calm _ rfl rfl rfl rfl rfl (fun _ => r_move rfl (ev_t rfl)) ?_
                   refine WN.calm _ rfl rfl rfl rfl rfl (fun _ => r_nilCheck rfl (ev_t rfl)) ?_
                   first | refine WN.calm _ rfl rfl rfl rfl rfl (fun _ => r_field0 rfl (ev_t rfl) fld_53_4) ?_ | refine WN.calm _ rfl rfl rfl rfl rfl (fun _ => r_fieldAt rfl (ev_t rfl) fld_53_4) ?_
                   first | refine WN.calm _ rfl rfl rfl rfl rfl (fun _ => r_field0 rfl (ev_t rfl) fld_36_2) ?_ | refine WN.calm _ rfl rfl rfl rfl rfl (fun _ => r_fieldAt rfl (ev_t rfl) fld_36_2) ?_
                   refine WN.held _ rfl rfl rfl rfl rfl hS5 (fun w' hS => r_load rfl (ev_t rfl) flat_29 (Blk.cell (hB.upd hS (fun h => h)) rfl)) ?_
                   refine WN.held _ rfl rfl rfl rfl rfl hS5 (fun w' hS => r_load rfl (ev_t rfl) flat_28 (Blk.cell (hB.upd hS (fun h => h)) rfl)) ?_
                   refine WN.held _ rfl rfl rfl rfl rfl hS5 (fun w' hS => r_load rfl (ev_t rfl) flat_29 (Blk.cell (hB.upd hS (fun h => h)) rfl)) ?_
                   first | refine WN.calm _ rfl rfl rfl rfl rfl (fun _ => r_subN rfl (ev_t rfl) (ev_t rfl) (by simp only [inK]; omega)) ?_ | refine WN.calm _ rfl rfl rfl rfl rfl (fun _ => r_sub rfl (ev_t rfl) (ev_t rfl)) ?_
                   first | refine WN.calm _ rfl rfl rfl rfl rfl (fun _ => r_subN rfl (ev_t rfl) ev_c (by simp only [inK]; omega)) ?_ | refine WN.calm _ rfl rfl rfl rfl rfl (fun _ => r_sub rfl (ev_t rfl) ev_c) ?_
                   refine WN.calm _ rfl rfl rfl rfl rfl (fun _ => r_slice (l := 0) (h := k0) rfl (ev_t rfl) elem_28 size_33 bnd_none (bnd_some (ev_t rfl) (by omega)) (by omega) (by omega) (by omega)) ?_
                   refine WN.fork _ _ rfl rfl ?_ ?_
                   · refine SO.call (cloneE_ok (hE.take hk0) (by rw [List.length_take]; omega)) rfl body_16 ⟨(ev_t rfl), trivial⟩ rfl rfl rfl rfl ?_
                     rintro v9 w3 ⟨hOE, hu3⟩
                     obtain ⟨An, cn, rfl, hcn⟩ := hOE.form
                     have hOQ : ∀ k, Grow G w2 w3 k → (G k ∨ w.heap.size ≤ k) ∧ (w2.heap.size ≤ k → k < w3.heap.size) ∧ (G k ∨ w2.heap.size ≤ k) := fun k hk => by
                       have h9 := hU.size
                       rcases hk with h | h
                       · exact ⟨.inl h, fun h9 => by have := hG k h; omega, .inl h⟩
                       · exact ⟨.inr (by omega), fun _ => h.2, .inr h.1⟩
                     have hsp := hU.size
                     generalize Grow G w2 w3 = Q at *
                     have hp9 := hu3.size
                     have hs3 := hu3.size
                     replace hS5 := Upd.transA hS5 hu3
                     replace hU := hU.trans hu3 (by first | exact (fun _ _ h => h) | exact (fun _ _ h => h.elim) | (intro k hl hk; (try simp only [At, New, Grow, From, No] at hk ⊢); omega) | (intro k hl hk; first | exact (show False from hk).elim | (simp only [At] at hk; omega) | (simp only [At] at hk; subst hk; exact hFp) | (exact (hR _ hk).1) | (have h3 := hRb _ hk; rcases h3 with h5 | h5; exact (hR _ h5).1; omega) | (have h1 := hGb _ hk; rcases h1.1 with h2 | h2; exact (hG _ h2).1; omega) | (have := hPb _ hk; omega)))
                     replace hB := hB.upd hu3 (by first | exact (fun h => h) | (simp only [At]; omega) | (intro h; have := hR _ h; omega) | (intro h; have h3 := hRb _ h; rcases h3 with h5 | h5; have h0 := hR _ h5; omega; omega) | (intro h; have h1 := hGb _ h; rcases h1.1 with h2 | h2; have := hG _ h2; omega; omega) | (intro h; have := hPb _ h; omega))
                     replace hD := hD.upd hu3 (by first | exact (fun _ _ _ h => h) | (intro k hk hl hS; simp only [At] at hS; have h3 := hRc k hk; rcases h3 with h5 | h5; have h0 := hR _ h5; omega; omega) | (intro k hk hl hS; simp only [At] at hS; have := hR k hk; omega) | (intro k hk hl hS; have h0 := hR k hk; have h1 := hGb _ hS; rcases h1.1 with h2 | h2; exact (hG _ h2).2.2.1 hk; omega) | (intro k hk hl hS; have := hPb _ hS; have := hR k hk; omega))
                     replace hE := hE.upd hu3 (by first | exact (fun _ _ _ h => h) | (intro k hk hl hS; simp only [At] at hS; have := hG k hk; omega))
                     refine ⟨hS5, ?_⟩
                     refine WN.calm _ rfl rfl rfl rfl rfl (fun _ => r_build (cs := #[_, _, _, _]) (vs := [(0, _), (1, _), (2, _), (3, _)]) rfl ⟨⟨rfl, (ev_t rfl)⟩, ⟨rfl, (ev_t rfl)⟩, ⟨rfl, (ev_t rfl)⟩, ⟨rfl, (ev_t rfl)⟩, trivial⟩ plc_36 zero_36 rfl) ?_
                     have hs23 := hU.size
                     refine WN.step _ rfl (SO.alloc rfl rfl rfl rfl (r_alloc rfl zero_36) ?_)
                     intro w4 hu4 hB4 hz4
                     have hs4 := hu4.size
                     replace hS5 := Upd.transA hS5 hu4
                     replace hU := hU.trans hu4 (by first | exact (fun _ _ h => h) | exact (fun _ _ h => h.elim) | (intro k hl hk; (try simp only [At, New, Grow, From, No] at hk ⊢); omega) | (intro k hl hk; first | exact (show False from hk).elim | (simp only [At] at hk; omega) | (simp only [At] at hk; subst hk; exact hFp) | (exact (hR _ hk).1) | (have h3 := hRb _ hk; rcases h3 with h5 | h5; exact (hR _ h5).1; omega) | (have h1 := hGb _ hk; rcases h1.1 with h2 | h2; exact (hG _ h2).1; omega) | (have := hPb _ hk; omega)))
                     replace hB := hB.upd hu4 (by first | exact (fun h => h) | (simp only [At]; omega) | (intro h; have := hR _ h; omega) | (intro h; have h3 := hRb _ h; rcases h3 with h5 | h5; have h0 := hR _ h5; omega; omega) | (intro h; have h1 := hGb _ h; rcases h1.1 with h2 | h2; have := hG _ h2; omega; omega) | (intro h; have := hPb _ h; omega))
                     replace hD := hD.upd hu4 (by first | exact (fun _ _ _ h => h) | (intro k hk hl hS; simp only [At] at hS; have h3 := hRc k hk; rcases h3 with h5 | h5; have h0 := hR _ h5; omega; omega) | (intro k hk hl hS; simp only [At] at hS; have := hR k hk; omega) | (intro k hk hl hS; have h0 := hR k hk; have h1 := hGb _ hS; rcases h1.1 with h2 | h2; exact (hG _ h2).2.2.1 hk; omega) | (intro k hk hl hS; have := hPb _ hS; have := hR k hk; omega))
                     replace hE := hE.upd hu4 (by first | exact (fun _ _ _ h => h) | (intro k hk hl hS; simp only [At] at hS; have := hG k hk; omega))
                     replace hOE := hOE.upd hu4 (by first | exact (fun _ _ _ h => h) | (intro k hk hl hS; simp only [At] at hS; have h1 := (hQb k hk).1; rcases h1 with h2 | h2; have := hG k h2; omega; omega) | (intro k hk hl hS; have h0 := hR k hS; have h1 := (hQb k hk).1; rcases h1 with h2 | h2; exact (hG _ h2).2.2.1 hS; omega) | (intro k hk hl hS; have h3 := hRb k hS; have h4 := hQb k hk; rcases h3 with h5 | h5; have h0 := hR k h5; rcases h4.1 with h2 | h2; exact (hG _ h2).2.2.1 h5; omega; omega) | (intro k hk hl hS; simp only [At] at hS; have := hQb k hk; omega) | (intro k hk hl hS; simp only [At] at hS; have := hQ2 k hk; omega) | (intro k hk hl hS; exact (hQ2 k hk).2.2.1 hS) | (intro k hk hl hS; simp only [At] at hS; have h1 := hOQ k hk; rcases h1.2.2 with h | h; have := hG k h; omega; have := h1.2.1 h; omega))
                     refine ⟨hS5, ?_⟩
                     refine WN.step _ rfl (SO.storeAll (us := [_, _, _, _]) rfl (ev_t rfl) (ev_t rfl) size_36 hB4 rfl rfl rfl rfl rfl ?_)
                     intro w5 hu5 hB4 hz5
                     have hs5 := hu5.size
                     try replace hS5 := Upd.transA hS5 hu5
                     replace hU := hU.trans hu5 (by first | exact (fun _ _ h => h) | exact (fun _ _ h => h.elim) | (intro k hl hk; (try simp only [At, New, Grow, From, No] at hk ⊢); omega) | (intro k hl hk; first | exact (show False from hk).elim | (simp only [At] at hk; omega) | (simp only [At] at hk; subst hk; exact hFp) | (exact (hR _ hk).1) | (have h3 := hRb _ hk; rcases h3 with h5 | h5; exact (hR _ h5).1; omega) | (have h1 := hGb _ hk; rcases h1.1 with h2 | h2; exact (hG _ h2).1; omega) | (have := hPb _ hk; omega)))
                     replace hB := hB.upd hu5 (by first | exact (fun h => h) | (simp only [At]; omega) | (intro h; have := hR _ h; omega) | (intro h; have h3 := hRb _ h; rcases h3 with h5 | h5; have h0 := hR _ h5; omega; omega) | (intro h; have h1 := hGb _ h; rcases h1.1 with h2 | h2; have := hG _ h2; omega; omega) | (intro h; have := hPb _ h; omega))
                     replace hD := hD.upd hu5 (by first | exact (fun _ _ _ h => h) | (intro k hk hl hS; simp only [At] at hS; have h3 := hRc k hk; rcases h3 with h5 | h5; have h0 := hR _ h5; omega; omega) | (intro k hk hl hS; simp only [At] at hS; have := hR k hk; omega) | (intro k hk hl hS; have h0 := hR k hk; have h1 := hGb _ hS; rcases h1.1 with h2 | h2; exact (hG _ h2).2.2.1 hk; omega) | (intro k hk hl hS; have := hPb _ hS; have := hR k hk; omega))
                     replace hE := hE.upd hu5 (by first | exact (fun _ _ _ h => h) | (intro k hk hl hS; simp only [At] at hS; have := hG k hk; omega))
                     replace hOE := hOE.upd hu5 (by first | exact (fun _ _ _ h => h) | (intro k hk hl hS; simp only [At] at hS; have h1 := (hQb k hk).1; rcases h1 with h2 | h2; have := hG k h2; omega; omega) | (intro k hk hl hS; have h0 := hR k hS; have h1 := (hQb k hk).1; rcases h1 with h2 | h2; exact (hG _ h2).2.2.1 hS; omega) | (intro k hk hl hS; have h3 := hRb k hS; have h4 := hQb k hk; rcases h3 with h5 | h5; have h0 := hR k h5; rcases h4.1 with h2 | h2; exact (hG _ h2).2.2.1 h5; omega; omega) | (intro k hk hl hS; simp only [At] at hS; have := hQb k hk; omega) | (intro k hk hl hS; simp only [At] at hS; have := hQ2 k hk; omega) | (intro k hk hl hS; exact (hQ2 k hk).2.2.1 hS) | (intro k hk hl hS; simp only [At] at hS; have h1 := hOQ k hk; rcases h1.2.2 with h | h; have := hG k h; omega; have := h1.2.1 h; omega))
                     refine ⟨trivial, ?_⟩
                     refine WN.done ?_
                     refine WX.keep [(0, _), (1, _), (2, _), (3, _), (4, _), (11, _)] ⟨rfl, rfl, rfl, rfl, rfl, rfl, trivial⟩ ?_
                     have hN := hB4
                     change Blk _ _ (stC ⟨t, v, s.base, []⟩ _) _ at hN
                     refine WX.meet [(0, _), (1, _), (2, _), (3, _), (4, _), (11, _)] ⟨rfl, rfl, rfl, rfl, rfl, rfl, trivial⟩ ?_
                     refine ⟨_, _, Q, hU, ?_, ?_, hB, hD, hN, hOE, fun k hk => ⟨(hOQ k hk).1, ?_⟩, rfl⟩
                     · omega
                     · exact hN.lt
                     · have h1 := hOQ k hk
                       rcases h1.2.2 with h | h
                       · have := hG k h; omega
                       · have := h1.2.1 h; omega
                   · have hs23 := hU.size
                     refine SO.alloc rfl rfl rfl rfl (r_alloc rfl zero_36) ?_
                     intro w6 hu6 hB6 hz6
                     have hs6 := hu6.size
                     replace hS5 := Upd.transA hS5 hu6
                     replace hU := hU.trans hu6 (by first | exact (fun _ _ h => h) | exact (fun _ _ h => h.elim) | (intro k hl hk; (try simp only [At, New, Grow, From, No] at hk ⊢); omega) | (intro k hl hk; first | exact (show False from hk).elim | (simp only [At] at hk; omega) | (simp only [At] at hk; subst hk; exact hFp) | (exact (hR _ hk).1) | (have h3 := hRb _ hk; rcases h3 with h5 | h5; exact (hR _ h5).1; omega) | (have h1 := hGb _ hk; rcases h1.1 with h2 | h2; exact (hG _ h2).1; omega) | (have := hPb _ hk; omega)))
                     replace hB := hB.upd hu6 (by first | exact (fun h => h) | (simp only [At]; omega) | (intro h; have := hR _ h; omega) | (intro h; have h3 := hRb _ h; rcases h3 with h5 | h5; have h0 := hR _ h5; omega; omega) | (intro h; have h1 := hGb _ h; rcases h1.1 with h2 | h2; have := hG _ h2; omega; omega) | (intro h; have := hPb _ h; omega))
                     replace hD := hD.upd hu6 (by first | exact (fun _ _ _ h => h) | (intro k hk hl hS; simp only [At] at hS; have h3 := hRc k hk; rcases h3 with h5 | h5; have h0 := hR _ h5; omega; omega) | (intro k hk hl hS; simp only [At] at hS; have := hR k hk; omega) | (intro k hk hl hS; have h0 := hR k hk; have h1 := hGb _ hS; rcases h1.1 with h2 | h2; exact (hG _ h2).2.2.1 hk; omega) | (intro k hk hl hS; have := hPb _ hS; have := hR k hk; omega))
                     replace hE := hE.upd hu6 (by first | exact (fun _ _ _ h => h) | (intro k hk hl hS; simp only [At] at hS; have := hG k hk; omega))
                     refine ⟨hS5, ?_⟩
                     refine WN.step _ rfl (SO.call (cloneE_ok (hE.take hk0) (by rw [List.length_take]; omega)) rfl body_16 ⟨(ev_t rfl), trivial⟩ rfl rfl rfl rfl ?_)
                     rintro v9 w7 ⟨hOE, hu7⟩
                     obtain ⟨An, cn, rfl, hcn⟩ := hOE.form
                     have hOQ : ∀ k, Grow G w6 w7 k → (G k ∨ w.heap.size ≤ k) ∧ (w6.heap.size ≤ k → k < w7.heap.size) ∧ (G k ∨ w6.heap.size ≤ k) := fun k hk => by
                       have h9 := hU.size
                       rcases hk with h | h
                       · exact ⟨.inl h, fun h9 => by have := hG k h; omega, .inl h⟩
                       · exact ⟨.inr (by omega), fun _ => h.2, .inr h.1⟩
                     have hsp := hU.size
                     generalize Grow G w6 w7 = Q at *
                     have hp9 := hu7.size
                     have hs7 := hu7.size
                     replace hS5 := Upd.transA hS5 hu7
                     replace hU := hU.trans hu7 (by first | exact (fun _ _ h => h) | exact (fun _ _ h => h.elim) | (intro k hl hk; (try simp only [At, New, Grow, From, No] at hk ⊢); omega) | (intro k hl hk; first | exact (show False from hk).elim | (simp only [At] at hk; omega) | (simp only [At] at hk; subst hk; exact hFp) | (exact (hR _ hk).1) | (have h3 := hRb _ hk; rcases h3 with h5 | h5; exact (hR _ h5).1; omega) | (have h1 := hGb _ hk; rcases h1.1 with h2 | h2; exact (hG _ h2).1; omega) | (have := hPb _ hk; omega)))
                     replace hB := hB.upd hu7 (by first | exact (fun h => h) | (simp only [At]; omega) | (intro h; have := hR _ h; omega) | (intro h; have h3 := hRb _ h; rcases h3 with h5 | h5; have h0 := hR _ h5; omega; omega) | (intro h; have h1 := hGb _ h; rcases h1.1 with h2 | h2; have := hG _ h2; omega; omega) | (intro h; have := hPb _ h; omega))
                     replace hD := hD.upd hu7 (by first | exact (fun _ _ _ h => h) | (intro k hk hl hS; simp only [At] at hS; have h3 := hRc k hk; rcases h3 with h5 | h5; have h0 := hR _ h5; omega; omega) | (intro k hk hl hS; simp only [At] at hS; have := hR k hk; omega) | (intro k hk hl hS; have h0 := hR k hk; have h1 := hGb _ hS; rcases h1.1 with h2 | h2; exact (hG _ h2).2.2.1 hk; omega) | (intro k hk hl hS; have := hPb _ hS; have := hR k hk; omega))
                     replace hE := hE.upd hu7 (by first | exact (fun _ _ _ h => h) | (intro k hk hl hS; simp only [At] at hS; have := hG k hk; omega))
                     replace hB6 := hB6.updA hu7
                     refine ⟨hS5, ?_⟩
                     refine WN.calm _ rfl rfl rfl rfl rfl (fun _ => r_build (cs := #[_, _, _, _]) (vs := [(0, _), (1, _), (2, _), (3, _)]) rfl ⟨⟨rfl, (ev_t rfl)⟩, ⟨rfl, (ev_t rfl)⟩, ⟨rfl, (ev_t rfl)⟩, ⟨rfl, (ev_t rfl)⟩, trivial⟩ plc_36 zero_36 rfl) ?_
                     refine WN.step _ rfl (SO.storeAll (us := [_, _, _, _]) rfl (ev_t rfl) (ev_t rfl) size_36 hB6 rfl rfl rfl rfl rfl ?_)
                     intro w8 hu8 hB6 hz8
                     have hs8 := hu8.size
                     try replace hS5 := Upd.transA hS5 hu8
                     replace hU := hU.trans hu8 (by first | exact (fun _ _ h => h) | exact (fun _ _ h => h.elim) | (intro k hl hk; (try simp only [At, New, Grow, From, No] at hk ⊢); omega) | (intro k hl hk; first | exact (show False from hk).elim | (simp only [At] at hk; omega) | (simp only [At] at hk; subst hk; exact hFp) | (exact (hR _ hk).1) | (have h3 := hRb _ hk; rcases h3 with h5 | h5; exact (hR _ h5).1; omega) | (have h1 := hGb _ hk; rcases h1.1 with h2 | h2; exact (hG _ h2).1; omega) | (have := hPb _ hk; omega)))
                     replace hB := hB.upd hu8 (by first | exact (fun h => h) | (simp only [At]; omega) | (intro h; have := hR _ h; omega) | (intro h; have h3 := hRb _ h; rcases h3 with h5 | h5; have h0 := hR _ h5; omega; omega) | (intro h; have h1 := hGb _ h; rcases h1.1 with h2 | h2; have := hG _ h2; omega; omega) | (intro h; have := hPb _ h; omega))
                     replace hD := hD.upd hu8 (by first | exact (fun _ _ _ h => h) | (intro k hk hl hS; simp only [At] at hS; have h3 := hRc k hk; rcases h3 with h5 | h5; have h0 := hR _ h5; omega; omega) | (intro k hk hl hS; simp only [At] at hS; have := hR k hk; omega) | (intro k hk hl hS; have h0 := hR k hk; have h1 := hGb _ hS; rcases h1.1 with h2 | h2; exact (hG _ h2).2.2.1 hk; omega) | (intro k hk hl hS; have := hPb _ hS; have := hR k hk; omega))
                     replace hE := hE.upd hu8 (by first | exact (fun _ _ _ h => h) | (intro k hk hl hS; simp only [At] at hS; have := hG k hk; omega))
                     replace hOE := hOE.upd hu8 (by first | exact (fun _ _ _ h => h) | (intro k hk hl hS; simp only [At] at hS; have h1 := (hQb k hk).1; rcases h1 with h2 | h2; have := hG k h2; omega; omega) | (intro k hk hl hS; have h0 := hR k hS; have h1 := (hQb k hk).1; rcases h1 with h2 | h2; exact (hG _ h2).2.2.1 hS; omega) | (intro k hk hl hS; have h3 := hRb k hS; have h4 := hQb k hk; rcases h3 with h5 | h5; have h0 := hR k h5; rcases h4.1 with h2 | h2; exact (hG _ h2).2.2.1 h5; omega; omega) | (intro k hk hl hS; simp only [At] at hS; have := hQb k hk; omega) | (intro k hk hl hS; simp only [At] at hS; have := hQ2 k hk; omega) | (intro k hk hl hS; exact (hQ2 k hk).2.2.1 hS) | (intro k hk hl hS; simp only [At] at hS; have h1 := hOQ k hk; rcases h1.2.2 with h | h; have := hG k h; omega; have := h1.2.1 h; omega))
                     refine ⟨trivial, ?_⟩
                     refine WN.done ?_
                     refine WX.keep [(0, _), (1, _), (2, _), (3, _), (4, _), (11, _)] ⟨rfl, rfl, rfl, rfl, rfl, rfl, trivial⟩ ?_
                     have hN := hB6
                     change Blk _ _ (stC ⟨t, v, s.base, []⟩ _) _ at hN
                     refine WX.meet [(0, _), (1, _), (2, _), (3, _), (4, _), (11, _)] ⟨rfl, rfl, rfl, rfl, rfl, rfl, trivial⟩ ?_
                     refine ⟨_, _, Q, hU, ?_, ?_, hB, hD, hN, hOE, fun k hk => ⟨(hOQ k hk).1, ?_⟩, rfl⟩
                     · omega
                     · exact hN.lt
                     · have h1 := hOQ k hk
                       rcases h1.2.2 with h | h
                       · have := hG k h; omega
                       · have := h1.2.1 h; omega
                 · clear hU hB hD hE
                   rintro E wD ⟨bN, lvn, Q, hU, hbN, hbNl, hB, hD, hN, hOE, hQb, rfl⟩
                   have hwD := hU.size
                   refine WC.seq ?_
                   refine WC.region ?_
                   refine WL.val rfl rfl rfl rfl (r_move rfl (ev_t rfl)) ?_
                   refine WL.val rfl rfl rfl rfl (r_move rfl (ev_t rfl)) ?_
                   refine WL.cons (SO.call (vote_ok ht hvK) rfl body_17 ⟨(ev_t rfl), (ev_t rfl), trivial⟩ rfl rfl rfl rfl ?_)
                   rintro v9 w9 ⟨hPo, hu9⟩
                   change Own _ _ _ _ _ (recVo t v).length ((recVo t v).map U8) at hPo
                   have hnD := hu9.size
                   have hPb0 : ∀ k, New wD w9 k → w.heap.size ≤ k ∧ k ≠ bN ∧ wD.heap.size ≤ k ∧ k < w9.heap.size := fun k hk => by simp only [New] at hk; omega
                   have hQ0 := (hOE.mono (F' := fun k => Q k ∧ k < wD.heap.size) (fun k hk hl => ⟨hk, hl⟩)).upd hu9 (fun _ _ _ h => h)
                   generalize New wD w9 = P0 at *
                   obtain ⟨Ap, cp, rfl, hcp⟩ := Own.form hPo
                   have hs9 := hu9.size
                   replace hU := hU.trans hu9 (by first | exact (fun _ _ h => h) | exact (fun _ _ h => h.elim) | (intro k hl hk; (try simp only [At, New, Grow, From, No] at hk ⊢); omega) | (intro k hl hk; first | exact (show False from hk).elim | (simp only [At] at hk; omega) | (simp only [At] at hk; subst hk; exact hFp) | (exact (hR _ hk).1) | (have h3 := hRb _ hk; rcases h3 with h5 | h5; exact (hR _ h5).1; omega) | (have h1 := hGb _ hk; rcases h1.1 with h2 | h2; exact (hG _ h2).1; omega) | (have := hPb _ hk; omega)))
                   replace hB := hB.upd hu9 (by first | exact (fun h => h) | (simp only [At]; omega) | (intro h; have := hR _ h; omega) | (intro h; have h3 := hRb _ h; rcases h3 with h5 | h5; have h0 := hR _ h5; omega; omega) | (intro h; have h1 := hGb _ h; rcases h1.1 with h2 | h2; have := hG _ h2; omega; omega) | (intro h; have := hPb _ h; omega))
                   replace hD := hD.upd hu9 (by first | exact (fun _ _ _ h => h) | (intro k hk hl hS; simp only [At] at hS; have h3 := hRc k hk; rcases h3 with h5 | h5; have h0 := hR _ h5; omega; omega) | (intro k hk hl hS; simp only [At] at hS; have := hR k hk; omega) | (intro k hk hl hS; have h0 := hR k hk; have h1 := hGb _ hS; rcases h1.1 with h2 | h2; exact (hG _ h2).2.2.1 hk; omega) | (intro k hk hl hS; have := hPb _ hS; have := hR k hk; omega))
                   replace hN := hN.upd hu9 (by first | exact (fun h => h) | (simp only [At]; omega) | (intro h; have := hR _ h; omega) | (intro h; have h3 := hRb _ h; rcases h3 with h5 | h5; have h0 := hR _ h5; omega; omega) | (intro h; have := hGb _ h; omega) | (intro h; have := hPb _ h; omega))
                   replace hOE := hOE.upd hu9 (by first | exact (fun _ _ _ h => h) | (intro k hk hl hS; simp only [At] at hS; have h1 := (hQb k hk).1; rcases h1 with h2 | h2; have := hG k h2; omega; omega) | (intro k hk hl hS; have h0 := hR k hS; have h1 := (hQb k hk).1; rcases h1 with h2 | h2; exact (hG _ h2).2.2.1 hS; omega) | (intro k hk hl hS; have h3 := hRb k hS; have h4 := hQb k hk; rcases h3 with h5 | h5; have h0 := hR k h5; rcases h4.1 with h2 | h2; exact (hG _ h2).2.2.1 h5; omega; omega) | (intro k hk hl hS; simp only [At] at hS; have := hQb k hk; omega) | (intro k hk hl hS; simp only [At] at hS; have := hQ2 k hk; omega) | (intro k hk hl hS; exact (hQ2 k hk).2.2.1 hS) | (intro k hk hl hS; simp only [At] at hS; have h1 := hOQ k hk; rcases h1.2.2 with h | h; have := hG k h; omega; have := h1.2.1 h; omega))
                   refine WL.val rfl rfl rfl rfl (r_assign rfl (ev_t rfl)) ?_
                   refine WL.nil ?_
                   refine WX.keep [(0, _), (3, _), (4, _), (11, _), (12, _)] ⟨rfl, rfl, rfl, rfl, rfl, trivial⟩ ?_
                   refine WX.next ?_
                   refine WC.seq ?_
                   refine WC.seq ?_
                   refine WC.region ?_
                   refine WL.val rfl rfl rfl rfl (r_move rfl (ev_t rfl)) ?_
                   refine WL.val rfl rfl rfl rfl (r_lenSlice (ts := #[]) rfl (ev_t rfl) elem_28) ?_
                   refine WL.val rfl rfl rfl rfl (r_move rfl ev_c) ?_
                   refine WL.nil ?_
                   refine WX.keep [(0, _), (3, _), (4, _), (11, _), (12, _), (79, _), (80, _), (81, _)] ⟨rfl, rfl, rfl, rfl, rfl, rfl, rfl, rfl, trivial⟩ ?_
                   refine WX.next ?_
                   refine WC.block ?_
                   -- loop 1: live [0, 3, 4, 11, 12, 79, 80, 81]
                   refine WC.keep [(0, _), (3, _), (4, _), (11, _), (12, _), (79, _), (80, _), (81, _)] ⟨rfl, rfl, rfl, rfl, rfl, rfl, rfl, rfl, trivial⟩ ?_
                   refine WC.loop (fun qq E wC => ∃ (j : Nat) (pv lvn : Value) (Q P : Nat → Prop), j ≤ V0.length ∧ qq = V0.length - j ∧ Upd F w wC ∧ bN < wC.heap.size ∧ Blk wC p (walC d a side turn s (.slice As s.log.length cs)) 53 ∧ IsD wC R d D ∧ Blk wC bN (stC ⟨t, v, s.base, []⟩ lvn) 36 ∧   OEnts wC Q lvn (s.log.take k0 ++ (V0.take j).map EnV.x) ∧ Own wC P 5 1 pv (recVo t v ++ entB fr ((V0.take j).map EnV.x)).length ((recVo t v ++ entB fr ((V0.take j).map EnV.x)).map U8) ∧ (∀ k, Q k → (G k ∨ w.heap.size ≤ k) ∧ k ≠ bN ∧ ¬ P k ∧ k < wC.heap.size) ∧ (∀ k, P k → w.heap.size ≤ k ∧ k ≠ bN ∧ k < wC.heap.size) ∧   E = [(0, .pointer (some ⟨p, 0, none⟩)), (3, .int .u64 (fr : Int)), (4, .slice A0 V0.length c0), (11, .pointer (some ⟨bN, 0, none⟩)), (12, pv), (79, .slice A0 V0.length c0), (80, .int .i64 (V0.length : Int)), (81, .int .i64 (j : Int))]) (V0.length) ?_ ?_
                   · exact ⟨0, _, lvn, fun k => Q k ∧ k < wD.heap.size, P0, by omega, by omega, hU, by omega, hB, hD, hN, by simpa using hQ0, by simpa [entB] using hPo, fun k hk => ⟨(hQb k hk.1).1, (hQb k hk.1).2, fun h => by have := hPb0 k h; omega, by omega⟩, fun k hk => by have := hPb0 k hk; omega, rfl⟩
                   · clear hU hB hD hN hOE hPo hQ0
                     rintro qq E wC ⟨j, pv, lvn, Q, P, hj, rfl, hU, hbNC, hB, hD, hN, hOE, hPo, hQb, hPb, rfl⟩
                     obtain ⟨An, cn, rfl, hcn⟩ := hOE.form
                     obtain ⟨Ap, cp, rfl, hcp⟩ := Own.form hPo
                     have hwC := hU.size
                     refine WC.seq ?_
                     refine WC.region ?_
                     refine WL.val rfl rfl rfl rfl (r_lss rfl (ev_t rfl) (ev_t rfl)) ?_
                     refine WL.nil ?_
                     refine WX.keep [(0, _), (3, _), (4, _), (11, _), (12, _), (79, _), (80, _), (81, _), (82, _)] ⟨rfl, rfl, rfl, rfl, rfl, rfl, rfl, rfl, rfl, trivial⟩ ?_
                     refine WX.next ?_
                     refine WC.seq ?_
                     refine WC.cond rfl (ev_t rfl) (fun hc8 => ?_) (fun hc8 => ?_)
                     · try (exfalso; first | (simp at hc8; done) | (simp only [decide_eq_true_eq, decide_eq_false_iff_not, Bool.not_eq_true', Bool.not_eq_false', Bool.not_eq_true, Bool.not_eq_false] at hc8; omega) | omega)
                       all_goals
                        try simp only [decide_eq_true_eq, decide_eq_false_iff_not, Bool.not_eq_true', Bool.not_eq_false', Bool.not_eq_true, Bool.not_eq_false, Option.isNone_none, Option.isNone_some, Option.isSome_none, Option.isSome_some, ne_eq, Decidable.not_not] at hc8
                        have hjl : j < V0.length := by omega
                        have hgj : V0[j]? = some V0[j] := List.getElem?_eq_getElem hjl
                        have hmj : V0[j] ∈ V0 := List.getElem_mem hjl
                        generalize hrj : V0[j] = r at hgj hmj
                        clear hrj
                        obtain ⟨rx, rv⟩ := r
                        have hxL : rx ∈ L := by rw [← hV0]; exact List.mem_map.2 ⟨_, hmj, rfl⟩
                        have hxc := hLx rx hxL
                        obtain ⟨b0, off, rfl, _⟩ := hr0.open (by omega)
                        have hcd := hc0 _ hmj
                        obtain ⟨Ar, cr, hrv, hcr⟩ := hcd.slice_form
                        simp only at hrv hcd
                        subst hrv
                        have hPl : (recVo t v ++ entB fr ((V0.take j).map EnV.x)).length ≤ 500000 := by
                          have h1 := entB_len ((V0.take j).map EnV.x) fr (by rw [List.length_map, List.length_take]; omega) (fun x hx => by
                            obtain ⟨r, hr, rfl⟩ := List.mem_map.1 hx
                            exact hLx r.x (by rw [← hV0]; exact List.mem_map.2 ⟨r, List.mem_of_mem_take hr, rfl⟩))
                          rw [List.length_map, List.length_take] at h1
                          rw [List.length_append]
                          have h2 : min j V0.length * 4070 ≤ 100 * 4070 := Nat.mul_le_mul_right _ (by omega)
                          omega
                        refine WC.skip ?_
                        refine WX.next ?_
                        refine WC.seq ?_
                        refine WC.block ?_
                        refine WC.seq ?_
                        refine WC.region ?_
                        refine WL.val rfl rfl rfl rfl (r_move rfl (ev_t rfl)) ?_
                        refine WL.val rfl rfl rfl rfl (r_indexAddr rfl (ev_t rfl) (ev_t rfl) elem_28 size_33 (by omega) (by omega)) ?_
                        refine WL.val rfl rfl rfl rfl (r_loadAgg (vs := [_, _, _, _]) rfl (ev_t rfl) agg_33 size_33 (Rd.cellsL (us := EnV.cells ⟨rx, _⟩) (hr0.upd hU hF2) (i := j * 4) (by omega) (fun q v hv => EnV.flat_get hgj hv))) ?_
                        refine WL.cons (SO.alloc rfl rfl rfl rfl (r_alloc rfl zero_33) ?_)
                        intro w10 hu10 hB10 hz10
                        have hs10 := hu10.size
                        replace hU := hU.trans hu10 (by first | exact (fun _ _ h => h) | exact (fun _ _ h => h.elim) | (intro k hl hk; (try simp only [At, New, Grow, From, No] at hk ⊢); omega) | (intro k hl hk; first | exact (show False from hk).elim | (simp only [At] at hk; omega) | (simp only [At] at hk; subst hk; exact hFp) | (exact (hR _ hk).1) | (have h3 := hRb _ hk; rcases h3 with h5 | h5; exact (hR _ h5).1; omega) | (have h1 := hGb _ hk; rcases h1.1 with h2 | h2; exact (hG _ h2).1; omega) | (have := hPb _ hk; omega)))
                        replace hB := hB.upd hu10 (by first | exact (fun h => h) | (simp only [At]; omega) | (intro h; have := hR _ h; omega) | (intro h; have h3 := hRb _ h; rcases h3 with h5 | h5; have h0 := hR _ h5; omega; omega) | (intro h; have h1 := hGb _ h; rcases h1.1 with h2 | h2; have := hG _ h2; omega; omega) | (intro h; have := hPb _ h; omega))
                        replace hD := hD.upd hu10 (by first | exact (fun _ _ _ h => h) | (intro k hk hl hS; simp only [At] at hS; have h3 := hRc k hk; rcases h3 with h5 | h5; have h0 := hR _ h5; omega; omega) | (intro k hk hl hS; simp only [At] at hS; have := hR k hk; omega) | (intro k hk hl hS; have h0 := hR k hk; have h1 := hGb _ hS; rcases h1.1 with h2 | h2; exact (hG _ h2).2.2.1 hk; omega) | (intro k hk hl hS; have := hPb _ hS; have := hR k hk; omega))
                        replace hN := hN.upd hu10 (by first | exact (fun h => h) | (simp only [At]; omega) | (intro h; have := hR _ h; omega) | (intro h; have h3 := hRb _ h; rcases h3 with h5 | h5; have h0 := hR _ h5; omega; omega) | (intro h; have := hGb _ h; omega) | (intro h; have := hPb _ h; omega))
                        replace hOE := hOE.upd hu10 (by first | exact (fun _ _ _ h => h) | (intro k hk hl hS; simp only [At] at hS; have h1 := (hQb k hk).1; rcases h1 with h2 | h2; have := hG k h2; omega; omega) | (intro k hk hl hS; have h0 := hR k hS; have h1 := (hQb k hk).1; rcases h1 with h2 | h2; exact (hG _ h2).2.2.1 hS; omega) | (intro k hk hl hS; have h3 := hRb k hS; have h4 := hQb k hk; rcases h3 with h5 | h5; have h0 := hR k h5; rcases h4.1 with h2 | h2; exact (hG _ h2).2.2.1 h5; omega; omega) | (intro k hk hl hS; simp only [At] at hS; have := hQb k hk; omega) | (intro k hk hl hS; simp only [At] at hS; have := hQ2 k hk; omega) | (intro k hk hl hS; exact (hQ2 k hk).2.2.1 hS) | (intro k hk hl hS; simp only [At] at hS; have h1 := hOQ k hk; rcases h1.2.2 with h | h; have := hG k h; omega; have := h1.2.1 h; omega))
                        replace hPo := hPo.upd hu10 (by first | exact (fun _ _ _ h => h) | (intro k hk hl hS; have h0 := hR k hS; have := hPb k hk; omega) | (intro k hk hl hS; have h3 := hRb k hS; have h4 := hPb k hk; rcases h3 with h5 | h5; have h0 := hR k h5; omega; omega) | (intro k hk hl hS; simp only [At] at hS; have := hPb k hk; omega) | (intro k hk hl hS; exact (hGb k hS).2.2.1 hk))
                        refine WL.val rfl rfl rfl rfl (r_assign rfl (ev_t rfl)) ?_
                        refine WL.cons (SO.storeAll (us := [_, _, _, _]) rfl (ev_t rfl) (ev_t rfl) size_33 hB10 rfl rfl rfl rfl rfl ?_)
                        intro w11 hu11 hB10 hz11
                        have hs11 := hu11.size
                        replace hU := hU.trans hu11 (by first | exact (fun _ _ h => h) | exact (fun _ _ h => h.elim) | (intro k hl hk; (try simp only [At, New, Grow, From, No] at hk ⊢); omega) | (intro k hl hk; first | exact (show False from hk).elim | (simp only [At] at hk; omega) | (simp only [At] at hk; subst hk; exact hFp) | (exact (hR _ hk).1) | (have h3 := hRb _ hk; rcases h3 with h5 | h5; exact (hR _ h5).1; omega) | (have h1 := hGb _ hk; rcases h1.1 with h2 | h2; exact (hG _ h2).1; omega) | (have := hPb _ hk; omega)))
                        replace hB := hB.upd hu11 (by first | exact (fun h => h) | (simp only [At]; omega) | (intro h; have := hR _ h; omega) | (intro h; have h3 := hRb _ h; rcases h3 with h5 | h5; have h0 := hR _ h5; omega; omega) | (intro h; have h1 := hGb _ h; rcases h1.1 with h2 | h2; have := hG _ h2; omega; omega) | (intro h; have := hPb _ h; omega))
                        replace hD := hD.upd hu11 (by first | exact (fun _ _ _ h => h) | (intro k hk hl hS; simp only [At] at hS; have h3 := hRc k hk; rcases h3 with h5 | h5; have h0 := hR _ h5; omega; omega) | (intro k hk hl hS; simp only [At] at hS; have := hR k hk; omega) | (intro k hk hl hS; have h0 := hR k hk; have h1 := hGb _ hS; rcases h1.1 with h2 | h2; exact (hG _ h2).2.2.1 hk; omega) | (intro k hk hl hS; have := hPb _ hS; have := hR k hk; omega))
                        replace hN := hN.upd hu11 (by first | exact (fun h => h) | (simp only [At]; omega) | (intro h; have := hR _ h; omega) | (intro h; have h3 := hRb _ h; rcases h3 with h5 | h5; have h0 := hR _ h5; omega; omega) | (intro h; have := hGb _ h; omega) | (intro h; have := hPb _ h; omega))
                        replace hOE := hOE.upd hu11 (by first | exact (fun _ _ _ h => h) | (intro k hk hl hS; simp only [At] at hS; have h1 := (hQb k hk).1; rcases h1 with h2 | h2; have := hG k h2; omega; omega) | (intro k hk hl hS; have h0 := hR k hS; have h1 := (hQb k hk).1; rcases h1 with h2 | h2; exact (hG _ h2).2.2.1 hS; omega) | (intro k hk hl hS; have h3 := hRb k hS; have h4 := hQb k hk; rcases h3 with h5 | h5; have h0 := hR k h5; rcases h4.1 with h2 | h2; exact (hG _ h2).2.2.1 h5; omega; omega) | (intro k hk hl hS; simp only [At] at hS; have := hQb k hk; omega) | (intro k hk hl hS; simp only [At] at hS; have := hQ2 k hk; omega) | (intro k hk hl hS; exact (hQ2 k hk).2.2.1 hS) | (intro k hk hl hS; simp only [At] at hS; have h1 := hOQ k hk; rcases h1.2.2 with h | h; have := hG k h; omega; have := h1.2.1 h; omega))
                        replace hPo := hPo.upd hu11 (by first | exact (fun _ _ _ h => h) | (intro k hk hl hS; have h0 := hR k hS; have := hPb k hk; omega) | (intro k hk hl hS; have h3 := hRb k hS; have h4 := hPb k hk; rcases h3 with h5 | h5; have h0 := hR k h5; omega; omega) | (intro k hk hl hS; simp only [At] at hS; have := hPb k hk; omega) | (intro k hk hl hS; exact (hGb k hS).2.2.1 hk))
                        refine WL.nil ?_
                        refine WX.keep [(0, _), (3, _), (4, _), (11, _), (12, _), (13, _), (14, _), (79, _), (80, _), (81, _)] ⟨rfl, rfl, rfl, rfl, rfl, rfl, rfl, rfl, rfl, rfl, trivial⟩ ?_
                        refine WX.next ?_
                        refine WC.seq ?_
                        refine WC.seq ?_
                        refine WC.region ?_
                        first | refine WL.val rfl rfl rfl rfl (r_field0 rfl (ev_t rfl) fld_33_3) ?_ | refine WL.val rfl rfl rfl rfl (r_fieldAt rfl (ev_t rfl) fld_33_3) ?_
                        refine WL.val rfl rfl rfl rfl (r_load rfl (ev_t rfl) flat_22 (Blk.cell hB10 rfl)) ?_
                        refine WL.val rfl rfl rfl rfl (r_lenSlice (ts := #[]) rfl (ev_t rfl) elem_22) ?_
                        refine WL.val rfl rfl rfl rfl (r_gtr rfl (ev_t rfl) ev_c) ?_
                        refine WL.nil ?_
                        refine WX.keep [(0, _), (3, _), (4, _), (11, _), (12, _), (13, _), (14, _), (79, _), (80, _), (81, _), (89, _)] ⟨rfl, rfl, rfl, rfl, rfl, rfl, rfl, rfl, rfl, rfl, rfl, trivial⟩ ?_
                        refine WX.next ?_
                        refine WC.cond rfl (ev_t rfl) (fun hc10 => ?_) (fun hc10 => ?_)
                        · try simp only [decide_eq_true_eq, decide_eq_false_iff_not, Bool.not_eq_true', Bool.not_eq_false', Bool.not_eq_true, Bool.not_eq_false, Option.isNone_none, Option.isNone_some, Option.isSome_none, Option.isSome_some, ne_eq, Decidable.not_not] at hc10
                          exfalso
                          omega
                        · try (exfalso; first | (simp at hc10; done) | (simp only [decide_eq_true_eq, decide_eq_false_iff_not, Bool.not_eq_true', Bool.not_eq_false', Bool.not_eq_true, Bool.not_eq_false] at hc10; omega) | omega)
                          all_goals
                           try simp only [decide_eq_true_eq, decide_eq_false_iff_not, Bool.not_eq_true', Bool.not_eq_false', Bool.not_eq_true, Bool.not_eq_false, Option.isNone_none, Option.isNone_some, Option.isSome_none, Option.isSome_some, ne_eq, Decidable.not_not] at hc10
                           refine WC.skip ?_
                           refine WX.next ?_
                           refine WC.seq ?_
                           refine WC.region ?_
                           first | refine WL.val rfl rfl rfl rfl (r_field0 rfl (ev_t rfl) fld_33_3) ?_ | refine WL.val rfl rfl rfl rfl (r_fieldAt rfl (ev_t rfl) fld_33_3) ?_
                           refine WL.val rfl rfl rfl rfl (r_load rfl (ev_t rfl) flat_22 (Blk.cell hB10 rfl)) ?_
                           refine WL.cons (SO.call (clone_ok (hcd.upd hU hF2)) rfl body_18 ⟨(ev_t rfl), trivial⟩ rfl rfl rfl rfl ?_)
                           rintro v9 w12 ⟨hcc, hu12⟩
                           obtain ⟨Ac, cc, rfl, hccl⟩ := Own.form hcc
                           have hCn : ∀ k, New w11 w12 k → wC.heap.size + 1 ≤ k ∧ k < w12.heap.size := fun k hk => by simp only [New] at hk; omega
                           generalize New w11 w12 = C at *
                           have hccr := hcc.rd (by omega)
                           clear hcc
                           have hs12 := hu12.size
                           replace hU := hU.trans hu12 (by first | exact (fun _ _ h => h) | exact (fun _ _ h => h.elim) | (intro k hl hk; (try simp only [At, New, Grow, From, No] at hk ⊢); omega) | (intro k hl hk; first | exact (show False from hk).elim | (simp only [At] at hk; omega) | (simp only [At] at hk; subst hk; exact hFp) | (exact (hR _ hk).1) | (have h3 := hRb _ hk; rcases h3 with h5 | h5; exact (hR _ h5).1; omega) | (have h1 := hGb _ hk; rcases h1.1 with h2 | h2; exact (hG _ h2).1; omega) | (have := hPb _ hk; omega)))
                           replace hB := hB.upd hu12 (by first | exact (fun h => h) | (simp only [At]; omega) | (intro h; have := hR _ h; omega) | (intro h; have h3 := hRb _ h; rcases h3 with h5 | h5; have h0 := hR _ h5; omega; omega) | (intro h; have h1 := hGb _ h; rcases h1.1 with h2 | h2; have := hG _ h2; omega; omega) | (intro h; have := hPb _ h; omega))
                           replace hD := hD.upd hu12 (by first | exact (fun _ _ _ h => h) | (intro k hk hl hS; simp only [At] at hS; have h3 := hRc k hk; rcases h3 with h5 | h5; have h0 := hR _ h5; omega; omega) | (intro k hk hl hS; simp only [At] at hS; have := hR k hk; omega) | (intro k hk hl hS; have h0 := hR k hk; have h1 := hGb _ hS; rcases h1.1 with h2 | h2; exact (hG _ h2).2.2.1 hk; omega) | (intro k hk hl hS; have := hPb _ hS; have := hR k hk; omega))
                           replace hN := hN.upd hu12 (by first | exact (fun h => h) | (simp only [At]; omega) | (intro h; have := hR _ h; omega) | (intro h; have h3 := hRb _ h; rcases h3 with h5 | h5; have h0 := hR _ h5; omega; omega) | (intro h; have := hGb _ h; omega) | (intro h; have := hPb _ h; omega))
                           replace hOE := hOE.upd hu12 (by first | exact (fun _ _ _ h => h) | (intro k hk hl hS; simp only [At] at hS; have h1 := (hQb k hk).1; rcases h1 with h2 | h2; have := hG k h2; omega; omega) | (intro k hk hl hS; have h0 := hR k hS; have h1 := (hQb k hk).1; rcases h1 with h2 | h2; exact (hG _ h2).2.2.1 hS; omega) | (intro k hk hl hS; have h3 := hRb k hS; have h4 := hQb k hk; rcases h3 with h5 | h5; have h0 := hR k h5; rcases h4.1 with h2 | h2; exact (hG _ h2).2.2.1 h5; omega; omega) | (intro k hk hl hS; simp only [At] at hS; have := hQb k hk; omega) | (intro k hk hl hS; simp only [At] at hS; have := hQ2 k hk; omega) | (intro k hk hl hS; exact (hQ2 k hk).2.2.1 hS) | (intro k hk hl hS; simp only [At] at hS; have h1 := hOQ k hk; rcases h1.2.2 with h | h; have := hG k h; omega; have := h1.2.1 h; omega))
                           replace hPo := hPo.upd hu12 (by first | exact (fun _ _ _ h => h) | (intro k hk hl hS; have h0 := hR k hS; have := hPb k hk; omega) | (intro k hk hl hS; have h3 := hRb k hS; have h4 := hPb k hk; rcases h3 with h5 | h5; have h0 := hR k h5; omega; omega) | (intro k hk hl hS; simp only [At] at hS; have := hPb k hk; omega) | (intro k hk hl hS; exact (hGb k hS).2.2.1 hk))
                           replace hB10 := hB10.updA hu12
                           first | refine WL.val rfl rfl rfl rfl (r_field0 rfl (ev_t rfl) fld_33_3) ?_ | refine WL.val rfl rfl rfl rfl (r_fieldAt rfl (ev_t rfl) fld_33_3) ?_
                           refine WL.cons (SO.store rfl (ev_t rfl) (ev_t rfl) size_22 hB10 rfl rfl rfl rfl rfl ?_)
                           intro w13 hu13 hB10 hz13
                           have hs13 := hu13.size
                           replace hU := hU.trans hu13 (by first | exact (fun _ _ h => h) | exact (fun _ _ h => h.elim) | (intro k hl hk; (try simp only [At, New, Grow, From, No] at hk ⊢); omega) | (intro k hl hk; first | exact (show False from hk).elim | (simp only [At] at hk; omega) | (simp only [At] at hk; subst hk; exact hFp) | (exact (hR _ hk).1) | (have h3 := hRb _ hk; rcases h3 with h5 | h5; exact (hR _ h5).1; omega) | (have h1 := hGb _ hk; rcases h1.1 with h2 | h2; exact (hG _ h2).1; omega) | (have := hPb _ hk; omega)))
                           replace hB := hB.upd hu13 (by first | exact (fun h => h) | (simp only [At]; omega) | (intro h; have := hR _ h; omega) | (intro h; have h3 := hRb _ h; rcases h3 with h5 | h5; have h0 := hR _ h5; omega; omega) | (intro h; have h1 := hGb _ h; rcases h1.1 with h2 | h2; have := hG _ h2; omega; omega) | (intro h; have := hPb _ h; omega))
                           replace hD := hD.upd hu13 (by first | exact (fun _ _ _ h => h) | (intro k hk hl hS; simp only [At] at hS; have h3 := hRc k hk; rcases h3 with h5 | h5; have h0 := hR _ h5; omega; omega) | (intro k hk hl hS; simp only [At] at hS; have := hR k hk; omega) | (intro k hk hl hS; have h0 := hR k hk; have h1 := hGb _ hS; rcases h1.1 with h2 | h2; exact (hG _ h2).2.2.1 hk; omega) | (intro k hk hl hS; have := hPb _ hS; have := hR k hk; omega))
                           replace hN := hN.upd hu13 (by first | exact (fun h => h) | (simp only [At]; omega) | (intro h; have := hR _ h; omega) | (intro h; have h3 := hRb _ h; rcases h3 with h5 | h5; have h0 := hR _ h5; omega; omega) | (intro h; have := hGb _ h; omega) | (intro h; have := hPb _ h; omega))
                           replace hOE := hOE.upd hu13 (by first | exact (fun _ _ _ h => h) | (intro k hk hl hS; simp only [At] at hS; have h1 := (hQb k hk).1; rcases h1 with h2 | h2; have := hG k h2; omega; omega) | (intro k hk hl hS; have h0 := hR k hS; have h1 := (hQb k hk).1; rcases h1 with h2 | h2; exact (hG _ h2).2.2.1 hS; omega) | (intro k hk hl hS; have h3 := hRb k hS; have h4 := hQb k hk; rcases h3 with h5 | h5; have h0 := hR k h5; rcases h4.1 with h2 | h2; exact (hG _ h2).2.2.1 h5; omega; omega) | (intro k hk hl hS; simp only [At] at hS; have := hQb k hk; omega) | (intro k hk hl hS; simp only [At] at hS; have := hQ2 k hk; omega) | (intro k hk hl hS; exact (hQ2 k hk).2.2.1 hS) | (intro k hk hl hS; simp only [At] at hS; have h1 := hOQ k hk; rcases h1.2.2 with h | h; have := hG k h; omega; have := h1.2.1 h; omega))
                           replace hPo := hPo.upd hu13 (by first | exact (fun _ _ _ h => h) | (intro k hk hl hS; have h0 := hR k hS; have := hPb k hk; omega) | (intro k hk hl hS; have h3 := hRb k hS; have h4 := hPb k hk; rcases h3 with h5 | h5; have h0 := hR k h5; omega; omega) | (intro k hk hl hS; simp only [At] at hS; have := hPb k hk; omega) | (intro k hk hl hS; exact (hGb k hS).2.2.1 hk))
                           replace hccr := hccr.upd hu13 (by first | exact (fun _ _ _ h => h) | (intro k hk hl hS; simp only [At] at hS; have := hCn k hk; omega) | (intro k hk hl hS; have := hCn k hk; have := hGb k hS; omega) | (intro k hk hl hS; have := hCn k hk; have := hPb k hS; omega))
                           refine WL.nil ?_
                           refine WX.keep [(0, _), (3, _), (4, _), (11, _), (12, _), (13, _), (14, _), (79, _), (80, _), (81, _)] ⟨rfl, rfl, rfl, rfl, rfl, rfl, rfl, rfl, rfl, rfl, trivial⟩ ?_
                           refine WX.next ?_
                           refine WC.seq ?_
                           refine WC.region ?_
                           have hxB := hB10
                           change Blk _ _ #[.int .u64 (rx.term : Int), .int .u64 (rx.ses : Int), .int .u64 (rx.num : Int), .slice Ac rx.cell.length cc] _ at hxB
                           first | refine WL.val rfl rfl rfl rfl (r_field0 rfl (ev_t rfl) fld_36_3) ?_ | refine WL.val rfl rfl rfl rfl (r_fieldAt rfl (ev_t rfl) fld_36_3) ?_
                           refine WL.val rfl rfl rfl rfl (r_load rfl (ev_t rfl) flat_28 (Blk.cell hN rfl)) ?_
                           refine WL.val rfl rfl rfl rfl (r_loadAgg (vs := [_, _, _, _]) rfl (ev_t rfl) agg_33 size_33 (Blk.cellsL hxB)) ?_
                           refine WL.cons (SO.alloc rfl rfl rfl rfl (r_buildSlice (cs := #[_, _, _, _]) (vs := [(0, _)]) rfl ⟨⟨rfl, (ev_t rfl)⟩, trivial⟩ row_28 rfl rfl) ?_)
                           intro w14 hu14 hB14 hz14
                           have hs14 := hu14.size
                           replace hU := hU.trans hu14 (by first | exact (fun _ _ h => h) | exact (fun _ _ h => h.elim) | (intro k hl hk; (try simp only [At, New, Grow, From, No] at hk ⊢); omega) | (intro k hl hk; first | exact (show False from hk).elim | (simp only [At] at hk; omega) | (simp only [At] at hk; subst hk; exact hFp) | (exact (hR _ hk).1) | (have h3 := hRb _ hk; rcases h3 with h5 | h5; exact (hR _ h5).1; omega) | (have h1 := hGb _ hk; rcases h1.1 with h2 | h2; exact (hG _ h2).1; omega) | (have := hPb _ hk; omega)))
                           replace hB := hB.upd hu14 (by first | exact (fun h => h) | (simp only [At]; omega) | (intro h; have := hR _ h; omega) | (intro h; have h3 := hRb _ h; rcases h3 with h5 | h5; have h0 := hR _ h5; omega; omega) | (intro h; have h1 := hGb _ h; rcases h1.1 with h2 | h2; have := hG _ h2; omega; omega) | (intro h; have := hPb _ h; omega))
                           replace hD := hD.upd hu14 (by first | exact (fun _ _ _ h => h) | (intro k hk hl hS; simp only [At] at hS; have h3 := hRc k hk; rcases h3 with h5 | h5; have h0 := hR _ h5; omega; omega) | (intro k hk hl hS; simp only [At] at hS; have := hR k hk; omega) | (intro k hk hl hS; have h0 := hR k hk; have h1 := hGb _ hS; rcases h1.1 with h2 | h2; exact (hG _ h2).2.2.1 hk; omega) | (intro k hk hl hS; have := hPb _ hS; have := hR k hk; omega))
                           replace hN := hN.upd hu14 (by first | exact (fun h => h) | (simp only [At]; omega) | (intro h; have := hR _ h; omega) | (intro h; have h3 := hRb _ h; rcases h3 with h5 | h5; have h0 := hR _ h5; omega; omega) | (intro h; have := hGb _ h; omega) | (intro h; have := hPb _ h; omega))
                           replace hOE := hOE.upd hu14 (by first | exact (fun _ _ _ h => h) | (intro k hk hl hS; simp only [At] at hS; have h1 := (hQb k hk).1; rcases h1 with h2 | h2; have := hG k h2; omega; omega) | (intro k hk hl hS; have h0 := hR k hS; have h1 := (hQb k hk).1; rcases h1 with h2 | h2; exact (hG _ h2).2.2.1 hS; omega) | (intro k hk hl hS; have h3 := hRb k hS; have h4 := hQb k hk; rcases h3 with h5 | h5; have h0 := hR k h5; rcases h4.1 with h2 | h2; exact (hG _ h2).2.2.1 h5; omega; omega) | (intro k hk hl hS; simp only [At] at hS; have := hQb k hk; omega) | (intro k hk hl hS; simp only [At] at hS; have := hQ2 k hk; omega) | (intro k hk hl hS; exact (hQ2 k hk).2.2.1 hS) | (intro k hk hl hS; simp only [At] at hS; have h1 := hOQ k hk; rcases h1.2.2 with h | h; have := hG k h; omega; have := h1.2.1 h; omega))
                           replace hPo := hPo.upd hu14 (by first | exact (fun _ _ _ h => h) | (intro k hk hl hS; have h0 := hR k hS; have := hPb k hk; omega) | (intro k hk hl hS; have h3 := hRb k hS; have h4 := hPb k hk; rcases h3 with h5 | h5; have h0 := hR k h5; omega; omega) | (intro k hk hl hS; simp only [At] at hS; have := hPb k hk; omega) | (intro k hk hl hS; exact (hGb k hS).2.2.1 hk))
                           replace hccr := hccr.upd hu14 (by first | exact (fun _ _ _ h => h) | (intro k hk hl hS; simp only [At] at hS; have := hCn k hk; omega) | (intro k hk hl hS; have := hCn k hk; have := hGb k hS; omega) | (intro k hk hl hS; have := hCn k hk; have := hPb k hS; omega))
                           replace hxB := hxB.upd hu14 (by first | exact (fun h => h) | (simp only [At]; omega) | (intro h; have := hGb _ h; omega) | (intro h; have := hPb _ h; omega))
                           obtain ⟨V, G1, H1, hV, hO, hH, hG1, hH1⟩ := hOE
                           have hGb : ∀ k, G1 k → (G k ∨ w.heap.size ≤ k) ∧ k ≠ bN ∧ ¬ P k ∧ k < wC.heap.size := fun k hk => hQb k (hG1 k hk).1
                           have hVj : V.length = (s.log.take k0 ++ (V0.take j).map EnV.x).length := by rw [← hV, List.length_map]
                           have hVj2 : V.length ≤ 1100 := by rw [hVj, List.length_append, List.length_map, List.length_take, List.length_take]; omega
                           have hccp := hccr
                           have hUp := hU.size
                           refine WL.cons (SO.append hO (Rd.of_blk (F := At _) (n := 1) (sz := 4) hB14 rfl rfl (by omega)) row_28 (by intro u hu; simp at hu; rcases hu with rfl | rfl | rfl | rfl <;> rfl) (le_maxLen (by omega)) (by omega) rfl (ev_t rfl) (ev_t rfl) rfl rfl rfl rfl ?_)
                           intro v15 w15 hO2 hu15
                           have hs15 := hu15.size
                           replace hU := hU.trans hu15 (by first | exact (fun _ _ h => h) | exact (fun _ _ h => h.elim) | (intro k hl hk; (try simp only [At, New, Grow, From, No] at hk ⊢); omega) | (intro k hl hk; first | exact (show False from hk).elim | (simp only [At] at hk; omega) | (simp only [At] at hk; subst hk; exact hFp) | (exact (hR _ hk).1) | (have h3 := hRb _ hk; rcases h3 with h5 | h5; exact (hR _ h5).1; omega) | (have h1 := hGb _ hk; rcases h1.1 with h2 | h2; exact (hG _ h2).1; omega) | (have := hPb _ hk; omega)))
                           replace hB := hB.upd hu15 (by first | exact (fun h => h) | (simp only [At]; omega) | (intro h; have := hR _ h; omega) | (intro h; have h3 := hRb _ h; rcases h3 with h5 | h5; have h0 := hR _ h5; omega; omega) | (intro h; have h1 := hGb _ h; rcases h1.1 with h2 | h2; have := hG _ h2; omega; omega) | (intro h; have := hPb _ h; omega))
                           replace hD := hD.upd hu15 (by first | exact (fun _ _ _ h => h) | (intro k hk hl hS; simp only [At] at hS; have h3 := hRc k hk; rcases h3 with h5 | h5; have h0 := hR _ h5; omega; omega) | (intro k hk hl hS; simp only [At] at hS; have := hR k hk; omega) | (intro k hk hl hS; have h0 := hR k hk; have h1 := hGb _ hS; rcases h1.1 with h2 | h2; exact (hG _ h2).2.2.1 hk; omega) | (intro k hk hl hS; have := hPb _ hS; have := hR k hk; omega))
                           replace hN := hN.upd hu15 (by first | exact (fun h => h) | (simp only [At]; omega) | (intro h; have := hR _ h; omega) | (intro h; have h3 := hRb _ h; rcases h3 with h5 | h5; have h0 := hR _ h5; omega; omega) | (intro h; have := hGb _ h; omega) | (intro h; have := hPb _ h; omega))
                           replace hPo := hPo.upd hu15 (by first | exact (fun _ _ _ h => h) | (intro k hk hl hS; have h0 := hR k hS; have := hPb k hk; omega) | (intro k hk hl hS; have h3 := hRb k hS; have h4 := hPb k hk; rcases h3 with h5 | h5; have h0 := hR k h5; omega; omega) | (intro k hk hl hS; simp only [At] at hS; have := hPb k hk; omega) | (intro k hk hl hS; exact (hGb k hS).2.2.1 hk))
                           replace hccr := hccr.upd hu15 (by first | exact (fun _ _ _ h => h) | (intro k hk hl hS; simp only [At] at hS; have := hCn k hk; omega) | (intro k hk hl hS; have := hCn k hk; have := hGb k hS; omega) | (intro k hk hl hS; have := hCn k hk; have := hPb k hS; omega))
                           replace hxB := hxB.upd hu15 (by first | exact (fun h => h) | (simp only [At]; omega) | (intro h; have := hGb _ h; omega) | (intro h; have := hPb _ h; omega))
                           obtain ⟨A15, c15, rfl, hc15⟩ := Own.form hO2
                           have hOE := OEnts.snoc (x := rx) (F' := fun k => Q k ∨ (wC.heap.size < k ∧ k < w15.heap.size)) hH hG1 hH1 hccp (fun k hk => ⟨.inr (by have := hCn k hk; omega), fun h => by have := hGb k h; have := hCn k hk; omega, by have := hCn k hk; omega⟩) hu15 hO2 (fun k hk => .inl hk) (fun k h1 h2 => .inr (by omega))
                           obtain ⟨Q2, hQd⟩ : ∃ Q2 : Nat → Prop, Q2 = fun k => Q k ∨ (wC.heap.size < k ∧ k < w15.heap.size) := ⟨_, rfl⟩
                           rw [← hQd] at hOE
                           have hQ2 : ∀ k, Q2 k → (G k ∨ w.heap.size ≤ k) ∧ k ≠ bN ∧ ¬ P k ∧ k < w15.heap.size := fun k hk => by
                             have h9 := hu15.size
                             rw [hQd] at hk
                             rcases hk with h | h
                             · have h1 := hQb k h; exact ⟨h1.1, h1.2.1, h1.2.2.1, by omega⟩
                             · exact ⟨.inr (by omega), by omega, fun h2 => by have := hPb k h2; omega, h.2⟩
                           clear hQd
                           rw [hV] at hOE
                           skip
                           first | refine WL.val rfl rfl rfl rfl (r_field0 rfl (ev_t rfl) fld_36_3) ?_ | refine WL.val rfl rfl rfl rfl (r_fieldAt rfl (ev_t rfl) fld_36_3) ?_
                           refine WL.cons (SO.store rfl (ev_t rfl) (ev_t rfl) size_28 hN rfl rfl rfl rfl rfl ?_)
                           intro w16 hu16 hN hz16
                           have hs16 := hu16.size
                           replace hU := hU.trans hu16 (by first | exact (fun _ _ h => h) | exact (fun _ _ h => h.elim) | (intro k hl hk; (try simp only [At, New, Grow, From, No] at hk ⊢); omega) | (intro k hl hk; first | exact (show False from hk).elim | (simp only [At] at hk; omega) | (simp only [At] at hk; subst hk; exact hFp) | (exact (hR _ hk).1) | (have h3 := hRb _ hk; rcases h3 with h5 | h5; exact (hR _ h5).1; omega) | (have h1 := hGb _ hk; rcases h1.1 with h2 | h2; exact (hG _ h2).1; omega) | (have := hPb _ hk; omega)))
                           replace hB := hB.upd hu16 (by first | exact (fun h => h) | (simp only [At]; omega) | (intro h; have := hR _ h; omega) | (intro h; have h3 := hRb _ h; rcases h3 with h5 | h5; have h0 := hR _ h5; omega; omega) | (intro h; have h1 := hGb _ h; rcases h1.1 with h2 | h2; have := hG _ h2; omega; omega) | (intro h; have := hPb _ h; omega))
                           replace hD := hD.upd hu16 (by first | exact (fun _ _ _ h => h) | (intro k hk hl hS; simp only [At] at hS; have h3 := hRc k hk; rcases h3 with h5 | h5; have h0 := hR _ h5; omega; omega) | (intro k hk hl hS; simp only [At] at hS; have := hR k hk; omega) | (intro k hk hl hS; have h0 := hR k hk; have h1 := hGb _ hS; rcases h1.1 with h2 | h2; exact (hG _ h2).2.2.1 hk; omega) | (intro k hk hl hS; have := hPb _ hS; have := hR k hk; omega))
                           replace hPo := hPo.upd hu16 (by first | exact (fun _ _ _ h => h) | (intro k hk hl hS; have h0 := hR k hS; have := hPb k hk; omega) | (intro k hk hl hS; have h3 := hRb k hS; have h4 := hPb k hk; rcases h3 with h5 | h5; have h0 := hR k h5; omega; omega) | (intro k hk hl hS; simp only [At] at hS; have := hPb k hk; omega) | (intro k hk hl hS; exact (hGb k hS).2.2.1 hk))
                           replace hccr := hccr.upd hu16 (by first | exact (fun _ _ _ h => h) | (intro k hk hl hS; simp only [At] at hS; have := hCn k hk; omega) | (intro k hk hl hS; have := hCn k hk; have := hGb k hS; omega) | (intro k hk hl hS; have := hCn k hk; have := hPb k hS; omega))
                           replace hxB := hxB.upd hu16 (by first | exact (fun h => h) | (simp only [At]; omega) | (intro h; have := hGb _ h; omega) | (intro h; have := hPb _ h; omega))
                           replace hOE := hOE.upd hu16 (by first | exact (fun _ _ _ h => h) | (intro k hk hl hS; simp only [At] at hS; have h1 := (hQb k hk).1; rcases h1 with h2 | h2; have := hG k h2; omega; omega) | (intro k hk hl hS; have h0 := hR k hS; have h1 := (hQb k hk).1; rcases h1 with h2 | h2; exact (hG _ h2).2.2.1 hS; omega) | (intro k hk hl hS; have h3 := hRb k hS; have h4 := hQb k hk; rcases h3 with h5 | h5; have h0 := hR k h5; rcases h4.1 with h2 | h2; exact (hG _ h2).2.2.1 h5; omega; omega) | (intro k hk hl hS; simp only [At] at hS; have := hQb k hk; omega) | (intro k hk hl hS; simp only [At] at hS; have := hQ2 k hk; omega) | (intro k hk hl hS; exact (hQ2 k hk).2.2.1 hS) | (intro k hk hl hS; simp only [At] at hS; have h1 := hOQ k hk; rcases h1.2.2 with h | h; have := hG k h; omega; have := h1.2.1 h; omega))
                           refine WL.nil ?_
                           refine WX.keep [(0, _), (3, _), (4, _), (11, _), (12, _), (13, _), (14, _), (79, _), (80, _), (81, _)] ⟨rfl, rfl, rfl, rfl, rfl, rfl, rfl, rfl, rfl, rfl, trivial⟩ ?_
                           refine WX.next ?_
                           refine WC.region ?_
                           refine WL.val rfl rfl rfl rfl (r_move rfl (ev_t rfl)) ?_
                           refine WL.val rfl rfl rfl rfl (r_move rfl (ev_t rfl)) ?_
                           refine WL.val rfl rfl rfl rfl (r_move rfl (ev_t rfl)) ?_
                           first | refine WL.val rfl rfl rfl rfl (r_convN rfl (ev_t rfl) some_3 int_29 (by simp only [inK]; omega)) ?_ | refine WL.val rfl rfl rfl rfl (r_conv rfl (ev_t rfl) some_3 int_29) ?_
                           first | refine WL.val rfl rfl rfl rfl (r_addN rfl (ev_t rfl) (ev_t rfl) (by simp only [inK]; omega)) ?_ | refine WL.val rfl rfl rfl rfl (r_add rfl (ev_t rfl) (ev_t rfl)) ?_
                           refine WL.val rfl rfl rfl rfl (r_loadAgg (vs := [_, _, _, _]) rfl (ev_t rfl) agg_33 size_33 (Blk.cellsL hxB)) ?_
                           rw [show (fr : Int) + (j : Int) = ((fr + j : Nat) : Int) by omega]
                           refine WL.cons (SO.call (entry_ok (i := fr + j) (x := rx) hccr (fun k hk => by have := hCn k hk; omega) (by omega) hxc.1) rfl body_19 ⟨(ev_t rfl), (ev_t rfl), trivial⟩ rfl rfl rfl rfl ?_)
                           rintro v9 w17 ⟨hep, hu17⟩
                           obtain ⟨Ae, ce, rfl, hce⟩ := Own.form hep
                           have her := hep.rd (by have := recE_len (i := fr + j) (by omega) hxc.1 hxc.2; omega)
                           have hel := recE_len (i := fr + j) (by omega) hxc.1 hxc.2
                           clear hep
                           have hs17 := hu17.size
                           replace hU := hU.trans hu17 (by first | exact (fun _ _ h => h) | exact (fun _ _ h => h.elim) | (intro k hl hk; (try simp only [At, New, Grow, From, No] at hk ⊢); omega) | (intro k hl hk; first | exact (show False from hk).elim | (simp only [At] at hk; omega) | (simp only [At] at hk; subst hk; exact hFp) | (exact (hR _ hk).1) | (have h3 := hRb _ hk; rcases h3 with h5 | h5; exact (hR _ h5).1; omega) | (have h1 := hGb _ hk; rcases h1.1 with h2 | h2; exact (hG _ h2).1; omega) | (have := hPb _ hk; omega)))
                           replace hB := hB.upd hu17 (by first | exact (fun h => h) | (simp only [At]; omega) | (intro h; have := hR _ h; omega) | (intro h; have h3 := hRb _ h; rcases h3 with h5 | h5; have h0 := hR _ h5; omega; omega) | (intro h; have h1 := hGb _ h; rcases h1.1 with h2 | h2; have := hG _ h2; omega; omega) | (intro h; have := hPb _ h; omega))
                           replace hD := hD.upd hu17 (by first | exact (fun _ _ _ h => h) | (intro k hk hl hS; simp only [At] at hS; have h3 := hRc k hk; rcases h3 with h5 | h5; have h0 := hR _ h5; omega; omega) | (intro k hk hl hS; simp only [At] at hS; have := hR k hk; omega) | (intro k hk hl hS; have h0 := hR k hk; have h1 := hGb _ hS; rcases h1.1 with h2 | h2; exact (hG _ h2).2.2.1 hk; omega) | (intro k hk hl hS; have := hPb _ hS; have := hR k hk; omega))
                           replace hN := hN.upd hu17 (by first | exact (fun h => h) | (simp only [At]; omega) | (intro h; have := hR _ h; omega) | (intro h; have h3 := hRb _ h; rcases h3 with h5 | h5; have h0 := hR _ h5; omega; omega) | (intro h; have := hGb _ h; omega) | (intro h; have := hPb _ h; omega))
                           replace hPo := hPo.upd hu17 (by first | exact (fun _ _ _ h => h) | (intro k hk hl hS; have h0 := hR k hS; have := hPb k hk; omega) | (intro k hk hl hS; have h3 := hRb k hS; have h4 := hPb k hk; rcases h3 with h5 | h5; have h0 := hR k h5; omega; omega) | (intro k hk hl hS; simp only [At] at hS; have := hPb k hk; omega) | (intro k hk hl hS; exact (hGb k hS).2.2.1 hk))
                           replace hccr := hccr.upd hu17 (by first | exact (fun _ _ _ h => h) | (intro k hk hl hS; simp only [At] at hS; have := hCn k hk; omega) | (intro k hk hl hS; have := hCn k hk; have := hGb k hS; omega) | (intro k hk hl hS; have := hCn k hk; have := hPb k hS; omega))
                           replace hxB := hxB.upd hu17 (by first | exact (fun h => h) | (simp only [At]; omega) | (intro h; have := hGb _ h; omega) | (intro h; have := hPb _ h; omega))
                           replace hOE := hOE.upd hu17 (by first | exact (fun _ _ _ h => h) | (intro k hk hl hS; simp only [At] at hS; have h1 := (hQb k hk).1; rcases h1 with h2 | h2; have := hG k h2; omega; omega) | (intro k hk hl hS; have h0 := hR k hS; have h1 := (hQb k hk).1; rcases h1 with h2 | h2; exact (hG _ h2).2.2.1 hS; omega) | (intro k hk hl hS; have h3 := hRb k hS; have h4 := hQb k hk; rcases h3 with h5 | h5; have h0 := hR k h5; rcases h4.1 with h2 | h2; exact (hG _ h2).2.2.1 h5; omega; omega) | (intro k hk hl hS; simp only [At] at hS; have := hQb k hk; omega) | (intro k hk hl hS; simp only [At] at hS; have := hQ2 k hk; omega) | (intro k hk hl hS; exact (hQ2 k hk).2.2.1 hS) | (intro k hk hl hS; simp only [At] at hS; have h1 := hOQ k hk; rcases h1.2.2 with h | h; have := hG k h; omega; have := h1.2.1 h; omega))
                           refine WL.cons (SO.append hPo her row_22 (U8_one _) (le_maxLen (by omega)) (by omega) rfl (ev_t rfl) (ev_t rfl) rfl rfl rfl rfl ?_)
                           intro v18 w18 hPo hu18
                           have hs18 := hu18.size
                           replace hU := hU.trans hu18 (by first | exact (fun _ _ h => h) | exact (fun _ _ h => h.elim) | (intro k hl hk; (try simp only [At, New, Grow, From, No] at hk ⊢); omega) | (intro k hl hk; first | exact (show False from hk).elim | (simp only [At] at hk; omega) | (simp only [At] at hk; subst hk; exact hFp) | (exact (hR _ hk).1) | (have h3 := hRb _ hk; rcases h3 with h5 | h5; exact (hR _ h5).1; omega) | (have h1 := hGb _ hk; rcases h1.1 with h2 | h2; exact (hG _ h2).1; omega) | (have := hPb _ hk; omega)))
                           replace hB := hB.upd hu18 (by first | exact (fun h => h) | (simp only [At]; omega) | (intro h; have := hR _ h; omega) | (intro h; have h3 := hRb _ h; rcases h3 with h5 | h5; have h0 := hR _ h5; omega; omega) | (intro h; have h1 := hGb _ h; rcases h1.1 with h2 | h2; have := hG _ h2; omega; omega) | (intro h; have := hPb _ h; omega))
                           replace hD := hD.upd hu18 (by first | exact (fun _ _ _ h => h) | (intro k hk hl hS; simp only [At] at hS; have h3 := hRc k hk; rcases h3 with h5 | h5; have h0 := hR _ h5; omega; omega) | (intro k hk hl hS; simp only [At] at hS; have := hR k hk; omega) | (intro k hk hl hS; have h0 := hR k hk; have h1 := hGb _ hS; rcases h1.1 with h2 | h2; exact (hG _ h2).2.2.1 hk; omega) | (intro k hk hl hS; have := hPb _ hS; have := hR k hk; omega))
                           replace hN := hN.upd hu18 (by first | exact (fun h => h) | (simp only [At]; omega) | (intro h; have := hR _ h; omega) | (intro h; have h3 := hRb _ h; rcases h3 with h5 | h5; have h0 := hR _ h5; omega; omega) | (intro h; have := hGb _ h; omega) | (intro h; have := hPb _ h; omega))
                           replace hccr := hccr.upd hu18 (by first | exact (fun _ _ _ h => h) | (intro k hk hl hS; simp only [At] at hS; have := hCn k hk; omega) | (intro k hk hl hS; have := hCn k hk; have := hGb k hS; omega) | (intro k hk hl hS; have := hCn k hk; have := hPb k hS; omega))
                           replace hxB := hxB.upd hu18 (by first | exact (fun h => h) | (simp only [At]; omega) | (intro h; have := hGb _ h; omega) | (intro h; have := hPb _ h; omega))
                           replace hOE := hOE.upd hu18 (by first | exact (fun _ _ _ h => h) | (intro k hk hl hS; simp only [At] at hS; have h1 := (hQb k hk).1; rcases h1 with h2 | h2; have := hG k h2; omega; omega) | (intro k hk hl hS; have h0 := hR k hS; have h1 := (hQb k hk).1; rcases h1 with h2 | h2; exact (hG _ h2).2.2.1 hS; omega) | (intro k hk hl hS; have h3 := hRb k hS; have h4 := hQb k hk; rcases h3 with h5 | h5; have h0 := hR k h5; rcases h4.1 with h2 | h2; exact (hG _ h2).2.2.1 h5; omega; omega) | (intro k hk hl hS; simp only [At] at hS; have := hQb k hk; omega) | (intro k hk hl hS; simp only [At] at hS; have := hQ2 k hk; omega) | (intro k hk hl hS; exact (hQ2 k hk).2.2.1 hS) | (intro k hk hl hS; simp only [At] at hS; have h1 := hOQ k hk; rcases h1.2.2 with h | h; have := hG k h; omega; have := h1.2.1 h; omega))
                           replace her := her.upd hu18 (by first | exact (fun _ _ _ h => h) | (intro k hk hl hS; simp only [New] at hk; have := hPb k hS; omega))
                           obtain ⟨A18, c18, rfl, hc18⟩ := Own.form hPo
                           rw [← List.map_append] at hPo
                           have hs9 := hu18.size
                           have hP2 : ∀ k, Grow P w17 w18 k → P k ∨ (w17.heap.size ≤ k ∧ k < w18.heap.size) := fun k hk => hk
                           have hpz : w.heap.size ≤ w17.heap.size ∧ bN < w17.heap.size ∧ ∀ k, Q2 k → k < w17.heap.size := ⟨by omega, by omega, fun k hk => by have := hQ2 k hk; omega⟩
                           generalize Grow P w17 w18 = P2 at *
                           obtain ⟨q0, hq0⟩ : ∃ q, w17.heap.size = q := ⟨_, rfl⟩
                           rw [hq0] at hP2 hpz
                           refine WL.val rfl rfl rfl rfl (r_assign rfl (ev_t rfl)) ?_
                           refine WL.nil ?_
                           refine WX.keep [(0, _), (3, _), (4, _), (11, _), (12, _), (79, _), (80, _), (81, _)] ⟨rfl, rfl, rfl, rfl, rfl, rfl, rfl, rfl, trivial⟩ ?_
                           refine WX.blockNormal ?_
                           refine WX.next ?_
                           refine WC.region ?_
                           first | refine WL.val rfl rfl rfl rfl (r_addN rfl (ev_t rfl) ev_c (by simp only [inK]; omega)) ?_ | refine WL.val rfl rfl rfl rfl (r_add rfl (ev_t rfl) ev_c) ?_
                           refine WL.val rfl rfl rfl rfl (r_move rfl (ev_t rfl)) ?_
                           refine WL.nil ?_
                           refine WX.keep [(0, _), (3, _), (4, _), (11, _), (12, _), (79, _), (80, _), (81, _)] ⟨rfl, rfl, rfl, rfl, rfl, rfl, rfl, rfl, trivial⟩ ?_
                           refine WX.meet [(0, _), (3, _), (4, _), (11, _), (12, _), (79, _), (80, _), (81, _)] ⟨rfl, rfl, rfl, rfl, rfl, rfl, rfl, rfl, trivial⟩ ?_
                           have hlj : ((V0.take j).map EnV.x).length = j := by rw [List.length_map, List.length_take]; omega
                           have e9 : (V0.take (j + 1)).map EnV.x = (V0.take j).map EnV.x ++ [rx] := by rw [List.take_add_one, hgj, List.map_append]; rfl
                           refine ⟨V0.length - (j + 1), by omega, j + 1, _, _, Q2, P2, by omega, rfl, hU, hN.lt, hB, hD, hN, ?_, ?_, fun k hk => ?_, fun k hk => ?_, rfl⟩
                           · rw [e9, ← List.append_assoc]; exact hOE
                           · rw [e9, entB_snoc, hlj, ← List.append_assoc, List.length_append (bs := recB 2 _)]; exact hPo
                           · have h1 := hQ2 k hk
                             have h2 := hpz.2.2 k hk
                             exact ⟨h1.1, h1.2.1, fun h => by rcases hP2 k h with h | h; exact h1.2.2.1 h; omega, by omega⟩
                           · rcases hP2 k hk with h | h
                             · have := hPb k h; omega
                             · omega
                     · try (exfalso; first | (simp at hc8; done) | (simp only [decide_eq_true_eq, decide_eq_false_iff_not, Bool.not_eq_true', Bool.not_eq_false', Bool.not_eq_true, Bool.not_eq_false] at hc8; omega) | omega)
                       all_goals
                        try simp only [decide_eq_true_eq, decide_eq_false_iff_not, Bool.not_eq_true', Bool.not_eq_false', Bool.not_eq_true, Bool.not_eq_false, Option.isNone_none, Option.isNone_some, Option.isSome_none, Option.isSome_some, ne_eq, Decidable.not_not] at hc8
                        obtain rfl : j = V0.length := by omega
                        have eQ : s.log.take k0 ++ (V0.take V0.length).map EnV.x = s.log.take k0 ++ L := by rw [List.take_length, hV0]
                        rw [eQ] at hOE hN
                        have eP : recVo t v ++ entB fr ((V0.take V0.length).map EnV.x) = recVo t v ++ entB fr L := by rw [List.take_length, hV0]
                        rw [eP] at hPo ⊢
                        have hPl : (recVo t v ++ entB fr L).length ≤ 500000 := by rw [List.length_append]; have : L.length * 4070 ≤ 100 * 4070 := Nat.mul_le_mul_right _ hLl; omega
                        refine WC.exit ?_
                        refine WX.thenExit ?_
                        refine WX.thenExit ?_
                        refine WX.blockHere ?_
                        refine WX.next ?_
                        refine WC.seq ?_
                        refine WC.seq ?_
                        refine WC.draws' (fun u0_ u1_ => Upd No u0_ u1_) (fun j => [0, 0, 0, 0, 0, 0, 0, 0, 0, 0, 0, 0, 0, 0, 0, 0, 0, 1, 0, 0, 0].getD j 0) (.calm 0 (.calm 1 (.calm 2 (.calm 3 (.calm 4 (.calm 5 (.calm 6 (.calm 7 (.calm 8 (.calm 13 (.calm 14 (.calm 15 (.calm 16 (.held 9 (.calm 10 (.calm 11 (.calm 12 (.one 17 (.calm 18 (.calm 19 (.calm 20 (.done)))))))))))))))))))))) mixed (by kernel_rfl) (by repeat (first | with_reducible exact Deaf.body | with_reducible apply Deaf.then | with_reducible apply Deaf.block)) ?_
                        intro w19 hu19
                        have hz19 := congrArg Array.size hu19.2.2.2
                        replace hu19 := Upd.of_draw hu19
                        have hs19 := hu19.size
                        replace hU := hU.trans hu19 (by first | exact (fun _ _ h => h) | exact (fun _ _ h => h.elim) | (intro k hl hk; (try simp only [At, New, Grow, From, No] at hk ⊢); omega) | (intro k hl hk; first | exact (show False from hk).elim | (simp only [At] at hk; omega) | (simp only [At] at hk; subst hk; exact hFp) | (exact (hR _ hk).1) | (have h3 := hRb _ hk; rcases h3 with h5 | h5; exact (hR _ h5).1; omega) | (have h1 := hGb _ hk; rcases h1.1 with h2 | h2; exact (hG _ h2).1; omega) | (have := hPb _ hk; omega)))
                        replace hB := hB.upd hu19 (by first | exact (fun h => h) | (simp only [At]; omega) | (intro h; have := hR _ h; omega) | (intro h; have h3 := hRb _ h; rcases h3 with h5 | h5; have h0 := hR _ h5; omega; omega) | (intro h; have h1 := hGb _ h; rcases h1.1 with h2 | h2; have := hG _ h2; omega; omega) | (intro h; have := hPb _ h; omega))
                        replace hD := hD.upd hu19 (by first | exact (fun _ _ _ h => h) | (intro k hk hl hS; simp only [At] at hS; have h3 := hRc k hk; rcases h3 with h5 | h5; have h0 := hR _ h5; omega; omega) | (intro k hk hl hS; simp only [At] at hS; have := hR k hk; omega) | (intro k hk hl hS; have h0 := hR k hk; have h1 := hGb _ hS; rcases h1.1 with h2 | h2; exact (hG _ h2).2.2.1 hk; omega) | (intro k hk hl hS; have := hPb _ hS; have := hR k hk; omega))
                        replace hN := hN.upd hu19 (by first | exact (fun h => h) | (simp only [At]; omega) | (intro h; have := hR _ h; omega) | (intro h; have h3 := hRb _ h; rcases h3 with h5 | h5; have h0 := hR _ h5; omega; omega) | (intro h; have := hGb _ h; omega) | (intro h; have := hPb _ h; omega))
                        replace hOE := hOE.upd hu19 (by first | exact (fun _ _ _ h => h) | (intro k hk hl hS; simp only [At] at hS; have h1 := (hQb k hk).1; rcases h1 with h2 | h2; have := hG k h2; omega; omega) | (intro k hk hl hS; have h0 := hR k hS; have h1 := (hQb k hk).1; rcases h1 with h2 | h2; exact (hG _ h2).2.2.1 hS; omega) | (intro k hk hl hS; have h3 := hRb k hS; have h4 := hQb k hk; rcases h3 with h5 | h5; have h0 := hR k h5; rcases h4.1 with h2 | h2; exact (hG _ h2).2.2.1 h5; omega; omega) | (intro k hk hl hS; simp only [At] at hS; have := hQb k hk; omega) | (intro k hk hl hS; simp only [At] at hS; have := hQ2 k hk; omega) | (intro k hk hl hS; exact (hQ2 k hk).2.2.1 hS) | (intro k hk hl hS; simp only [At] at hS; have h1 := hOQ k hk; rcases h1.2.2 with h | h; have := hG k h; omega; have := h1.2.1 h; omega))
                        replace hPo := hPo.upd hu19 (by first | exact (fun _ _ _ h => h) | (intro k hk hl hS; have h0 := hR k hS; have := hPb k hk; omega) | (intro k hk hl hS; have h3 := hRb k hS; have h4 := hPb k hk; rcases h3 with h5 | h5; have h0 := hR k h5; omega; omega) | (intro k hk hl hS; simp only [At] at hS; have := hPb k hk; omega) | (intro k hk hl hS; exact (hGb k hS).2.2.1 hk))
                        have hS16 := Upd.refl No w19
                        refine WN.calm _ rfl rfl rfl rfl rfl (fun _ => r_move rfl (ev_t rfl)) ?_
                        refine WN.calm _ rfl rfl rfl rfl rfl (fun _ => r_lenSlice (ts := #[]) rfl (ev_t rfl) elem_28) ?_
                        refine WN.calm _ rfl rfl rfl rfl rfl (fun _ => r_eql rfl (ev_t rfl) ev_c) ?_
                        refine WN.calm _ rfl rfl rfl rfl rfl (fun _ => r_move rfl (ev_t rfl)) ?_
                        refine WN.cases 112 rfl (fun hb16_3 => ?_) (fun hb16_3 => ?_)
                        · try (exfalso; first | (simp at hb16_3; done) | (simp only [decide_eq_true_eq, decide_eq_false_iff_not, Bool.not_eq_true', Bool.not_eq_false', Bool.not_eq_true, Bool.not_eq_false] at hb16_3; omega) | omega)
                          all_goals
                           try simp only [decide_eq_true_eq, decide_eq_false_iff_not, Bool.not_eq_true', Bool.not_eq_false', Bool.not_eq_true, Bool.not_eq_false, Option.isNone_none, Option.isNone_some, Option.isSome_none, Option.isSome_some, ne_eq, Decidable.not_not] at hb16_3
                           refine WN.calm _ rfl rfl rfl rfl rfl (fun _ => r_move rfl (ev_t rfl)) ?_
                           refine WN.calm _ rfl rfl rfl rfl rfl (fun _ => r_move rfl (ev_t rfl)) ?_
                           refine WN.calm _ rfl rfl rfl rfl rfl (fun _ => r_nilCheck rfl (ev_t rfl)) ?_
                           first | refine WN.calm _ rfl rfl rfl rfl rfl (fun _ => r_field0 rfl (ev_t rfl) fld_53_4) ?_ | refine WN.calm _ rfl rfl rfl rfl rfl (fun _ => r_fieldAt rfl (ev_t rfl) fld_53_4) ?_
                           first | refine WN.calm _ rfl rfl rfl rfl rfl (fun _ => r_field0 rfl (ev_t rfl) fld_36_2) ?_ | refine WN.calm _ rfl rfl rfl rfl rfl (fun _ => r_fieldAt rfl (ev_t rfl) fld_36_2) ?_
                           refine WN.calm _ rfl rfl rfl rfl rfl (fun _ => r_move rfl (ev_t rfl)) ?_
                           refine WN.calm _ rfl rfl rfl rfl rfl (fun _ => r_nilCheck rfl (ev_t rfl)) ?_
                           first | refine WN.calm _ rfl rfl rfl rfl rfl (fun _ => r_field0 rfl (ev_t rfl) fld_53_4) ?_ | refine WN.calm _ rfl rfl rfl rfl rfl (fun _ => r_fieldAt rfl (ev_t rfl) fld_53_4) ?_
                           first | refine WN.calm _ rfl rfl rfl rfl rfl (fun _ => r_field0 rfl (ev_t rfl) fld_36_3) ?_ | refine WN.calm _ rfl rfl rfl rfl rfl (fun _ => r_fieldAt rfl (ev_t rfl) fld_36_3) ?_
                           fail -- load 16.9: no facts
                        · try (exfalso; first | (simp at hb16_3; done) | (simp only [decide_eq_true_eq, decide_eq_false_iff_not, Bool.not_eq_true', Bool.not_eq_false', Bool.not_eq_true, Bool.not_eq_false] at hb16_3; omega) | omega)
                          all_goals
                           try simp only [decide_eq_true_eq, decide_eq_false_iff_not, Bool.not_eq_true', Bool.not_eq_false', Bool.not_eq_true, Bool.not_eq_false, Option.isNone_none, Option.isNone_some, Option.isSome_none, Option.isSome_some, ne_eq, Decidable.not_not] at hb16_3
                           refine WN.skip _ rfl rfl rfl rfl ?_
                           refine WN.skip _ rfl rfl rfl rfl ?_
                           refine WN.skip _ rfl rfl rfl rfl ?_
                           refine WN.skip _ rfl rfl rfl rfl ?_
                           refine WN.skip _ rfl rfl rfl rfl ?_
                           refine WN.skip _ rfl rfl rfl rfl ?_
                           refine WN.skip _ rfl rfl rfl rfl ?_
                           refine WN.skip _ rfl rfl rfl rfl ?_
                           refine WN.skip _ rfl rfl rfl rfl ?_
                           refine WN.heldSkip _ rfl rfl rfl rfl hS16 ?_
                           refine WN.skip _ rfl rfl rfl rfl ?_
                           refine WN.skip _ rfl rfl rfl rfl ?_
                           refine WN.skip _ rfl rfl rfl rfl ?_
                           refine WN.step _ rfl (SO.skip rfl rfl rfl ?_)
                           refine ⟨hS16, ?_⟩
                           refine WN.skip _ rfl rfl rfl rfl ?_
                           refine WN.skip _ rfl rfl rfl rfl ?_
                           refine WN.calm _ rfl rfl rfl rfl rfl (fun _ => r_pickF rfl (ev_t rfl) ev_c) ?_
                           refine WN.done ?_
                           refine WX.keep [(0, _), (11, _), (12, _), (129, _)] ⟨rfl, rfl, rfl, rfl, trivial⟩ ?_
                           refine WX.next ?_
                           refine WC.cond_false rfl (ev_t rfl) ?_
                           refine WC.skip ?_
                           refine WX.next ?_
                           refine WC.seq ?_
                           refine WC.draws' (fun u0_ u1_ => Upd No u0_ u1_) (fun j => [0, 0, 0, 0, 0, 0, 0, 0, 0, 0, 0, 1, 0, 0, 2, 0].getD j 0) (.calm 0 (.calm 1 (.calm 2 (.calm 4 (.calm 5 (.calm 6 (.calm 8 (.calm 9 (.calm 10 (.calm 13 (.held 3 (.held 7 (.one 11 (.calm 12 (.one 14 (.calm 15 (.done))))))))))))))))) mixed (by kernel_rfl) (by repeat (first | with_reducible exact Deaf.body | with_reducible apply Deaf.then | with_reducible apply Deaf.block)) ?_
                           intro w20 hu20
                           have hz20 := congrArg Array.size hu20.2.2.2
                           replace hu20 := Upd.of_draw hu20
                           have hs20 := hu20.size
                           replace hU := hU.trans hu20 (by first | exact (fun _ _ h => h) | exact (fun _ _ h => h.elim) | (intro k hl hk; (try simp only [At, New, Grow, From, No] at hk ⊢); omega) | (intro k hl hk; first | exact (show False from hk).elim | (simp only [At] at hk; omega) | (simp only [At] at hk; subst hk; exact hFp) | (exact (hR _ hk).1) | (have h3 := hRb _ hk; rcases h3 with h5 | h5; exact (hR _ h5).1; omega) | (have h1 := hGb _ hk; rcases h1.1 with h2 | h2; exact (hG _ h2).1; omega) | (have := hPb _ hk; omega)))
                           replace hB := hB.upd hu20 (by first | exact (fun h => h) | (simp only [At]; omega) | (intro h; have := hR _ h; omega) | (intro h; have h3 := hRb _ h; rcases h3 with h5 | h5; have h0 := hR _ h5; omega; omega) | (intro h; have h1 := hGb _ h; rcases h1.1 with h2 | h2; have := hG _ h2; omega; omega) | (intro h; have := hPb _ h; omega))
                           replace hD := hD.upd hu20 (by first | exact (fun _ _ _ h => h) | (intro k hk hl hS; simp only [At] at hS; have h3 := hRc k hk; rcases h3 with h5 | h5; have h0 := hR _ h5; omega; omega) | (intro k hk hl hS; simp only [At] at hS; have := hR k hk; omega) | (intro k hk hl hS; have h0 := hR k hk; have h1 := hGb _ hS; rcases h1.1 with h2 | h2; exact (hG _ h2).2.2.1 hk; omega) | (intro k hk hl hS; have := hPb _ hS; have := hR k hk; omega))
                           replace hN := hN.upd hu20 (by first | exact (fun h => h) | (simp only [At]; omega) | (intro h; have := hR _ h; omega) | (intro h; have h3 := hRb _ h; rcases h3 with h5 | h5; have h0 := hR _ h5; omega; omega) | (intro h; have := hGb _ h; omega) | (intro h; have := hPb _ h; omega))
                           replace hOE := hOE.upd hu20 (by first | exact (fun _ _ _ h => h) | (intro k hk hl hS; simp only [At] at hS; have h1 := (hQb k hk).1; rcases h1 with h2 | h2; have := hG k h2; omega; omega) | (intro k hk hl hS; have h0 := hR k hS; have h1 := (hQb k hk).1; rcases h1 with h2 | h2; exact (hG _ h2).2.2.1 hS; omega) | (intro k hk hl hS; have h3 := hRb k hS; have h4 := hQb k hk; rcases h3 with h5 | h5; have h0 := hR k h5; rcases h4.1 with h2 | h2; exact (hG _ h2).2.2.1 h5; omega; omega) | (intro k hk hl hS; simp only [At] at hS; have := hQb k hk; omega) | (intro k hk hl hS; simp only [At] at hS; have := hQ2 k hk; omega) | (intro k hk hl hS; exact (hQ2 k hk).2.2.1 hS) | (intro k hk hl hS; simp only [At] at hS; have h1 := hOQ k hk; rcases h1.2.2 with h | h; have := hG k h; omega; have := h1.2.1 h; omega))
                           replace hPo := hPo.upd hu20 (by first | exact (fun _ _ _ h => h) | (intro k hk hl hS; have h0 := hR k hS; have := hPb k hk; omega) | (intro k hk hl hS; have h3 := hRb k hS; have h4 := hPb k hk; rcases h3 with h5 | h5; have h0 := hR k h5; omega; omega) | (intro k hk hl hS; simp only [At] at hS; have := hPb k hk; omega) | (intro k hk hl hS; exact (hGb k hS).2.2.1 hk))
                           have hS18 := Upd.refl No w20
                           refine WN.calm _ rfl rfl rfl rfl rfl (fun _ => r_move rfl (ev_t rfl)) ?_
                           refine WN.calm _ rfl rfl rfl rfl rfl (fun _ => r_nilCheck rfl (ev_t rfl)) ?_
                           first | refine WN.calm _ rfl rfl rfl rfl rfl (fun _ => r_field0 rfl (ev_t rfl) fld_53_0) ?_ | refine WN.calm _ rfl rfl rfl rfl rfl (fun _ => r_fieldAt rfl (ev_t rfl) fld_53_0) ?_
                           refine WN.calm _ rfl rfl rfl rfl rfl (fun _ => r_move rfl (ev_t rfl)) ?_
                           refine WN.calm _ rfl rfl rfl rfl rfl (fun _ => r_nilCheck rfl (ev_t rfl)) ?_
                           first | refine WN.calm _ rfl rfl rfl rfl rfl (fun _ => r_field0 rfl (ev_t rfl) fld_53_1) ?_ | refine WN.calm _ rfl rfl rfl rfl rfl (fun _ => r_fieldAt rfl (ev_t rfl) fld_53_1) ?_
                           refine WN.calm _ rfl rfl rfl rfl rfl (fun _ => r_move rfl (ev_t rfl)) ?_
                           refine WN.calm _ rfl rfl rfl rfl rfl (fun _ => r_nilCheck rfl (ev_t rfl)) ?_
                           first | refine WN.calm _ rfl rfl rfl rfl rfl (fun _ => r_field0 rfl (ev_t rfl) fld_53_2) ?_ | refine WN.calm _ rfl rfl rfl rfl rfl (fun _ => r_fieldAt rfl (ev_t rfl) fld_53_2) ?_
                           refine WN.calm _ rfl rfl rfl rfl rfl (fun _ => r_move rfl (ev_t rfl)) ?_
                           refine WN.held _ rfl rfl rfl rfl rfl hS18 (fun w' hS => r_load rfl (ev_t rfl) flat_24 (Blk.cell (hB.upd hS (fun h => h)) rfl)) ?_
                           refine WN.held _ rfl rfl rfl rfl rfl hS18 (fun w' hS => r_load rfl (ev_t rfl) flat_3 (Blk.cell (hB.upd hS (fun h => h)) rfl)) ?_
                           refine WN.step _ rfl (SO.val rfl rfl rfl rfl (r_load rfl (ev_t rfl) flat_3 (Blk.cell hB rfl)) ?_)
                           refine ⟨hS18, ?_⟩
                           first | refine WN.calm _ rfl rfl rfl rfl rfl (fun _ => r_addN rfl (ev_t rfl) (ev_t rfl) (by simp only [inK]; omega)) ?_ | refine WN.calm _ rfl rfl rfl rfl rfl (fun _ => r_add rfl (ev_t rfl) (ev_t rfl)) ?_
                           rw [show (a : Int) + (side : Int) = ((a + side : Nat) : Int) by omega]
                           refine WN.step _ rfl (SO.call (Append_good hD (hQ.look hi) (hPo.rd (by omega)) (fun k hk hl h => by have := hPb k hk; have := hR k h; omega)) rfl body_13 ⟨(ev_t rfl), (ev_t rfl), (ev_t rfl), trivial⟩ rfl rfl rfl rfl ?_)
                           rw [qa1]
                           rintro v9 w21 ⟨rfl, hD9, hu21⟩
                           have hRc : ∀ k, Grow R w20 w21 k → (R k ∨ w20.heap.size ≤ k) := fun k hk => by rcases hk with h | h; exact .inl h; exact .inr h.1
                           have hpb := hU.size
                           obtain ⟨q0, hq0⟩ : ∃ q, w20.heap.size = q := ⟨_, rfl⟩
                           rw [hq0] at hRc
                           generalize Grow R w20 w21 = R2 at *
                           have hD := hD9
                           clear hD9
                           have hs21 := hu21.size
                           try replace hS18 := Upd.transA hS18 hu21
                           replace hU := hU.trans hu21 (by first | exact (fun _ _ h => h) | exact (fun _ _ h => h.elim) | (intro k hl hk; (try simp only [At, New, Grow, From, No] at hk ⊢); omega) | (intro k hl hk; first | exact (show False from hk).elim | (simp only [At] at hk; omega) | (simp only [At] at hk; subst hk; exact hFp) | (exact (hR _ hk).1) | (have h3 := hRb _ hk; rcases h3 with h5 | h5; exact (hR _ h5).1; omega) | (have h1 := hGb _ hk; rcases h1.1 with h2 | h2; exact (hG _ h2).1; omega) | (have := hPb _ hk; omega)))
                           replace hB := hB.upd hu21 (by first | exact (fun h => h) | (simp only [At]; omega) | (intro h; have := hR _ h; omega) | (intro h; have h3 := hRb _ h; rcases h3 with h5 | h5; have h0 := hR _ h5; omega; omega) | (intro h; have h1 := hGb _ h; rcases h1.1 with h2 | h2; have := hG _ h2; omega; omega) | (intro h; have := hPb _ h; omega))
                           replace hN := hN.upd hu21 (by first | exact (fun h => h) | (simp only [At]; omega) | (intro h; have := hR _ h; omega) | (intro h; have h3 := hRb _ h; rcases h3 with h5 | h5; have h0 := hR _ h5; omega; omega) | (intro h; have := hGb _ h; omega) | (intro h; have := hPb _ h; omega))
                           replace hOE := hOE.upd hu21 (by first | exact (fun _ _ _ h => h) | (intro k hk hl hS; simp only [At] at hS; have h1 := (hQb k hk).1; rcases h1 with h2 | h2; have := hG k h2; omega; omega) | (intro k hk hl hS; have h0 := hR k hS; have h1 := (hQb k hk).1; rcases h1 with h2 | h2; exact (hG _ h2).2.2.1 hS; omega) | (intro k hk hl hS; have h3 := hRb k hS; have h4 := hQb k hk; rcases h3 with h5 | h5; have h0 := hR k h5; rcases h4.1 with h2 | h2; exact (hG _ h2).2.2.1 h5; omega; omega) | (intro k hk hl hS; simp only [At] at hS; have := hQb k hk; omega) | (intro k hk hl hS; simp only [At] at hS; have := hQ2 k hk; omega) | (intro k hk hl hS; exact (hQ2 k hk).2.2.1 hS) | (intro k hk hl hS; simp only [At] at hS; have h1 := hOQ k hk; rcases h1.2.2 with h | h; have := hG k h; omega; have := h1.2.1 h; omega))
                           replace hPo := hPo.upd hu21 (by first | exact (fun _ _ _ h => h) | (intro k hk hl hS; have h0 := hR k hS; have := hPb k hk; omega) | (intro k hk hl hS; have h3 := hRb k hS; have h4 := hPb k hk; rcases h3 with h5 | h5; have h0 := hR k h5; omega; omega) | (intro k hk hl hS; simp only [At] at hS; have := hPb k hk; omega) | (intro k hk hl hS; exact (hGb k hS).2.2.1 hk))
                           refine ⟨trivial, ?_⟩
                           refine WN.calm _ rfl rfl rfl rfl rfl (fun _ => r_assign rfl (ev_t rfl)) ?_
                           refine WN.done ?_
                           refine WX.keep [(0, _), (11, _), (15, _)] ⟨rfl, rfl, rfl, trivial⟩ ?_
                           refine WX.next ?_
                           refine WC.seq ?_
                           refine WC.seq ?_
                           refine WC.region ?_
                           refine WL.val rfl rfl rfl rfl (r_move rfl (ev_t rfl)) ?_
                           refine WL.val rfl rfl rfl rfl (r_eql rfl (ev_t rfl) ev_c) ?_
                           refine WL.nil ?_
                           refine WX.keep [(0, _), (11, _), (15, _), (149, _)] ⟨rfl, rfl, rfl, rfl, trivial⟩ ?_
                           refine WX.next ?_
                           refine WC.cond rfl (ev_t rfl) (fun hc19 => ?_) (fun hc19 => ?_)
                           · try (exfalso; first | (simp at hc19; done) | (simp only [decide_eq_true_eq, decide_eq_false_iff_not, Bool.not_eq_true', Bool.not_eq_false', Bool.not_eq_true, Bool.not_eq_false] at hc19; omega) | omega)
                             all_goals
                              try simp only [decide_eq_true_eq, decide_eq_false_iff_not, Bool.not_eq_true', Bool.not_eq_false', Bool.not_eq_true, Bool.not_eq_false, Option.isNone_none, Option.isNone_some, Option.isSome_none, Option.isSome_some, ne_eq, Decidable.not_not] at hc19
                              refine WC.seq ?_
                              refine WC.region ?_
                              refine WL.val rfl rfl rfl rfl (r_move rfl (ev_t rfl)) ?_
                              fail -- load 20.1: no facts
                           · try (exfalso; first | (simp at hc19; done) | (simp only [decide_eq_true_eq, decide_eq_false_iff_not, Bool.not_eq_true', Bool.not_eq_false', Bool.not_eq_true, Bool.not_eq_false] at hc19; omega) | omega)
                             all_goals
                              try simp only [decide_eq_true_eq, decide_eq_false_iff_not, Bool.not_eq_true', Bool.not_eq_false', Bool.not_eq_true, Bool.not_eq_false, Option.isNone_none, Option.isNone_some, Option.isSome_none, Option.isSome_some, ne_eq, Decidable.not_not] at hc19
                              refine WC.skip ?_
                              refine WX.next ?_
                              refine WC.seq ?_
                              refine WC.seq ?_
                              refine WC.region ?_
                              refine WL.val rfl rfl rfl rfl (r_move rfl (ev_t rfl)) ?_
                              refine WL.val rfl rfl rfl rfl (r_eql rfl (ev_t rfl) ev_c) ?_
                              refine WL.nil ?_
                              refine WX.keep [(0, _), (11, _), (15, _), (154, _)] ⟨rfl, rfl, rfl, rfl, trivial⟩ ?_
                              refine WX.next ?_
                              refine WC.cond rfl (ev_t rfl) (fun hc21 => ?_) (fun hc21 => ?_)
                              · try (exfalso; first | (simp at hc21; done) | (simp only [decide_eq_true_eq, decide_eq_false_iff_not, Bool.not_eq_true', Bool.not_eq_false', Bool.not_eq_true, Bool.not_eq_false] at hc21; omega) | omega)
                                all_goals
                                 try simp only [decide_eq_true_eq, decide_eq_false_iff_not, Bool.not_eq_true', Bool.not_eq_false', Bool.not_eq_true, Bool.not_eq_false, Option.isNone_none, Option.isNone_some, Option.isSome_none, Option.isSome_some, ne_eq, Decidable.not_not] at hc21
                                 refine WC.draws' (fun u0_ u1_ => Upd No u0_ u1_) (fun j => [0, 0, 0, 0, 0, 0, 0, 0, 0, 0, 0, 1, 0, 2, 0].getD j 0) (.calm 0 (.calm 1 (.calm 2 (.calm 4 (.calm 5 (.calm 6 (.calm 8 (.calm 9 (.calm 10 (.held 3 (.held 7 (.one 11 (.calm 12 (.one 13 (.calm 14 (.done)))))))))))))))) mixed (by kernel_rfl) (by repeat (first | with_reducible exact Deaf.body | with_reducible apply Deaf.then | with_reducible apply Deaf.block)) ?_
                                 intro w22 hu22
                                 have hz22 := congrArg Array.size hu22.2.2.2
                                 replace hu22 := Upd.of_draw hu22
                                 have hs22 := hu22.size
                                 replace hU := hU.trans hu22 (by first | exact (fun _ _ h => h) | exact (fun _ _ h => h.elim) | (intro k hl hk; (try simp only [At, New, Grow, From, No] at hk ⊢); omega) | (intro k hl hk; first | exact (show False from hk).elim | (simp only [At] at hk; omega) | (simp only [At] at hk; subst hk; exact hFp) | (exact (hR _ hk).1) | (have h3 := hRb _ hk; rcases h3 with h5 | h5; exact (hR _ h5).1; omega) | (have h1 := hGb _ hk; rcases h1.1 with h2 | h2; exact (hG _ h2).1; omega) | (have := hPb _ hk; omega)))
                                 replace hB := hB.upd hu22 (by first | exact (fun h => h) | (simp only [At]; omega) | (intro h; have := hR _ h; omega) | (intro h; have h3 := hRb _ h; rcases h3 with h5 | h5; have h0 := hR _ h5; omega; omega) | (intro h; have h1 := hGb _ h; rcases h1.1 with h2 | h2; have := hG _ h2; omega; omega) | (intro h; have := hPb _ h; omega))
                                 replace hD := hD.upd hu22 (by first | exact (fun _ _ _ h => h) | (intro k hk hl hS; simp only [At] at hS; have h3 := hRc k hk; rcases h3 with h5 | h5; have h0 := hR _ h5; omega; omega) | (intro k hk hl hS; simp only [At] at hS; have := hR k hk; omega) | (intro k hk hl hS; have h0 := hR k hk; have h1 := hGb _ hS; rcases h1.1 with h2 | h2; exact (hG _ h2).2.2.1 hk; omega) | (intro k hk hl hS; have := hPb _ hS; have := hR k hk; omega))
                                 replace hN := hN.upd hu22 (by first | exact (fun h => h) | (simp only [At]; omega) | (intro h; have := hR _ h; omega) | (intro h; have h3 := hRb _ h; rcases h3 with h5 | h5; have h0 := hR _ h5; omega; omega) | (intro h; have := hGb _ h; omega) | (intro h; have := hPb _ h; omega))
                                 replace hOE := hOE.upd hu22 (by first | exact (fun _ _ _ h => h) | (intro k hk hl hS; simp only [At] at hS; have h1 := (hQb k hk).1; rcases h1 with h2 | h2; have := hG k h2; omega; omega) | (intro k hk hl hS; have h0 := hR k hS; have h1 := (hQb k hk).1; rcases h1 with h2 | h2; exact (hG _ h2).2.2.1 hS; omega) | (intro k hk hl hS; have h3 := hRb k hS; have h4 := hQb k hk; rcases h3 with h5 | h5; have h0 := hR k h5; rcases h4.1 with h2 | h2; exact (hG _ h2).2.2.1 h5; omega; omega) | (intro k hk hl hS; simp only [At] at hS; have := hQb k hk; omega) | (intro k hk hl hS; simp only [At] at hS; have := hQ2 k hk; omega) | (intro k hk hl hS; exact (hQ2 k hk).2.2.1 hS) | (intro k hk hl hS; simp only [At] at hS; have h1 := hOQ k hk; rcases h1.2.2 with h | h; have := hG k h; omega; have := h1.2.1 h; omega))
                                 replace hPo := hPo.upd hu22 (by first | exact (fun _ _ _ h => h) | (intro k hk hl hS; have h0 := hR k hS; have := hPb k hk; omega) | (intro k hk hl hS; have h3 := hRb k hS; have h4 := hPb k hk; rcases h3 with h5 | h5; have h0 := hR k h5; omega; omega) | (intro k hk hl hS; simp only [At] at hS; have := hPb k hk; omega) | (intro k hk hl hS; exact (hGb k hS).2.2.1 hk))
                                 have hS22 := Upd.refl No w22
                                 refine WN.calm _ rfl rfl rfl rfl rfl (fun _ => r_move rfl (ev_t rfl)) ?_
                                 refine WN.calm _ rfl rfl rfl rfl rfl (fun _ => r_nilCheck rfl (ev_t rfl)) ?_
                                 first | refine WN.calm _ rfl rfl rfl rfl rfl (fun _ => r_field0 rfl (ev_t rfl) fld_53_0) ?_ | refine WN.calm _ rfl rfl rfl rfl rfl (fun _ => r_fieldAt rfl (ev_t rfl) fld_53_0) ?_
                                 refine WN.calm _ rfl rfl rfl rfl rfl (fun _ => r_move rfl (ev_t rfl)) ?_
                                 refine WN.calm _ rfl rfl rfl rfl rfl (fun _ => r_nilCheck rfl (ev_t rfl)) ?_
                                 first | refine WN.calm _ rfl rfl rfl rfl rfl (fun _ => r_field0 rfl (ev_t rfl) fld_53_1) ?_ | refine WN.calm _ rfl rfl rfl rfl rfl (fun _ => r_fieldAt rfl (ev_t rfl) fld_53_1) ?_
                                 refine WN.calm _ rfl rfl rfl rfl rfl (fun _ => r_move rfl (ev_t rfl)) ?_
                                 refine WN.calm _ rfl rfl rfl rfl rfl (fun _ => r_nilCheck rfl (ev_t rfl)) ?_
                                 first | refine WN.calm _ rfl rfl rfl rfl rfl (fun _ => r_field0 rfl (ev_t rfl) fld_53_2) ?_ | refine WN.calm _ rfl rfl rfl rfl rfl (fun _ => r_fieldAt rfl (ev_t rfl) fld_53_2) ?_
                                 refine WN.held _ rfl rfl rfl rfl rfl hS22 (fun w' hS => r_load rfl (ev_t rfl) flat_24 (Blk.cell (hB.upd hS (fun h => h)) rfl)) ?_
                                 refine WN.held _ rfl rfl rfl rfl rfl hS22 (fun w' hS => r_load rfl (ev_t rfl) flat_3 (Blk.cell (hB.upd hS (fun h => h)) rfl)) ?_
                                 refine WN.step _ rfl (SO.val rfl rfl rfl rfl (r_load rfl (ev_t rfl) flat_3 (Blk.cell hB rfl)) ?_)
                                 refine ⟨hS22, ?_⟩
                                 first | refine WN.calm _ rfl rfl rfl rfl rfl (fun _ => r_addN rfl (ev_t rfl) (ev_t rfl) (by simp only [inK]; omega)) ?_ | refine WN.calm _ rfl rfl rfl rfl rfl (fun _ => r_add rfl (ev_t rfl) (ev_t rfl)) ?_
                                 rw [show (a : Int) + (side : Int) = ((a + side : Nat) : Int) by omega]
                                 have hRb := hRc
                                 refine WN.step _ rfl (SO.call (Sync_good hD (qa2.look hi)) rfl body_12 ⟨(ev_t rfl), (ev_t rfl), trivial⟩ rfl rfl rfl rfl ?_)
                                 rw [qs.1]
                                 rintro v9 w23 ⟨rfl, hD9, hu23⟩
                                 have hRc : ∀ k, Grow R2 w22 w23 k → (R k ∨ q0 ≤ k) := fun k hk => by rcases hk with h | h; exact hRb k h; exact .inr (by have := h.1; omega)
                                 generalize Grow R2 w22 w23 = R3 at *
                                 have hD := hD9
                                 clear hD9
                                 have hs23 := hu23.size
                                 try replace hS22 := Upd.transA hS22 hu23
                                 replace hU := hU.trans hu23 (by first | exact (fun _ _ h => h) | exact (fun _ _ h => h.elim) | (intro k hl hk; (try simp only [At, New, Grow, From, No] at hk ⊢); omega) | (intro k hl hk; first | exact (show False from hk).elim | (simp only [At] at hk; omega) | (simp only [At] at hk; subst hk; exact hFp) | (exact (hR _ hk).1) | (have h3 := hRb _ hk; rcases h3 with h5 | h5; exact (hR _ h5).1; omega) | (have h1 := hGb _ hk; rcases h1.1 with h2 | h2; exact (hG _ h2).1; omega) | (have := hPb _ hk; omega)))
                                 replace hB := hB.upd hu23 (by first | exact (fun h => h) | (simp only [At]; omega) | (intro h; have := hR _ h; omega) | (intro h; have h3 := hRb _ h; rcases h3 with h5 | h5; have h0 := hR _ h5; omega; omega) | (intro h; have h1 := hGb _ h; rcases h1.1 with h2 | h2; have := hG _ h2; omega; omega) | (intro h; have := hPb _ h; omega))
                                 replace hN := hN.upd hu23 (by first | exact (fun h => h) | (simp only [At]; omega) | (intro h; have := hR _ h; omega) | (intro h; have h3 := hRb _ h; rcases h3 with h5 | h5; have h0 := hR _ h5; omega; omega) | (intro h; have := hGb _ h; omega) | (intro h; have := hPb _ h; omega))
                                 replace hOE := hOE.upd hu23 (by first | exact (fun _ _ _ h => h) | (intro k hk hl hS; simp only [At] at hS; have h1 := (hQb k hk).1; rcases h1 with h2 | h2; have := hG k h2; omega; omega) | (intro k hk hl hS; have h0 := hR k hS; have h1 := (hQb k hk).1; rcases h1 with h2 | h2; exact (hG _ h2).2.2.1 hS; omega) | (intro k hk hl hS; have h3 := hRb k hS; have h4 := hQb k hk; rcases h3 with h5 | h5; have h0 := hR k h5; rcases h4.1 with h2 | h2; exact (hG _ h2).2.2.1 h5; omega; omega) | (intro k hk hl hS; simp only [At] at hS; have := hQb k hk; omega) | (intro k hk hl hS; simp only [At] at hS; have := hQ2 k hk; omega) | (intro k hk hl hS; exact (hQ2 k hk).2.2.1 hS) | (intro k hk hl hS; simp only [At] at hS; have h1 := hOQ k hk; rcases h1.2.2 with h | h; have := hG k h; omega; have := h1.2.1 h; omega))
                                 replace hPo := hPo.upd hu23 (by first | exact (fun _ _ _ h => h) | (intro k hk hl hS; have h0 := hR k hS; have := hPb k hk; omega) | (intro k hk hl hS; have h3 := hRb k hS; have h4 := hPb k hk; rcases h3 with h5 | h5; have h0 := hR k h5; omega; omega) | (intro k hk hl hS; simp only [At] at hS; have := hPb k hk; omega) | (intro k hk hl hS; exact (hGb k hS).2.2.1 hk))
                                 refine ⟨trivial, ?_⟩
                                 refine WN.calm _ rfl rfl rfl rfl rfl (fun _ => r_assign rfl (ev_t rfl)) ?_
                                 refine WN.done ?_
                                 refine WX.keep [(0, _), (11, _), (15, _)] ⟨rfl, rfl, rfl, trivial⟩ ?_
                                 refine WX.next ?_
                                 refine WC.seq ?_
                                 refine WC.seq ?_
                                 refine WC.region ?_
                                 refine WL.val rfl rfl rfl rfl (r_move rfl (ev_t rfl)) ?_
                                 refine WL.val rfl rfl rfl rfl (r_neq rfl (ev_t rfl) ev_c) ?_
                                 refine WL.nil ?_
                                 refine WX.keep [(0, _), (11, _), (15, _), (170, _)] ⟨rfl, rfl, rfl, rfl, trivial⟩ ?_
                                 refine WX.next ?_
                                 refine WC.cond rfl (ev_t rfl) (fun hc23 => ?_) (fun hc23 => ?_)
                                 · try (exfalso; first | (simp at hc23; done) | (simp only [decide_eq_true_eq, decide_eq_false_iff_not, Bool.not_eq_true', Bool.not_eq_false', Bool.not_eq_true, Bool.not_eq_false] at hc23; omega) | omega)
                                   all_goals
                                    try simp only [decide_eq_true_eq, decide_eq_false_iff_not, Bool.not_eq_true', Bool.not_eq_false', Bool.not_eq_true, Bool.not_eq_false, Option.isNone_none, Option.isNone_some, Option.isSome_none, Option.isSome_some, ne_eq, Decidable.not_not] at hc23
                                    refine WC.seq ?_
                                    refine WC.region ?_
                                    refine WL.val rfl rfl rfl rfl (r_move rfl (ev_t rfl)) ?_
                                    refine WL.val rfl rfl rfl rfl (r_assign rfl (ev_t rfl)) ?_
                                    refine WL.nil ?_
                                    refine WX.keep [(10, _)] ⟨rfl, trivial⟩ ?_
                                    refine WX.next ?_
                                    refine WC.ret ?_
                                    refine WX.thenRet ?_
                                    refine WX.retE1 rfl rfl ?_
                                    fail
                                 · try (exfalso; first | (simp at hc23; done) | (simp only [decide_eq_true_eq, decide_eq_false_iff_not, Bool.not_eq_true', Bool.not_eq_false', Bool.not_eq_true, Bool.not_eq_false] at hc23; omega) | omega)
                                   all_goals
                                    try simp only [decide_eq_true_eq, decide_eq_false_iff_not, Bool.not_eq_true', Bool.not_eq_false', Bool.not_eq_true, Bool.not_eq_false, Option.isNone_none, Option.isNone_some, Option.isSome_none, Option.isSome_some, ne_eq, Decidable.not_not] at hc23
                                    refine WC.skip ?_
                                    refine WX.next ?_
                                    refine WC.seq ?_
                                    refine WC.region ?_
                                    refine WL.val rfl rfl rfl rfl (r_move rfl (ev_t rfl)) ?_
                                    refine WL.val rfl rfl rfl rfl (r_loadAgg (vs := [_, _, _, _]) rfl (ev_t rfl) agg_36 size_36 (Blk.cellsL hN)) ?_
                                    refine WL.val rfl rfl rfl rfl (r_nilCheck rfl (ev_t rfl)) ?_
                                    first | refine WL.val rfl rfl rfl rfl (r_field0 rfl (ev_t rfl) fld_53_4) ?_ | refine WL.val rfl rfl rfl rfl (r_fieldAt rfl (ev_t rfl) fld_53_4) ?_
                                    refine WL.cons (SO.storeN (us := [_, _, _, _]) rfl (ev_t rfl) (ev_t rfl) size_36 hB (by simp [walC]) rfl rfl rfl rfl ?_)
                                    intro w24 hu24 hB hz9
                                    have hs24 := hu24.size
                                    replace hU := hU.trans hu24 (by first | exact (fun _ _ h => h) | exact (fun _ _ h => h.elim) | (intro k hl hk; (try simp only [At, New, Grow, From, No] at hk ⊢); omega) | (intro k hl hk; first | exact (show False from hk).elim | (simp only [At] at hk; omega) | (simp only [At] at hk; subst hk; exact hFp) | (exact (hR _ hk).1) | (have h3 := hRb _ hk; rcases h3 with h5 | h5; exact (hR _ h5).1; omega) | (have h1 := hGb _ hk; rcases h1.1 with h2 | h2; exact (hG _ h2).1; omega) | (have := hPb _ hk; omega)))
                                    replace hD := hD.upd hu24 (by first | exact (fun _ _ _ h => h) | (intro k hk hl hS; simp only [At] at hS; have h3 := hRc k hk; rcases h3 with h5 | h5; have h0 := hR _ h5; omega; omega) | (intro k hk hl hS; simp only [At] at hS; have := hR k hk; omega) | (intro k hk hl hS; have h0 := hR k hk; have h1 := hGb _ hS; rcases h1.1 with h2 | h2; exact (hG _ h2).2.2.1 hk; omega) | (intro k hk hl hS; have := hPb _ hS; have := hR k hk; omega))
                                    replace hN := hN.upd hu24 (by first | exact (fun h => h) | (simp only [At]; omega) | (intro h; have := hR _ h; omega) | (intro h; have h3 := hRb _ h; rcases h3 with h5 | h5; have h0 := hR _ h5; omega; omega) | (intro h; have := hGb _ h; omega) | (intro h; have := hPb _ h; omega))
                                    replace hOE := hOE.upd hu24 (by first | exact (fun _ _ _ h => h) | (intro k hk hl hS; simp only [At] at hS; have h1 := (hQb k hk).1; rcases h1 with h2 | h2; have := hG k h2; omega; omega) | (intro k hk hl hS; have h0 := hR k hS; have h1 := (hQb k hk).1; rcases h1 with h2 | h2; exact (hG _ h2).2.2.1 hS; omega) | (intro k hk hl hS; have h3 := hRb k hS; have h4 := hQb k hk; rcases h3 with h5 | h5; have h0 := hR k h5; rcases h4.1 with h2 | h2; exact (hG _ h2).2.2.1 h5; omega; omega) | (intro k hk hl hS; simp only [At] at hS; have := hQb k hk; omega) | (intro k hk hl hS; simp only [At] at hS; have := hQ2 k hk; omega) | (intro k hk hl hS; exact (hQ2 k hk).2.2.1 hS) | (intro k hk hl hS; simp only [At] at hS; have h1 := hOQ k hk; rcases h1.2.2 with h | h; have := hG k h; omega; have := h1.2.1 h; omega))
                                    replace hPo := hPo.upd hu24 (by first | exact (fun _ _ _ h => h) | (intro k hk hl hS; have h0 := hR k hS; have := hPb k hk; omega) | (intro k hk hl hS; have h3 := hRb k hS; have h4 := hPb k hk; rcases h3 with h5 | h5; have h0 := hR k h5; omega; omega) | (intro k hk hl hS; simp only [At] at hS; have := hPb k hk; omega) | (intro k hk hl hS; exact (hGb k hS).2.2.1 hk))
                                    refine WL.nil ?_
                                    refine WX.keep [] trivial ?_
                                    refine WX.next ?_
                                    refine WC.seq ?_
                                    refine WC.region ?_
                                    refine WL.val rfl rfl rfl rfl (r_assign rfl ev_c) ?_
                                    refine WL.nil ?_
                                    refine WX.keep [(10, _)] ⟨rfl, trivial⟩ ?_
                                    refine WX.next ?_
                                    refine WC.ret ?_
                                    refine WX.retE1 rfl rfl ?_
                                    have hLlen : (s.log.take k0 ++ L).length ≤ 1000000 := by rw [List.length_append, List.length_take]; omega
                                    have hsz := hU.size
                                    refine ⟨rfl, _, ⟨fun k => R3 k ∧ k < w24.heap.size, fun k => Q k ∧ k < w24.heap.size, _, hB, hD.mono (fun k hk hl => ⟨hk, hl⟩), (hOE.rd hLlen).bound, .inl hFp, fun k hk => ?_, fun k hk => ?_⟩, qs.2, hU⟩
                                    · rcases hRc k hk.1 with h | h
                                      · have := hR k h; exact ⟨.inl this.1, this.2.1, hk.2⟩
                                      · exact ⟨.inr ⟨by omega, hk.2⟩, by omega, hk.2⟩
                                    · have h1 := hQb k hk.1
                                      refine ⟨?_, ?_, fun h => ?_, hk.2⟩
                                      · rcases h1.1 with h | h; exact .inl (hG k h).1; exact .inr ⟨h, hk.2⟩
                                      · rcases h1.1 with h | h; exact (hG k h).2.1; omega
                                      · rcases hRc k h.1 with h2 | h2
                                        · rcases h1.1 with h3 | h3
                                          · exact (hG k h3).2.2.1 h2
                                          · have := hR k h2; omega
                                        · omega
                              · try (exfalso; first | (simp at hc21; done) | (simp only [decide_eq_true_eq, decide_eq_false_iff_not, Bool.not_eq_true', Bool.not_eq_false', Bool.not_eq_true, Bool.not_eq_false] at hc21; omega) | omega)
                                all_goals
                                 try simp only [decide_eq_true_eq, decide_eq_false_iff_not, Bool.not_eq_true', Bool.not_eq_false', Bool.not_eq_true, Bool.not_eq_false, Option.isNone_none, Option.isNone_some, Option.isSome_none, Option.isSome_some, ne_eq, Decidable.not_not] at hc21
                                 refine WC.skip ?_
                                 refine WX.next ?_
                                 refine WC.seq ?_
                                 refine WC.seq ?_
                                 refine WC.region ?_
                                 refine WL.val rfl rfl rfl rfl (r_move rfl (ev_t rfl)) ?_
                                 refine WL.val rfl rfl rfl rfl (r_neq rfl (ev_t rfl) ev_c) ?_
                                 refine WL.nil ?_
                                 refine WX.keep [(0, _), (11, _), (15, _), (170, _)] ⟨rfl, rfl, rfl, rfl, trivial⟩ ?_
                                 refine WX.next ?_
                                 refine WC.cond rfl (ev_t rfl) (fun hc23 => ?_) (fun hc23 => ?_)
                                 · try (exfalso; first | (simp at hc23; done) | (simp only [decide_eq_true_eq, decide_eq_false_iff_not, Bool.not_eq_true', Bool.not_eq_false', Bool.not_eq_true, Bool.not_eq_false] at hc23; omega) | omega)
                                   all_goals
                                    try simp only [decide_eq_true_eq, decide_eq_false_iff_not, Bool.not_eq_true', Bool.not_eq_false', Bool.not_eq_true, Bool.not_eq_false, Option.isNone_none, Option.isNone_some, Option.isSome_none, Option.isSome_some, ne_eq, Decidable.not_not] at hc23
                                    refine WC.seq ?_
                                    refine WC.region ?_
                                    refine WL.val rfl rfl rfl rfl (r_move rfl (ev_t rfl)) ?_
                                    refine WL.val rfl rfl rfl rfl (r_assign rfl (ev_t rfl)) ?_
                                    refine WL.nil ?_
                                    refine WX.keep [(10, _)] ⟨rfl, trivial⟩ ?_
                                    refine WX.next ?_
                                    refine WC.ret ?_
                                    refine WX.thenRet ?_
                                    refine WX.retE1 rfl rfl ?_
                                    fail
                                 · try (exfalso; first | (simp at hc23; done) | (simp only [decide_eq_true_eq, decide_eq_false_iff_not, Bool.not_eq_true', Bool.not_eq_false', Bool.not_eq_true, Bool.not_eq_false] at hc23; omega) | omega)
                                   all_goals
                                    try simp only [decide_eq_true_eq, decide_eq_false_iff_not, Bool.not_eq_true', Bool.not_eq_false', Bool.not_eq_true, Bool.not_eq_false, Option.isNone_none, Option.isNone_some, Option.isSome_none, Option.isSome_some, ne_eq, Decidable.not_not] at hc23
                                    refine WC.skip ?_
                                    refine WX.next ?_
                                    refine WC.seq ?_
                                    refine WC.region ?_
                                    refine WL.val rfl rfl rfl rfl (r_move rfl (ev_t rfl)) ?_
                                    refine WL.val rfl rfl rfl rfl (r_loadAgg (vs := [_, _, _, _]) rfl (ev_t rfl) agg_36 size_36 (Blk.cellsL hN)) ?_
                                    refine WL.val rfl rfl rfl rfl (r_nilCheck rfl (ev_t rfl)) ?_
                                    first | refine WL.val rfl rfl rfl rfl (r_field0 rfl (ev_t rfl) fld_53_4) ?_ | refine WL.val rfl rfl rfl rfl (r_fieldAt rfl (ev_t rfl) fld_53_4) ?_
                                    refine WL.cons (SO.storeN (us := [_, _, _, _]) rfl (ev_t rfl) (ev_t rfl) size_36 hB (by simp [walC]) rfl rfl rfl rfl ?_)
                                    intro w25 hu25 hB hz9
                                    have hs25 := hu25.size
                                    replace hU := hU.trans hu25 (by first | exact (fun _ _ h => h) | exact (fun _ _ h => h.elim) | (intro k hl hk; (try simp only [At, New, Grow, From, No] at hk ⊢); omega) | (intro k hl hk; first | exact (show False from hk).elim | (simp only [At] at hk; omega) | (simp only [At] at hk; subst hk; exact hFp) | (exact (hR _ hk).1) | (have h3 := hRb _ hk; rcases h3 with h5 | h5; exact (hR _ h5).1; omega) | (have h1 := hGb _ hk; rcases h1.1 with h2 | h2; exact (hG _ h2).1; omega) | (have := hPb _ hk; omega)))
                                    replace hD := hD.upd hu25 (by first | exact (fun _ _ _ h => h) | (intro k hk hl hS; simp only [At] at hS; have h3 := hRc k hk; rcases h3 with h5 | h5; have h0 := hR _ h5; omega; omega) | (intro k hk hl hS; simp only [At] at hS; have := hR k hk; omega) | (intro k hk hl hS; have h0 := hR k hk; have h1 := hGb _ hS; rcases h1.1 with h2 | h2; exact (hG _ h2).2.2.1 hk; omega) | (intro k hk hl hS; have := hPb _ hS; have := hR k hk; omega))
                                    replace hN := hN.upd hu25 (by first | exact (fun h => h) | (simp only [At]; omega) | (intro h; have := hR _ h; omega) | (intro h; have h3 := hRb _ h; rcases h3 with h5 | h5; have h0 := hR _ h5; omega; omega) | (intro h; have := hGb _ h; omega) | (intro h; have := hPb _ h; omega))
                                    replace hOE := hOE.upd hu25 (by first | exact (fun _ _ _ h => h) | (intro k hk hl hS; simp only [At] at hS; have h1 := (hQb k hk).1; rcases h1 with h2 | h2; have := hG k h2; omega; omega) | (intro k hk hl hS; have h0 := hR k hS; have h1 := (hQb k hk).1; rcases h1 with h2 | h2; exact (hG _ h2).2.2.1 hS; omega) | (intro k hk hl hS; have h3 := hRb k hS; have h4 := hQb k hk; rcases h3 with h5 | h5; have h0 := hR k h5; rcases h4.1 with h2 | h2; exact (hG _ h2).2.2.1 h5; omega; omega) | (intro k hk hl hS; simp only [At] at hS; have := hQb k hk; omega) | (intro k hk hl hS; simp only [At] at hS; have := hQ2 k hk; omega) | (intro k hk hl hS; exact (hQ2 k hk).2.2.1 hS) | (intro k hk hl hS; simp only [At] at hS; have h1 := hOQ k hk; rcases h1.2.2 with h | h; have := hG k h; omega; have := h1.2.1 h; omega))
                                    replace hPo := hPo.upd hu25 (by first | exact (fun _ _ _ h => h) | (intro k hk hl hS; have h0 := hR k hS; have := hPb k hk; omega) | (intro k hk hl hS; have h3 := hRb k hS; have h4 := hPb k hk; rcases h3 with h5 | h5; have h0 := hR k h5; omega; omega) | (intro k hk hl hS; simp only [At] at hS; have := hPb k hk; omega) | (intro k hk hl hS; exact (hGb k hS).2.2.1 hk))
                                    refine WL.nil ?_
                                    refine WX.keep [] trivial ?_
                                    refine WX.next ?_
                                    refine WC.seq ?_
                                    refine WC.region ?_
                                    refine WL.val rfl rfl rfl rfl (r_assign rfl ev_c) ?_
                                    refine WL.nil ?_
                                    refine WX.keep [(10, _)] ⟨rfl, trivial⟩ ?_
                                    refine WX.next ?_
                                    refine WC.ret ?_
                                    refine WX.retE1 rfl rfl ?_
                                    have hLlen : (s.log.take k0 ++ L).length ≤ 1000000 := by rw [List.length_append, List.length_take]; omega
                                    have hsz := hU.size
                                    refine ⟨rfl, _, ⟨fun k => R3 k ∧ k < w25.heap.size, fun k => Q k ∧ k < w25.heap.size, _, hB, hD.mono (fun k hk hl => ⟨hk, hl⟩), (hOE.rd hLlen).bound, .inl hFp, fun k hk => ?_, fun k hk => ?_⟩, qs.2, hU⟩
                                    · rcases hRc k hk.1 with h | h
                                      · have := hR k h; exact ⟨.inl this.1, this.2.1, hk.2⟩
                                      · exact ⟨.inr ⟨by omega, hk.2⟩, by omega, hk.2⟩
                                    · have h1 := hQb k hk.1
                                      refine ⟨?_, ?_, fun h => ?_, hk.2⟩
                                      · rcases h1.1 with h | h; exact .inl (hG k h).1; exact .inr ⟨h, hk.2⟩
                                      · rcases h1.1 with h | h; exact (hG k h).2.1; omega
                                      · rcases hRc k h.1 with h2 | h2
                                        · rcases h1.1 with h3 | h3
                                          · exact (hG k h3).2.2.1 h2
                                          · have := hR k h2; omega
                                        · omega
end Go.Proofs.Ytnjfhmlfpfkllaa
