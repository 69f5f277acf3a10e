/-
  Several texts put together: Pab, Pac, Wf, Pad, Pae, Paf, Pag.
-/
import Derived.Test.YtomkdhkkggbioaaGreatDoorZb
/-
 The reference's parser: types.
-/
namespace Go.Proofs.YtomkdhkkggbioaaGreatDoor
open Go
set_option linter.unusedSimpArgs false
set_option linter.unusedVariables false

theorem hasQ_le (l : List (List UInt8)) (s : List UInt8) : hasQ l s ≤ l.length := by
 induction l with
 | nil => simp [hasQ]
 | cons x r ih => simp only [hasQ, List.length_cons]; split; omega; split <;> omega
theorem hasQ_no : ∀ {l : List (List UInt8)} {s : List UInt8}, (∀ x ∈ l, x ≠ s) → hasQ l s = 0
 | [], s, _ => rfl
 | x :: r, s, h => by
  rw [hasQ, if_neg (h x (by simp)), hasQ_no (fun y hy => h y (by simp [hy])), if_pos rfl]
theorem hasQ_at : ∀ {l : List (List UInt8)} {s : List UInt8} {j : Nat}, (∀ x ∈ l.take j, x ≠ s) → l[j]? = some s → hasQ l s = j + 1
 | [], s, j, _, h => by simp at h
 | x :: r, s, 0, _, h => by simp at h; rw [hasQ, if_pos h]
 | x :: r, s, j + 1, h1, h2 => by
  have ih := hasQ_at (l := r) (j := j) (fun y hy => h1 y (by simp [hy])) (by simpa using h2)
  rw [hasQ, if_neg (h1 x (by simp)), ih, if_neg (by omega)]
theorem rhas_ok {w : World} {F : Nat → Prop} {A : Option Addr} {c : Nat} {l : List (List UInt8)} {x : List UInt8} (hr : Rd w F (.slice A l.length c) l.length 1 (l.map Sv)) :
  Ret Tryz.prog 83 #[.slice A l.length c, Sv x] w fun v w' => v = .int .i64 (hasQ l x : Int) ∧ Upd No w w' := by
 have hm := hr.le
 refine enterRet (vs := [_, _]) (N := 20) Tryz.func83 rfl rfl rfl ?_
 have hU := Upd.refl No w
 refine WC.keep [(0, _), (1, _)] ⟨rfl, rfl, trivial⟩ (WC.seq (WC.region (WL.val rfl rfl rfl rfl (r_assign rfl ev_c) ?_)))
 refine WL.nil (WX.keep [(0, _), (1, _)] ⟨rfl, rfl, trivial⟩ (WX.next (WC.seq (WC.seq (WC.region (WL.val rfl rfl rfl rfl (r_assign rfl ev_c) ?_))))))
 refine WL.nil (WX.keep [(0, _), (1, _), (5, _)] ⟨rfl, rfl, rfl, trivial⟩ (WX.next (WC.block ?_)))
 -- loop 1: live [0, 1, 5]
 refine WC.keep [(0, _), (1, _), (5, _)] ⟨rfl, rfl, rfl, trivial⟩ (WC.loop (fun q E w' => ∃ (i : Nat), Upd No w w' ∧ i ≤ l.length ∧ q = l.length - i ∧ (∀ y ∈ l.take i, y ≠ x) ∧ E = [(0, .slice A l.length c), (1, Sv x), (5, .int .i64 (i : Int))]) (l.length) ?_ ?_)
 ·exact ⟨0, hU, by omega, by omega, fun j h => by simp at h, rfl⟩
 ·clear hU
  rintro q E w' ⟨i, hU, hi, rfl, hn, rfl⟩
  refine WC.seq (WC.seq (WC.region (WL.val rfl rfl rfl rfl (r_move rfl (ev_t rfl)) ?_)))
  refine WL.val rfl rfl rfl rfl (r_move rfl (ev_t rfl)) ?_
  refine WL.val rfl rfl rfl rfl (r_lenSlice (ts := #[]) rfl (ev_t rfl) elem_66) ?_
  refine WL.val rfl rfl rfl rfl (r_lss rfl (ev_t rfl) (ev_t rfl)) ?_
  refine WL.nil (WX.keep [(0, _), (1, _), (5, _), (9, _)] ⟨rfl, rfl, rfl, rfl, trivial⟩ (WX.next (WC.cond rfl (ev_t rfl) (fun hc2 => ?_) (fun hc2 => ?_))))
  ·try simp only [cS, ne_eq, Decidable.not_not] at hc2
   have hi' : i < l.length := by omega
   obtain ⟨b0, off, rfl, _⟩ := hr.open (by omega)
   have hxi : l[i]? = some l[i] := List.getElem?_eq_getElem hi'
   generalize l[i] = y at *
   refine WC.skip (WX.next (WC.seq (WC.block (WC.seq (WC.region (WL.val rfl rfl rfl rfl (r_move rfl (ev_t rfl)) ?_))))))
   refine WL.val rfl rfl rfl rfl (r_move rfl (ev_t rfl)) ?_
   refine WL.val rfl rfl rfl rfl (r_indexAddr rfl (ev_t rfl) (ev_t rfl) elem_66 size_9 (by omega) (by omega)) ?_
   refine WL.val rfl rfl rfl rfl (r_load rfl (ev_t rfl) flat_9 ((hr.upd hU (fun _ _ _ h => h)).cell (j := i) (u := Sv y) (by omega) (by rw [List.getElem?_map, hxi]; rfl))) ?_
   refine WL.val rfl rfl rfl rfl (r_move rfl (ev_t rfl)) ?_
   refine WL.val rfl rfl rfl rfl (r_eqlStrL rfl (ev_t rfl) (ev_t rfl)) ?_
   refine WL.nil (WX.keep [(0, _), (1, _), (5, _), (17, _)] ⟨rfl, rfl, rfl, rfl, trivial⟩ (WX.next (WC.cond rfl (ev_t rfl) (fun hc4 => ?_) (fun hc4 => ?_))))
   ·try simp only [cS, ne_eq, Decidable.not_not] at hc4
    refine WC.seq (WC.region (WL.val rfl rfl rfl rfl (r_move rfl (ev_t rfl)) ?_))
    refine WL.val rfl rfl rfl rfl (r_addN rfl (ev_t rfl) ev_c (by simp only [inK]; omega)) ?_
    refine WL.val rfl rfl rfl rfl (r_assign rfl (ev_t rfl)) ?_
    refine WL.nil (WX.keep [(4, _)] ⟨rfl, trivial⟩ (WX.next (WC.ret (WX.blockRet (WX.thenRet (WX.thenRet (WX.blockRet (WX.thenRet (WX.retE1 rfl rfl ?_)))))))))
    refine ⟨?_, hU⟩
    have hyx : y = x := by simpa using hc4
    subst hyx
    rw [hasQ_at hn hxi]
    rfl
   ·try simp only [cS, ne_eq, Decidable.not_not] at hc4
    refine WC.skip (WX.blockNormal (WX.next (WC.region (WL.val rfl rfl rfl rfl (r_move rfl (ev_t rfl)) ?_))))
    refine WL.val rfl rfl rfl rfl (r_addN rfl (ev_t rfl) ev_c (by simp only [inK]; omega)) ?_
    refine WL.val rfl rfl rfl rfl (r_assign rfl (ev_t rfl)) ?_
    refine WL.nil (WX.keep [(0, _), (1, _), (5, _)] ⟨rfl, rfl, rfl, trivial⟩ (WX.meet [(0, _), (1, _), (5, _)] ⟨rfl, rfl, rfl, trivial⟩ ?_))
    refine ⟨l.length - (i + 1), by omega, i + 1, hU, by omega, rfl, fun z hz => ?_, rfl⟩
    rw [List.take_add_one, hxi] at hz
    rcases List.mem_append.1 hz with h | h
    ·exact hn z h
    ·obtain rfl : z = y := by simpa using h
     simpa using hc4
  ·try simp only [cS, ne_eq, Decidable.not_not] at hc2
   refine WC.exit (WX.thenExit (WX.thenExit (WX.blockHere (WX.next (WC.seq (WC.region (WL.val rfl rfl rfl rfl (r_assign rfl ev_c) ?_)))))))
   refine WL.nil (WX.keep [(4, _)] ⟨rfl, trivial⟩ (WX.next (WC.ret (WX.retE1 rfl rfl ?_))))
   refine ⟨?_, hU⟩
   rw [hasQ_no (fun z hz => hn z (by rw [List.take_of_length_le (by omega)]; exact hz))]
   rfl

/-- the contracts of the two, with so many opens left -/
def ArrC (n : Nat) : Prop := ∀ (w : World) (r B0 : Nat) (A : List Tok) (s : St) (Fv : Nat → Prop) (vA : Option Addr) (vc : Nat) (vs : List (List UInt8)), PS w r B0 A s → s.d ≤ 50 → 51 ≤ s.d + n → Rd w Fv (.slice vA vs.length vc) vs.length 1 (vs.map Sv) → (∀ k, Fv k → k ≠ r) →
 Ret Tryz.prog 85 #[.pointer (some ⟨r, 0, none⟩), .slice vA vs.length vc] w fun v w' => ∃ c, v = .agg c.toArray ∧ TM w' (Bt w.heap.size w'.heap.size) c ((tq n).arr vs s).1 ∧ PS w' r B0 A ((tq n).arr vs s).2 ∧ Pst s ((tq n).arr vs s).2 ∧ Upd (At r) w w'
def AppC (n : Nat) : Prop := ∀ (w : World) (r B0 : Nat) (A : List Tok) (s : St) (Fv : Nat → Prop) (vA : Option Addr) (vc : Nat) (vs : List (List UInt8)), PS w r B0 A s → s.d ≤ 50 → 51 ≤ s.d + n → Rd w Fv (.slice vA vs.length vc) vs.length 1 (vs.map Sv) → (∀ k, Fv k → k ≠ r) →
 Ret Tryz.prog 98 #[.pointer (some ⟨r, 0, none⟩), .slice vA vs.length vc] w fun v w' => ∃ c, v = .agg c.toArray ∧ TM w' (Bt w.heap.size w'.heap.size) c ((tq n).app vs s).1 ∧ PS w' r B0 A ((tq n).app vs s).2 ∧ Pst s ((tq n).app vs s).2 ∧ Upd (At r) w w'
theorem starQ_one (t : Tr) : starQ [t] = t := rfl
theorem starQ_more {l : List Tr} (h : 1 < l.length) : starQ l = .mk [42] 0 l := by
 match l, h with
 | a :: b :: r, _ => rfl
set_option maxHeartbeats 2000000 in
theorem arrow_ok {n : Nat} (ihA : ArrC n) (ihB : AppC n) : ArrC (n + 1) := by
 intro w r B0 A s Fv vA vc vs hp hd hn hv hFv
 replace hv := hv.bound
 have hI := hp.I
 obtain ⟨hI1, hI2, hI3, hI4, hI5⟩ := hI
 show Ret _ _ _ _ fun v w' => ∃ c, v = .agg c.toArray ∧ TM w' (Bt w.heap.size w'.heap.size) c (arrB (tq n) vs s).1 ∧ PS w' r B0 A (arrB (tq n) vs s).2 ∧ Pst s (arrB (tq n) vs s).2 ∧ Upd (At r) w w'
 obtain ⟨g, hg⟩ : ∃ g, g = (tq n).app vs := ⟨_, rfl⟩
 refine enterRet (vs := [_, _]) (N := 47) Tryz.func85 rfl rfl rfl ?_
 have hU := Upd.refl (At r) w
 refine WC.keep [(0, _), (1, _)] ⟨rfl, rfl, trivial⟩ (WC.seq (WC.region (WL.cons (SO.alloc rfl rfl rfl rfl (r_alloc rfl zero_24) ?_))))
 intro w1 hu1 hB1 hz1
 have hs1 := hu1.size
 replace hU := hU.trans hu1 (by exact (fun _ _ h => h.elim))
 replace hp := hp.upd hu1 (by exact (fun _ _ h => h))
 replace hv := hv.upd hu1 (fun k hk hl hS => by exact (show False from hS).elim)
 refine WL.nil (WX.keep [(0, _), (1, _), (4, _)] ⟨rfl, rfl, rfl, trivial⟩ (WX.next (WC.seq (WC.region (WL.cons (SO.alloc rfl rfl rfl rfl (r_alloc rfl zero_24) ?_))))))
 intro w2 hu2 hB2 hz2
 have hs2 := hu2.size
 replace hU := hU.trans hu2 (by exact (fun _ _ h => h.elim))
 replace hp := hp.upd hu2 (by exact (fun _ _ h => h))
 replace hv := hv.upd hu2 (fun k hk hl hS => by exact (show False from hS).elim)
 replace hB1 := hB1.upd hu2 (by exact (fun h => h))
 refine WL.nil (WX.keep [(0, _), (1, _), (4, _), (5, _)] ⟨rfl, rfl, rfl, rfl, trivial⟩ (WX.next ?_))
 -- cut 2: live [0, 4, 5]
 refine WC.cut (fun E wA => ∃ (y0 y1 y2 : Value) (s2 : St) (x : Tr), arrB (tq n) vs s = (x, clsQ s2) ∧ Pst (opnQ s) s2 ∧ Upd (At r) w wA ∧ PS wA r B0 A s2 ∧ TM wA (Bt (w.heap.size + 2) wA.heap.size) [y0, y1, y2] x ∧ Blk wA w.heap.size #[.string ⟨#[]⟩, .int .i64 0, .slice none 0 0] 24 ∧ Blk wA w1.heap.size #[y0, y1, y2] 24 ∧ E = [(0, .pointer (some ⟨r, 0, none⟩)), (4, .pointer (some ⟨w.heap.size, 0, none⟩)), (5, .pointer (some ⟨w1.heap.size, 0, none⟩))]) ?_ ?_
 ·refine WC.seq (WC.region (WL.val rfl rfl rfl rfl (r_move rfl (ev_t rfl)) ?_))
  refine WL.cons (SO.call (open_ok9 hp hd) rfl body_87 ⟨(ev_t rfl), trivial⟩ rfl rfl rfl rfl ?_)
  rintro v9 w3 ⟨rfl, hp2, hu3⟩
  have hs3 := hu3.size
  replace hU := hU.trans hu3 (by exact (fun _ _ h => h))
  replace hv := hv.upd hu3 (fun k hk hl hS => by (simp only [At] at hS; have := hFv k hk.1; have := hk.2; omega))
  replace hB1 := hB1.upd hu3 (by (simp only [At]; omega))
  replace hB2 := hB2.upd hu3 (by (simp only [At]; omega))
  have hp := hp2
  refine WL.nil (WX.keep [(0, _), (1, _), (4, _), (5, _), (9, _)] ⟨rfl, rfl, rfl, rfl, rfl, trivial⟩ (WX.next (WC.cond rfl (ev_t rfl) (fun hc2 => ?_) (fun hc2 => ?_))))
  ·try simp only [cS, ne_eq, Decidable.not_not] at hc2
   refine WC.seq (WC.region ?_)
   have h0 : (opnQ s).e = 0 := by simpa using hc2
   have hd5 := opnQ_ok h0
   have hod := opnQ_d s
   refine WL.val rfl rfl rfl rfl (r_move rfl (ev_t rfl)) ?_
   refine WL.val rfl rfl rfl rfl (r_move rfl (ev_t rfl)) ?_
   refine WL.cons (SO.call (ihB _ _ _ _ _ _ _ _ vs hp (by omega) (by omega) hv (fun k hk => hFv k hk.1)) rfl body_98 ⟨(ev_t rfl), (ev_t rfl), trivial⟩ rfl rfl rfl rfl ?_)
   rintro v9 w4 ⟨c9, rfl, ht, hp2, hst, hu4⟩
   have hs4 := hu4.size
   replace hU := hU.trans hu4 (by exact (fun _ _ h => h))
   replace hv := hv.upd hu4 (fun k hk hl hS => by (simp only [At] at hS; have := hFv k hk.1; have := hk.2; omega))
   replace hB1 := hB1.upd hu4 (by (simp only [At]; omega))
   replace hB2 := hB2.upd hu4 (by (simp only [At]; omega))
   rw [← hg] at ht hp2 hst
   have hp := hp2
   have hPst := hst
   obtain ⟨tn, tv, tks, tA, tp, txs, het, rfl, _⟩ := ht.mk3
   have ht4 := ht
   refine WL.cons (SO.alloc rfl rfl rfl rfl (r_buildSlice (cs := #[_, _, _]) (vs := [(0, _)]) rfl ⟨⟨rfl, (ev_t rfl)⟩, trivial⟩ row_22 rfl rfl) ?_)
   intro w5 hu5 hB5 hz5
   have hs5 := hu5.size
   replace hU := hU.trans hu5 (by exact (fun _ _ h => h.elim))
   replace hv := hv.upd hu5 (fun k hk hl hS => by exact (show False from hS).elim)
   replace hB1 := hB1.upd hu5 (by exact (fun h => h))
   replace hB2 := hB2.upd hu5 (by exact (fun h => h))
   replace hp := hp.upd hu5 (by exact (fun _ _ h => h))
   replace ht4 := ht4.updA hu5
   refine WL.val rfl rfl rfl rfl (r_assign rfl (ev_t rfl)) ?_
   refine WL.nil (WX.keep [(0, _), (1, _), (4, _), (5, _), (6, _)] ⟨rfl, rfl, rfl, rfl, rfl, trivial⟩ ?_)
   have hrow : Blk w5 w4.heap.size #[Sv tn, .int .i64 tv, .slice tA tks.length tp] 24 := hB5
   have hac : Acc 24 w5 (w.heap.size + 2) (At w4.heap.size) (.slice (some ⟨w4.heap.size, 0, none⟩) 1 1) [(g (opnQ s)).1] := Acc.single hrow rfl ht4 (fun k hk => by simp only [Bt] at hk; omega) (by omega)
   have hol := congrArg List.length (opnQ_ts s)
   refine WX.next (WC.seq (WC.block ?_))
   -- loop 1: live [0, 1, 4, 5, 6]
   refine WC.keep [(0, _), (1, _), (4, _), (5, _), (6, _)] ⟨rfl, rfl, rfl, rfl, rfl, trivial⟩ (WC.loop (fun qq E wC => ∃ (s1 : St) (ks : List Tr) (G : Nat → Prop) (v1 : Value) (k1 : Nat), qq = k1 ∧ s1.ts.length ≤ k1 ∧ Upd (At r) w wC ∧ PS wC r B0 A s1 ∧ Pst (opnQ s) s1 ∧ Acc 24 wC (w.heap.size + 2) G v1 ks ∧ 0 < ks.length ∧ ks.length + s1.ts.length ≤ 2100 ∧ sepQ g [42] (g (opnQ s)).2.ts.length [(g (opnQ s)).1] (g (opnQ s)).2 = sepQ g [42] k1 ks s1 ∧ Rd wC (fun k => Fv k ∧ k < w.heap.size) (.slice vA vs.length vc) vs.length 1 (vs.map Sv) ∧ Blk wC w.heap.size #[.string ⟨#[]⟩, .int .i64 0, .slice none 0 0] 24 ∧ (∃ c5 : List Value, c5.length = 3 ∧ Blk wC w1.heap.size c5.toArray 24) ∧ E = [(0, .pointer (some ⟨r, 0, none⟩)), (1, .slice vA vs.length vc), (4, .pointer (some ⟨w.heap.size, 0, none⟩)), (5, .pointer (some ⟨w1.heap.size, 0, none⟩)), (6, v1)]) ((g (opnQ s)).2.ts.length) ?_ ?_)
   ·exact ⟨_, _, _, _, _, rfl, Nat.le_refl _, hU, hp, hPst, hac, by simp, by have := hPst.2; simp only [List.length_cons, List.length_nil]; omega, rfl, hv, hB1, ⟨[_, _, _], rfl, hB2⟩, rfl⟩
   ·clear hU hp hPst hac hv hB1 hB2
    rintro qq E wC ⟨s1, ks, G, v1, k1, rfl, hk1, hU, hp, hPst, hac, hk0, hkl, hsep, hv, hB1, ⟨c5, hc5, hB2⟩, rfl⟩
    obtain ⟨A1, c1, rfl, hcc1⟩ := hac.form
    have hG := hac.lt
    have hI := hp.I
    have hsC := hU.size
    have hlt1 := hB1.lt
    have hlt2 := hB2.lt
    have hd1 := hPst.1
    obtain ⟨y0, y1, y2, rfl⟩ := cells3 hc5
    refine WC.seq (WC.seq (WC.region (WL.val rfl rfl rfl rfl (r_move rfl (ev_t rfl)) ?_)))
    refine WL.cons (SO.call (take_ok (u := [42]) hp) rfl body_31 ⟨(ev_t rfl), ev_c, trivial⟩ rfl rfl rfl rfl ?_)
    rintro v9 w6 ⟨rfl, hp2, hu6⟩
    have hs6 := hu6.size
    replace hU := hU.trans hu6 (by exact (fun _ _ h => h))
    replace hv := hv.upd hu6 (fun k hk hl hS => by (simp only [At] at hS; have := hFv k hk.1; have := hk.2; omega))
    replace hac := hac.upd hu6 (fun k hk hl hS => by (simp only [At] at hS; omega))
    replace hB1 := hB1.upd hu6 (by (simp only [At]; omega))
    replace hB2 := hB2.upd hu6 (by (simp only [At]; omega))
    have hp := hp2
    refine WL.nil (WX.keep [(0, _), (1, _), (4, _), (5, _), (6, _), (15, _)] ⟨rfl, rfl, rfl, rfl, rfl, rfl, trivial⟩ (WX.next (WC.cond rfl (ev_t rfl) (fun hc4 => ?_) (fun hc4 => ?_))))
    ·rw [takQ_T hc4] at hp
     obtain ⟨k2, rfl⟩ : ∃ k2, qq = k2 + 1 := ⟨qq - 1, by omega⟩
     rw [sepQ_step hc4] at hsep
     have htl := tlQ_len s1
     refine WC.skip (WX.next (WC.block (WC.region (WL.val rfl rfl rfl rfl (r_move rfl (ev_t rfl)) ?_))))
     refine WL.val rfl rfl rfl rfl (r_move rfl (ev_t rfl)) ?_
     refine WL.val rfl rfl rfl rfl (r_move rfl (ev_t rfl)) ?_
     refine WL.cons (SO.call (ihB _ _ _ _ _ _ _ _ vs hp (by rw [tlQ_d]; omega) (by rw [tlQ_d]; omega) hv (fun k hk => hFv k hk.1)) rfl body_98 ⟨(ev_t rfl), (ev_t rfl), trivial⟩ rfl rfl rfl rfl ?_)
     rintro v9 w7 ⟨c9, rfl, ht, hp2, hst, hu7⟩
     have hs7 := hu7.size
     replace hU := hU.trans hu7 (by exact (fun _ _ h => h))
     replace hv := hv.upd hu7 (fun k hk hl hS => by (simp only [At] at hS; have := hFv k hk.1; have := hk.2; omega))
     replace hac := hac.upd hu7 (fun k hk hl hS => by (simp only [At] at hS; omega))
     replace hB1 := hB1.upd hu7 (by (simp only [At]; omega))
     replace hB2 := hB2.upd hu7 (by (simp only [At]; omega))
     rw [← hg] at ht hp2 hst
     have hp := hp2
     obtain ⟨tn, tv, tks, tA, tp, txs, het, rfl, _⟩ := ht.mk3
     refine WL.cons (SO.alloc rfl rfl rfl rfl (r_buildSlice (cs := #[_, _, _]) (vs := [(0, _)]) rfl ⟨⟨rfl, (ev_t rfl)⟩, trivial⟩ row_22 rfl rfl) ?_)
     intro w8 hu8 hB8 hz8
     have hs8 := hu8.size
     replace hU := hU.trans hu8 (by exact (fun _ _ h => h.elim))
     replace hv := hv.upd hu8 (fun k hk hl hS => by exact (show False from hS).elim)
     replace hac := hac.upd hu8 (fun k hk hl hS => by exact (show False from hS).elim)
     replace hB1 := hB1.upd hu8 (by exact (fun h => h))
     replace hB2 := hB2.upd hu8 (by exact (fun h => h))
     replace hp := hp.upd hu8 (by exact (fun _ _ h => h))
     replace ht := ht.upd hu8 (fun k hk hl hS => by exact (show False from hS).elim)
     refine WL.cons (SO.appendA hac ht (fun k hk => ⟨fun hG9 => by have := hG _ hG9; simp only [Bt] at hk; omega, by simp only [Bt] at hk; omega⟩) (Rd.of_blk (F := At _) (n := 1) (sz := 3) hB8 rfl rfl (by omega)) row_22 (by omega) rfl rfl (ev_t rfl) (ev_t rfl) rfl rfl rfl rfl ?_ (by omega))
     intro v5 w9 hac2 hu9 hBw
     have hs9 := hu9.size
     replace hU := hU.trans hu9 (by (intro k hl hk; first | exact hk | exact (show False from hk).elim | (have := hG k hk; omega) | (simp only [At] at *; exfalso; omega)))
     replace hv := hv.upd hu9 (fun k hk hl hS => by (have := hG k hS; have := hk.2; omega))
     replace hB1 := hB1.upd hu9 (by (intro hS; have := hG _ hS; omega))
     replace hB2 := hB2.upd hu9 (by (intro hS; have := hG _ hS; omega))
     replace hp := hp.upd hu9 (by (intro k hk hS; first | (simp only [At] at hS; omega) | (have := hG k hS; omega)))
     refine WL.val rfl rfl rfl rfl (r_assign rfl (ev_t rfl)) ?_
     refine WL.nil (WX.keep [(0, _), (1, _), (4, _), (5, _), (6, _)] ⟨rfl, rfl, rfl, rfl, rfl, trivial⟩ (WX.blockNormal (WX.meet [(0, _), (1, _), (4, _), (5, _), (6, _)] ⟨rfl, rfl, rfl, rfl, rfl, trivial⟩ ?_)))
     refine ⟨k2, by omega, _, _, _, _, _, rfl, by have := hst.2; omega, hU, hp, hPst.trans ((Pst.tl _).trans hst), hac2, by simp, ?_, hsep, hv, hB1, ⟨[_, _, _], rfl, hB2⟩, rfl⟩
     have := hst.2
     simp only [List.length_append, List.length_cons, List.length_nil]
     omega
    ·rw [takQ_F hc4] at hp
     rw [sepQ_stop hc4] at hsep
     obtain ⟨xs, hrx, hmx⟩ := hac.done (by omega)
     obtain ⟨b1, o1, rfl, _⟩ := hrx.open hk0
     obtain ⟨k0, hk0g⟩ : ∃ k0, ks[0]? = some k0 := ⟨_, List.getElem?_eq_getElem hk0⟩
     obtain ⟨c0, hx0, ht0⟩ := hmx.get hk0g
     obtain ⟨tn, tv, tks, tA, tp, txs, het, rfl, _⟩ := ht0.mk3
     refine WC.exit (WX.thenExit (WX.thenExit (WX.blockHere (WX.next (WC.seq (WC.region (WL.val rfl rfl rfl rfl (r_move rfl (ev_t rfl)) ?_)))))))
     refine WL.val rfl rfl rfl rfl (r_indexAddr rfl (ev_t rfl) ev_c elem_22 size_24 (by omega) (by omega)) ?_
     refine WL.val rfl rfl rfl rfl (r_loadAgg (vs := [_, _, _]) rfl (ev_t rfl) agg_24 size_24 (Rd.cellsL (us := [_, _, _]) hrx (i := 0 * 3) (by omega) (fun q v hv => flat_getN hmx.one_len hx0 hv))) ?_
     refine WL.cons (SO.storeAll (us := [_, _, _]) rfl (ev_t rfl) (ev_t rfl) size_24 hB2 rfl rfl rfl rfl rfl ?_)
     intro w10 hu10 hB2 hz10
     have hs10 := hu10.size
     replace hU := hU.trans hu10 (by (intro k hl hk; (try simp only [At, New, Grow, From, No] at hk ⊢); omega))
     replace hv := hv.upd hu10 (fun k hk hl hS => by (simp only [At] at hS; have := hFv k hk.1; have := hk.2; omega))
     replace hB1 := hB1.upd hu10 (by (simp only [At]; omega))
     replace hp := hp.upd hu10 (by (intro k hk hS; first | (simp only [At] at hS; omega) | (have := hG k hS; omega)))
     replace hrx := hrx.upd hu10 (fun k hk hl hS => by (simp only [At, Bt] at hS hk; omega))
     replace hmx := hmx.upd hu10 (fun k hk hl hS => by (simp only [At, Bt] at hS hk; omega))
     replace ht0 := ht0.upd hu10 (fun k hk hl hS => by (simp only [At, Bt] at hS hk; omega))
     refine WL.nil (WX.keep [(0, _), (1, _), (4, _), (5, _), (6, _)] ⟨rfl, rfl, rfl, rfl, rfl, trivial⟩ (WX.next ?_))
     -- cut 7: live [0, 1, 4, 5]
     refine WC.cut (fun E wA => ∃ (y0 y1 y2 : Value), Upd (At r) w wA ∧ PS wA r B0 A s1 ∧ TM wA (Bt (w.heap.size + 2) wA.heap.size) [y0, y1, y2] (starQ ks) ∧ Rd wA (fun k => Fv k ∧ k < w.heap.size) (.slice vA vs.length vc) vs.length 1 (vs.map Sv) ∧ Blk wA w.heap.size #[.string ⟨#[]⟩, .int .i64 0, .slice none 0 0] 24 ∧ Blk wA w1.heap.size #[y0, y1, y2] 24 ∧ E = [(0, .pointer (some ⟨r, 0, none⟩)), (1, .slice vA vs.length vc), (4, .pointer (some ⟨w.heap.size, 0, none⟩)), (5, .pointer (some ⟨w1.heap.size, 0, none⟩))]) ?_ ?_
     ·refine WC.seq (WC.region (WL.val rfl rfl rfl rfl (r_move rfl (ev_t rfl)) ?_))
      refine WL.val rfl rfl rfl rfl (r_lenSlice (ts := #[]) rfl (ev_t rfl) elem_22) ?_
      refine WL.val rfl rfl rfl rfl (r_gtr rfl (ev_t rfl) ev_c) ?_
      refine WL.nil (WX.keep [(0, _), (1, _), (4, _), (5, _), (6, _), (27, _)] ⟨rfl, rfl, rfl, rfl, rfl, rfl, trivial⟩ (WX.next (WC.cond rfl (ev_t rfl) (fun hc7 => ?_) (fun hc7 => ?_))))
      ·try simp only [cS, ne_eq, Decidable.not_not] at hc7
       refine WC.region (WL.val rfl rfl rfl rfl (r_move rfl (ev_t rfl)) ?_)
       refine WL.val rfl rfl rfl rfl (r_build (cs := #[_, _, _]) (vs := [(0, _), (2, _)]) rfl ⟨⟨rfl, ev_c⟩, ⟨rfl, (ev_t rfl)⟩, trivial⟩ plc_24 zero_24 rfl) ?_
       refine WL.cons (SO.storeAll (us := [_, _, _]) rfl (ev_t rfl) (ev_t rfl) size_24 hB2 rfl rfl rfl rfl rfl ?_)
       intro w11 hu11 hB2 hz11
       have hs11 := hu11.size
       replace hU := hU.trans hu11 (by (intro k hl hk; (try simp only [At, New, Grow, From, No] at hk ⊢); omega))
       replace hv := hv.upd hu11 (fun k hk hl hS => by (simp only [At] at hS; have := hFv k hk.1; have := hk.2; omega))
       replace hB1 := hB1.upd hu11 (by (simp only [At]; omega))
       replace hp := hp.upd hu11 (by (intro k hk hS; first | (simp only [At] at hS; omega) | (have := hG k hS; omega)))
       replace hrx := hrx.upd hu11 (fun k hk hl hS => by (simp only [At, Bt] at hS hk; omega))
       replace hmx := hmx.upd hu11 (fun k hk hl hS => by (simp only [At, Bt] at hS hk; omega))
       replace ht0 := ht0.upd hu11 (fun k hk hl hS => by (simp only [At, Bt] at hS hk; omega))
       refine WL.nil (WX.keep [(0, _), (1, _), (4, _), (5, _)] ⟨rfl, rfl, rfl, rfl, trivial⟩ (WX.meet [(0, _), (1, _), (4, _), (5, _)] ⟨rfl, rfl, rfl, rfl, trivial⟩ ?_))
       first
        | (refine ⟨_, _, _, hU, hp, ?_, hv, hB1, hB2, rfl⟩
           rw [starQ_more (by omega)]
           exact TM.tr (hrx.mono fun k hk => by simp only [Bt] at *; omega) (hmx.mono fun k hk => by simp only [Bt] at *; omega) (by simp [inK]) (by simp))
        | (refine ⟨_, _, _, hU, hp, ?_, hv, hB1, hB2, rfl⟩
           obtain ⟨k9, rfl⟩ := List.length_eq_one_iff.1 (show ks.length = 1 by omega)
           obtain rfl : k9 = _ := by simpa using hk0g
           rw [starQ_one]
           exact ht0.mono fun k hk => by simp only [Bt] at *; omega)
      ·try simp only [cS, ne_eq, Decidable.not_not] at hc7
       refine WC.skip (WX.meet [(0, _), (1, _), (4, _), (5, _)] ⟨rfl, rfl, rfl, rfl, trivial⟩ ?_)
       first
        | (refine ⟨_, _, _, hU, hp, ?_, hv, hB1, hB2, rfl⟩
           rw [starQ_more (by omega)]
           exact TM.tr (hrx.mono fun k hk => by simp only [Bt] at *; omega) (hmx.mono fun k hk => by simp only [Bt] at *; omega) (by simp [inK]) (by simp))
        | (refine ⟨_, _, _, hU, hp, ?_, hv, hB1, hB2, rfl⟩
           obtain ⟨k9, rfl⟩ := List.length_eq_one_iff.1 (show ks.length = 1 by omega)
           obtain rfl : k9 = _ := by simpa using hk0g
           rw [starQ_one]
           exact ht0.mono fun k hk => by simp only [Bt] at *; omega)
     ·clear hU hp hv hB1 hB2 hrx hmx ht0
      rintro E wA ⟨y0, y1, y2, hU, hp, ht, hv, hB1, hB2, rfl⟩
      have hsA := hU.size
      have hlt1 := hB1.lt
      have hlt2 := hB2.lt
      refine WC.seq (WC.region (WL.val rfl rfl rfl rfl (r_move rfl (ev_t rfl)) ?_))
      refine WL.cons (SO.call (take_ok (u := [45, 62]) hp) rfl body_31 ⟨(ev_t rfl), ev_c, trivial⟩ rfl rfl rfl rfl ?_)
      rintro v9 w12 ⟨rfl, hp2, hu12⟩
      have hs12 := hu12.size
      replace hU := hU.trans hu12 (by exact (fun _ _ h => h))
      replace hv := hv.upd hu12 (fun k hk hl hS => by (simp only [At] at hS; have := hFv k hk.1; have := hk.2; omega))
      replace hB1 := hB1.upd hu12 (by (simp only [At]; omega))
      replace hB2 := hB2.upd hu12 (by (simp only [At]; omega))
      replace ht := ht.upd hu12 (fun k hk hl hS => by (simp only [At, Bt] at hS hk; omega))
      have hp := hp2
      refine WL.nil (WX.keep [(0, _), (1, _), (4, _), (5, _), (31, _)] ⟨rfl, rfl, rfl, rfl, rfl, trivial⟩ (WX.next (WC.cond rfl (ev_t rfl) (fun hc9 => ?_) (fun hc9 => ?_))))
      ·rw [takQ_T hc9] at hp
       have htl := tlQ_len s1
       refine WC.seq (WC.region (WL.val rfl rfl rfl rfl (r_move rfl (ev_t rfl)) ?_))
       refine WL.val rfl rfl rfl rfl (r_move rfl (ev_t rfl)) ?_
       refine WL.cons (SO.call (ihA _ _ _ _ _ _ _ _ vs hp (by rw [tlQ_d]; omega) (by rw [tlQ_d]; omega) hv (fun k hk => hFv k hk.1)) rfl body_85 ⟨(ev_t rfl), (ev_t rfl), trivial⟩ rfl rfl rfl rfl ?_)
       rintro v9 w13 ⟨c9, rfl, hu9, hp2, hst, hu13⟩
       have hs13 := hu13.size
       replace hU := hU.trans hu13 (by exact (fun _ _ h => h))
       replace hv := hv.upd hu13 (fun k hk hl hS => by (simp only [At] at hS; have := hFv k hk.1; have := hk.2; omega))
       replace hB1 := hB1.upd hu13 (by (simp only [At]; omega))
       replace hB2 := hB2.upd hu13 (by (simp only [At]; omega))
       replace ht := ht.upd hu13 (fun k hk hl hS => by (simp only [At, Bt] at hS hk; omega))
       have hp := hp2
       obtain ⟨un, uv, uks, uA, up, uxs, heu, rfl, _⟩ := hu9.mk3
       refine WL.cons (SO.alloc rfl rfl rfl rfl (r_alloc rfl zero_24) ?_)
       intro w14 hu14 hB14 hz14
       have hs14 := hu14.size
       replace hU := hU.trans hu14 (by exact (fun _ _ h => h.elim))
       replace hv := hv.upd hu14 (fun k hk hl hS => by exact (show False from hS).elim)
       replace hB1 := hB1.upd hu14 (by exact (fun h => h))
       replace hB2 := hB2.upd hu14 (by exact (fun h => h))
       replace ht := ht.upd hu14 (fun k hk hl hS => by exact (show False from hS).elim)
       replace hp := hp.upd hu14 (by exact (fun _ _ h => h))
       replace hu9 := hu9.updA hu14
       refine WL.cons (SO.storeAll (us := [_, _, _]) rfl (ev_t rfl) (ev_t rfl) size_24 hB14 rfl rfl rfl rfl rfl ?_)
       intro w15 hu15 hB14 hz15
       have hs15 := hu15.size
       replace hU := hU.trans hu15 (by (intro k hl hk; (try simp only [At, New, Grow, From, No] at hk ⊢); omega))
       replace hv := hv.upd hu15 (fun k hk hl hS => by (simp only [At] at hS; have := hFv k hk.1; have := hk.2; omega))
       replace hB1 := hB1.upd hu15 (by (simp only [At]; omega))
       replace hB2 := hB2.upd hu15 (by (simp only [At]; omega))
       replace ht := ht.upd hu15 (fun k hk hl hS => by (simp only [At, Bt] at hS hk; omega))
       replace hp := hp.upd hu15 (by (intro k hk hS; first | (simp only [At] at hS; omega) | (have := hG k hS; omega)))
       replace hu9 := hu9.updA hu15
       refine WL.nil (WX.keep [(0, _), (4, _), (5, _), (7, _)] ⟨rfl, rfl, rfl, rfl, trivial⟩ ?_)
       have h7 := hB14
       refine WX.next (WC.region (WL.val rfl rfl rfl rfl (r_loadAgg (vs := [_, _, _]) rfl (ev_t rfl) agg_24 size_24 (Blk.cellsL hB2)) ?_))
       refine WL.val rfl rfl rfl rfl (r_loadAgg (vs := [_, _, _]) rfl (ev_t rfl) agg_24 size_24 (Blk.cellsL h7)) ?_
       refine WL.cons (SO.alloc rfl rfl rfl rfl (r_buildSlice33 rfl (ev_t rfl) (ev_t rfl) row_22) ?_)
       intro w16 hu16 hrow hz9
       have hs16 := hu16.size
       replace hU := hU.trans hu16 (by exact (fun _ _ h => h.elim))
       replace hv := hv.upd hu16 (fun k hk hl hS => by exact (show False from hS).elim)
       replace hB1 := hB1.upd hu16 (by exact (fun h => h))
       replace hB2 := hB2.upd hu16 (by exact (fun h => h))
       replace ht := ht.upd hu16 (fun k hk hl hS => by exact (show False from hS).elim)
       replace hp := hp.upd hu16 (by exact (fun _ _ h => h))
       replace hu9 := hu9.updA hu16
       replace h7 := h7.updA hu16
       refine WL.val rfl rfl rfl rfl (r_build (cs := #[_, _, _]) (vs := [(0, _), (2, _)]) rfl ⟨⟨rfl, ev_c⟩, ⟨rfl, (ev_t rfl)⟩, trivial⟩ plc_24 zero_24 rfl) ?_
       refine WL.cons (SO.storeAll (us := [_, _, _]) rfl (ev_t rfl) (ev_t rfl) size_24 hB2 rfl rfl rfl rfl rfl ?_)
       intro w17 hu17 hB2 hz17
       have hs17 := hu17.size
       replace hU := hU.trans hu17 (by (intro k hl hk; (try simp only [At, New, Grow, From, No] at hk ⊢); omega))
       replace hv := hv.upd hu17 (fun k hk hl hS => by (simp only [At] at hS; have := hFv k hk.1; have := hk.2; omega))
       replace hB1 := hB1.upd hu17 (by (simp only [At]; omega))
       replace ht := ht.upd hu17 (fun k hk hl hS => by (simp only [At, Bt] at hS hk; omega))
       replace hp := hp.upd hu17 (by (intro k hk hS; first | (simp only [At] at hS; omega) | (have := hG k hS; omega)))
       replace hu9 := hu9.updA hu17
       replace h7 := h7.updA hu17
       replace hrow := hrow.updA hu17
       refine WL.nil (WX.keep [(0, _), (4, _), (5, _)] ⟨rfl, rfl, rfl, trivial⟩ (WX.meet [(0, _), (4, _), (5, _)] ⟨rfl, rfl, rfl, trivial⟩ ?_))
       first
        | (have he9 : arrB (tq n) vs s = (Tr.mk [45, 62] 0 [starQ ks, ((tq n).arr vs (tlQ s1)).1], clsQ ((tq n).arr vs (tlQ s1)).2) := by
             simp only [arrB]
             rw [if_pos h0, ← hg, hsep, if_pos hc9]
           refine ⟨_, _, _, _, _, he9, hPst.trans ((Pst.tl _).trans hst), hU, hp, ?_, hB1, hB2, rfl⟩
           exact TM.tr (xs := [[_, _, _], [_, _, _]]) (Rd.of_blk (F := Bt _ _) (n := 2) (sz := 3) hrow (by simp only [Bt]; omega) rfl (by omega)) (Ms.cons (ht.mono fun k hk => by simp only [Bt] at *; omega) (Ms.cons (hu9.mono fun k hk => by simp only [Bt] at *; omega) (Ms.nil _ _))) (by simp [inK]) (by simp))
        | (have he9 : arrB (tq n) vs s = (starQ ks, clsQ s1) := by
             simp only [arrB]
             rw [if_pos h0, ← hg, hsep, if_neg (by simp [hc9])]
           exact ⟨_, _, _, _, _, he9, hPst, hU, by rw [takQ_F hc9] at hp; exact hp, ht.mono fun k hk => by simp only [Bt] at *; omega, hB1, hB2, rfl⟩)
        | (have he9 : arrB (tq n) vs s = (Tr.z, clsQ (opnQ s)) := by
             simp only [arrB]
             rw [if_neg (by simpa using hc2)]
           exact ⟨_, _, _, _, _, he9, Pst.refl _, hU, hp, TM.trz _ _, hB1, hB2, rfl⟩)
      ·refine WC.skip (WX.meet [(0, _), (4, _), (5, _)] ⟨rfl, rfl, rfl, trivial⟩ ?_)
       first
        | (have he9 : arrB (tq n) vs s = (Tr.mk [45, 62] 0 [starQ ks, ((tq n).arr vs (tlQ s1)).1], clsQ ((tq n).arr vs (tlQ s1)).2) := by
             simp only [arrB]
             rw [if_pos h0, ← hg, hsep, if_pos hc9]
           refine ⟨_, _, _, _, _, he9, hPst.trans ((Pst.tl _).trans hst), hU, hp, ?_, hB1, hB2, rfl⟩
           exact TM.tr (xs := [[_, _, _], [_, _, _]]) (Rd.of_blk (F := Bt _ _) (n := 2) (sz := 3) hrow (by simp only [Bt]; omega) rfl (by omega)) (Ms.cons (ht.mono fun k hk => by simp only [Bt] at *; omega) (Ms.cons (hu9.mono fun k hk => by simp only [Bt] at *; omega) (Ms.nil _ _))) (by simp [inK]) (by simp))
        | (have he9 : arrB (tq n) vs s = (starQ ks, clsQ s1) := by
             simp only [arrB]
             rw [if_pos h0, ← hg, hsep, if_neg (by simp [hc9])]
           exact ⟨_, _, _, _, _, he9, hPst, hU, by rw [takQ_F hc9] at hp; exact hp, ht.mono fun k hk => by simp only [Bt] at *; omega, hB1, hB2, rfl⟩)
        | (have he9 : arrB (tq n) vs s = (Tr.z, clsQ (opnQ s)) := by
             simp only [arrB]
             rw [if_neg (by simpa using hc2)]
           exact ⟨_, _, _, _, _, he9, Pst.refl _, hU, hp, TM.trz _ _, hB1, hB2, rfl⟩)
  ·try simp only [cS, ne_eq, Decidable.not_not] at hc2
   refine WC.skip (WX.meet [(0, _), (4, _), (5, _)] ⟨rfl, rfl, rfl, trivial⟩ ?_)
   first
    | (have he9 : arrB (tq n) vs s = (Tr.mk [45, 62] 0 [starQ ks, ((tq n).arr vs (tlQ s1)).1], clsQ ((tq n).arr vs (tlQ s1)).2) := by
         simp only [arrB]
         rw [if_pos h0, ← hg, hsep, if_pos hc9]
       refine ⟨_, _, _, _, _, he9, hPst.trans ((Pst.tl _).trans hst), hU, hp, ?_, hB1, hB2, rfl⟩
       exact TM.tr (xs := [[_, _, _], [_, _, _]]) (Rd.of_blk (F := Bt _ _) (n := 2) (sz := 3) hrow (by simp only [Bt]; omega) rfl (by omega)) (Ms.cons (ht.mono fun k hk => by simp only [Bt] at *; omega) (Ms.cons (hu9.mono fun k hk => by simp only [Bt] at *; omega) (Ms.nil _ _))) (by simp [inK]) (by simp))
    | (have he9 : arrB (tq n) vs s = (starQ ks, clsQ s1) := by
         simp only [arrB]
         rw [if_pos h0, ← hg, hsep, if_neg (by simp [hc9])]
       exact ⟨_, _, _, _, _, he9, hPst, hU, by rw [takQ_F hc9] at hp; exact hp, ht.mono fun k hk => by simp only [Bt] at *; omega, hB1, hB2, rfl⟩)
    | (have he9 : arrB (tq n) vs s = (Tr.z, clsQ (opnQ s)) := by
         simp only [arrB]
         rw [if_neg (by simpa using hc2)]
       exact ⟨_, _, _, _, _, he9, Pst.refl _, hU, hp, TM.trz _ _, hB1, hB2, rfl⟩)
 ·clear hU hp hv hB1 hB2
  rintro E wA ⟨y0, y1, y2, s2, x, he9, hPst, hU, hp, ht, hB1, hB2, rfl⟩
  have hsA := hU.size
  have hlt1 := hB1.lt
  have hlt2 := hB2.lt
  have hod := opnQ_d s
  have hd2 := hPst.1
  obtain ⟨tn, tv, tks, tA, tp, txs, het, hcs9, _⟩ := ht.mk3
  obtain ⟨rfl, rfl, rfl⟩ : y0 = _ ∧ y1 = _ ∧ y2 = _ := by simpa using hcs9
  refine WC.seq (WC.region ?_)
  obtain ⟨FD, bD, offD, cD, zD, badD, hbD, hzD, hrD, hFD, hID⟩ := hp.open
  refine WL.val rfl rfl rfl rfl (r_move rfl (ev_t rfl)) ?_
  refine WL.val rfl rfl rfl rfl (r_nilCheck rfl (ev_t rfl)) ?_
  refine WL.val rfl rfl rfl rfl (r_field0 rfl (ev_t rfl) fld_58_2) ?_
  refine WL.val rfl rfl rfl rfl (r_load rfl (ev_t rfl) flat_3 (Blk.cell hbD rfl)) ?_
  refine WL.val rfl rfl rfl rfl (r_subN rfl (ev_t rfl) ev_c (by simp only [inK]; omega)) ?_
  refine WL.val rfl rfl rfl rfl (r_nilCheck rfl (ev_t rfl)) ?_
  refine WL.val rfl rfl rfl rfl (r_field0 rfl (ev_t rfl) fld_58_2) ?_
  refine WL.cons (SO.store rfl (ev_t rfl) (ev_t rfl) size_3 hbD rfl rfl rfl rfl rfl ?_)
  intro w18 hu18 hbD hz18
  have hs18 := hu18.size
  replace hU := hU.trans hu18 (by exact (fun _ _ h => h))
  replace hB1 := hB1.upd hu18 (by (simp only [At]; omega))
  replace hB2 := hB2.upd hu18 (by (simp only [At]; omega))
  replace ht := ht.upd hu18 (fun k hk hl hS => by (simp only [At, Bt] at hS hk; omega))
  refine WL.nil (WX.keep [(4, _), (5, _)] ⟨rfl, rfl, trivial⟩ ?_)
  rw [PS.clsB hp (by omega)] at hbD
  have hp9 : PS w18 r B0 A (clsQ s2) := hp.shut hu18 hbD hzD (hrD.upd hu18 (fun k hk hl hS => (hFD k hk).1 hS)) hFD hp.suf hp.fin (by show s2.d - 1 ≤ 52; have := hp.dle; omega) hp.ele
  refine WX.next (WC.seq (WC.region (WL.val rfl rfl rfl rfl (r_loadAgg (vs := [_, _, _]) rfl (ev_t rfl) agg_24 size_24 (Blk.cellsL hB2)) ?_)))
  refine WL.cons (SO.storeAll (us := [_, _, _]) rfl (ev_t rfl) (ev_t rfl) size_24 hB1 rfl rfl rfl rfl rfl ?_)
  intro w19 hu19 hB1 hz19
  have hs19 := hu19.size
  replace hU := hU.trans hu19 (by (intro k hl hk; (try simp only [At, New, Grow, From, No] at hk ⊢); omega))
  replace hB2 := hB2.upd hu19 (by (simp only [At]; omega))
  replace ht := ht.upd hu19 (fun k hk hl hS => by (simp only [At, Bt] at hS hk; omega))
  replace hp9 := hp9.updA hu19
  refine WL.nil (WX.keep [(4, _)] ⟨rfl, trivial⟩ (WX.next (WC.ret (WX.retC (vs := [_, _, _]) rfl rfl agg_24 size_24 (Blk.cellsL hB1) ?_))))
  rw [he9]
  exact ⟨_, rfl, ht.mono fun k hk => by simp only [Bt] at *; omega, hp9, hPst.cls, hU⟩
end Go.Proofs.YtomkdhkkggbioaaGreatDoor

/-
 The reference's parser: types, with a name behind them.
-/
namespace Go.Proofs.YtomkdhkkggbioaaGreatDoor
open Go
set_option linter.unusedSimpArgs false
set_option linter.unusedVariables false

set_option maxHeartbeats 4000000 in
theorem applied_ok {n : Nat} (ihA : ArrC n) : AppC (n + 1) := by
 intro w r B0 A s Fv vA vc vs hp hd hn hv hFv
 replace hv := hv.bound
 have hI := hp.I
 obtain ⟨hI1, hI2, hI3, hI4, hI5⟩ := hI
 have hvl := hv.le
 show Ret _ _ _ _ fun v w' => ∃ c, v = .agg c.toArray ∧ TM w' (Bt w.heap.size w'.heap.size) c (appB (tq n) vs s).1 ∧ PS w' r B0 A (appB (tq n) vs s).2 ∧ Pst s (appB (tq n) vs s).2 ∧ Upd (At r) w w'
 refine enterRet (vs := [_, _]) (N := 116) Tryz.func98 rfl rfl rfl ?_
 have hU := Upd.refl (At r) w
 refine WC.keep [(0, _), (1, _)] ⟨rfl, rfl, trivial⟩ (WC.seq (WC.region (WL.cons (SO.alloc rfl rfl rfl rfl (r_alloc rfl zero_24) ?_))))
 intro w1 hu1 hB1 hz1
 have hs1 := hu1.size
 replace hU := hU.trans hu1 (by exact (fun _ _ h => h.elim))
 replace hp := hp.upd hu1 (by exact (fun _ _ h => h))
 replace hv := hv.upd hu1 (fun k hk hl hS => by exact (show False from hS).elim)
 refine WL.nil (WX.keep [(0, _), (1, _), (4, _)] ⟨rfl, rfl, rfl, trivial⟩ (WX.next (WC.seq (WC.region (WL.val rfl rfl rfl rfl (r_assign rfl ev_c) ?_)))))
 refine WL.nil (WX.keep [(0, _), (1, _), (4, _), (5, _)] ⟨rfl, rfl, rfl, rfl, trivial⟩ (WX.next ?_))
 -- cut 2: live [0, 4, 5]
 refine WC.cut (fun E wA => ∃ (s3 : St) (ks1 : List Tr) (G : Nat → Prop) (v1 : Value), appB (tq n) vs s = (ks1.headD Tr.z, clsQ s3) ∧ Pst (opnQ s) s3 ∧ Upd (At r) w wA ∧ PS wA r B0 A s3 ∧ Acc 24 wA (w.heap.size + 1) G v1 ks1 ∧ ks1.length ≤ 2100 ∧ Blk wA w.heap.size #[.string ⟨#[]⟩, .int .i64 0, .slice none 0 0] 24 ∧ E = [(0, (.pointer (some ⟨r, 0, none⟩))), (4, .pointer (some ⟨w.heap.size, 0, none⟩)), (5, v1)]) ?_ ?_
 ·refine WC.seq (WC.region (WL.val rfl rfl rfl rfl (r_move rfl (ev_t rfl)) ?_))
  refine WL.cons (SO.call (open_ok9 hp hd) rfl body_87 ⟨(ev_t rfl), trivial⟩ rfl rfl rfl rfl ?_)
  rintro v9 w2 ⟨rfl, hp2, hu2⟩
  have hs2 := hu2.size
  replace hU := hU.trans hu2 (by exact (fun _ _ h => h))
  replace hv := hv.upd hu2 (fun k hk hl hS => by (simp only [At] at hS; have := hFv k hk.1; have := hk.2; omega))
  replace hB1 := hB1.upd hu2 (by (simp only [At]; omega))
  have hp := hp2
  refine WL.nil (WX.keep [(0, _), (1, _), (4, _), (5, _), (9, _)] ⟨rfl, rfl, rfl, rfl, rfl, trivial⟩ (WX.next (WC.cond rfl (ev_t rfl) (fun hc2 => ?_) (fun hc2 => ?_))))
  ·try simp only [cS, ne_eq, Decidable.not_not] at hc2
   have h0 : (opnQ s).e = 0 := by simpa using hc2
   have hd5 := opnQ_ok h0
   have hod := opnQ_d s
   have hol := opnQ_len s
   have hac : Acc 24 w2 (w.heap.size + 1) No (.slice none 0 0) ([] : List Tr) := Acc.nil _ _
   have hG : ∀ k, No k → w.heap.size + 1 ≤ k ∧ k < w2.heap.size := fun k hk => hk.elim
   have hlt1 := hB1.lt
   -- cut 10: live [0, 4, 5]
   refine WC.cut (fun E wA => ∃ (s2 : St) (ks : List Tr) (G : Nat → Prop) (v1 : Value), apbB (tq n) vs (opnQ s) = (ks, s2) ∧ Pst (opnQ s) s2 ∧ Upd (At r) w wA ∧ PS wA r B0 A s2 ∧ Acc 24 wA (w.heap.size + 1) G v1 ks ∧ 0 < ks.length ∧ ks.length ≤ 2100 ∧ Blk wA w.heap.size #[.string ⟨#[]⟩, .int .i64 0, .slice none 0 0] 24 ∧ E = [(0, (.pointer (some ⟨r, 0, none⟩))), (4, .pointer (some ⟨w.heap.size, 0, none⟩)), (5, v1)]) ?_ ?_
   ·refine WC.block (WC.seq (WC.region (WL.val rfl rfl rfl rfl (r_move rfl (ev_t rfl)) ?_)))
    refine WL.cons (SO.call (kind_ok (k := 3) hp) rfl body_32 ⟨(ev_t rfl), ev_c, trivial⟩ rfl rfl rfl rfl ?_)
    rintro v9 w3 ⟨rfl, hu3⟩
    have hs3 := hu3.size
    replace hU := hU.trans hu3 (by exact (fun _ _ h => h.elim))
    replace hv := hv.upd hu3 (fun k hk hl hS => by exact (show False from hS).elim)
    replace hB1 := hB1.upd hu3 (by exact (fun h => h))
    replace hp := hp.upd hu3 (by exact (fun _ _ h => h))
    replace hac := hac.upd hu3 (fun k hk hl hS => by exact (show False from hS).elim)
    refine WL.val rfl rfl rfl rfl (r_assign rfl (ev_t rfl)) ?_
    refine WL.nil (WX.keep [(0, _), (1, _), (4, _), (5, _), (49, _)] ⟨rfl, rfl, rfl, rfl, rfl, trivial⟩ (WX.next (WC.cond rfl (ev_t rfl) (fun hc10 => ?_) (fun hc10 => ?_))))
    ·refine WC.seq (WC.draws' (fun u0_ u1_ => Upd No u0_ u1_) (fun j => [0, 0, 0, 0, 0, 0, 0, 0, 1, 0, 0, 2, 2, 0].getD j 0) (.calm 0 (.calm 1 (.calm 2 (.calm 3 (.calm 5 (.calm 6 (.calm 7 (.held 4 (.one 8 (.calm 9 (.calm 10 (.one 11 (.one 12 (.calm 13 (.done))))))))))))))) mixed (by kernel_rfl) (by repeat (first | with_reducible exact Deaf.body | with_reducible apply Deaf.then | with_reducible apply Deaf.block)) ?_)
     intro w4 hu4
     have hz4 := congrArg Array.size hu4.2.2.2
     replace hu4 := Upd.of_draw hu4
     have hs4 := hu4.size
     replace hU := hU.trans hu4 (by exact (fun _ _ h => h.elim))
     replace hv := hv.upd hu4 (fun k hk hl hS => by exact (show False from hS).elim)
     replace hB1 := hB1.upd hu4 (by exact (fun h => h))
     replace hp := hp.upd hu4 (by exact (fun _ _ h => h))
     replace hac := hac.upd hu4 (fun k hk hl hS => by exact (show False from hS).elim)
     have hS11 := Upd.refl No w4
     obtain ⟨FE, bE, offE, cE, zE, badE, hbE, hzE, hrE, hFE, hIE⟩ := hp.open
     obtain ⟨zz, hz9⟩ := toks_get hzE (St.hd_get hp.suf hp.fin.pos)
     have hIe : (A.length : Int) - ((opnQ s).ts.length : Int) = ((A.length - (opnQ s).ts.length : Nat) : Int) := by omega
     rw [hIe] at hbE
     have hkd := kdQ_kind hc10
     have hT := hp.tail (by rw [hkd.2]; decide)
     have hT3 := hT.2.2
     refine WN.calm _ rfl rfl rfl rfl rfl (fun _ => r_move rfl (ev_t rfl)) ?_
     refine WN.calm _ rfl rfl rfl rfl rfl (fun _ => r_move rfl (ev_t rfl)) ?_
     refine WN.calm _ rfl rfl rfl rfl rfl (fun _ => r_nilCheck rfl (ev_t rfl)) ?_
     refine WN.calm _ rfl rfl rfl rfl rfl (fun _ => r_field0 rfl (ev_t rfl) fld_58_0) ?_
     refine WN.calm _ rfl rfl rfl rfl rfl (fun _ => r_move rfl (ev_t rfl)) ?_
     refine WN.calm _ rfl rfl rfl rfl rfl (fun _ => r_nilCheck rfl (ev_t rfl)) ?_
     refine WN.calm _ rfl rfl rfl rfl rfl (fun _ => r_field0 rfl (ev_t rfl) fld_58_1) ?_
     refine WN.held _ rfl rfl rfl rfl rfl hS11 (fun w' hS => r_load rfl (ev_t rfl) flat_53 (Blk.cell (hbE.upd hS (fun h => h)) rfl)) ?_
     refine WN.step _ rfl (SO.val rfl rfl rfl rfl (r_load rfl (ev_t rfl) flat_3 (Blk.cell hbE rfl)) ?_)
     refine ⟨hS11, ?_⟩
     refine WN.calm _ rfl rfl rfl rfl rfl (fun _ => r_indexAddr rfl (ev_t rfl) (ev_t rfl) elem_53 size_81 (by omega) (by omega)) ?_
     refine WN.calm _ rfl rfl rfl rfl rfl (fun _ => r_fieldAt rfl (ev_t rfl) fld_81_1) ?_
     refine WN.step _ rfl (SO.val rfl rfl rfl rfl (r_load rfl (ev_t rfl) flat_9 (hrE.cell (j := (A.length - (opnQ s).ts.length) * 3 + 1) (by omega) (hz9 1 _ rfl))) ?_)
     refine ⟨trivial, ?_⟩
     refine WN.step _ rfl (SO.call (rhas_ok hv) rfl body_83 ⟨(ev_t rfl), (ev_t rfl), trivial⟩ rfl rfl rfl rfl ?_)
     rintro v9 w5 ⟨rfl, hu5⟩
     have hs5 := hu5.size
     try replace hS11 := Upd.transA hS11 hu5
     replace hU := hU.trans hu5 (by exact (fun _ _ h => h.elim))
     replace hv := hv.upd hu5 (fun k hk hl hS => by exact (show False from hS).elim)
     replace hB1 := hB1.upd hu5 (by exact (fun h => h))
     replace hp := hp.upd hu5 (by exact (fun _ _ h => h))
     replace hac := hac.upd hu5 (fun k hk hl hS => by exact (show False from hS).elim)
     refine ⟨trivial, ?_⟩
     refine WN.calm _ rfl rfl rfl rfl rfl (fun _ => r_assign rfl (ev_t rfl)) ?_
     refine WN.done ?_
     refine WX.keep [(0, _), (4, _), (5, _), (6, _)] ⟨rfl, rfl, rfl, rfl, trivial⟩ (WX.next (WC.seq (WC.seq (WC.region (WL.val rfl rfl rfl rfl (r_move rfl (ev_t rfl)) ?_)))))
     refine WL.val rfl rfl rfl rfl (r_eql rfl (ev_t rfl) ev_c) ?_
     refine WL.nil (WX.keep [(0, _), (4, _), (5, _), (6, _), (66, _)] ⟨rfl, rfl, rfl, rfl, rfl, trivial⟩ (WX.next (WC.cond rfl (ev_t rfl) (fun hc12 => ?_) (fun hc12 => ?_))))
     ·try simp only [cS, ne_eq, Decidable.not_not] at hc12
      obtain ⟨FD, bD, offD, cD, zD, badD, hbD, hzD, hrD, hFD, hID⟩ := hp.open
      have hq : hasQ vs (opnQ s).hd.s = 0 := by omega
      refine WC.region (WL.val rfl rfl rfl rfl (r_move rfl (ev_t rfl)) ?_)
      refine WL.val rfl rfl rfl rfl (r_move rfl (ev_t rfl)) ?_
      refine WL.val rfl rfl rfl rfl (r_nilCheck rfl (ev_t rfl)) ?_
      refine WL.val rfl rfl rfl rfl (r_field0 rfl (ev_t rfl) fld_58_1) ?_
      refine WL.val rfl rfl rfl rfl (r_load rfl (ev_t rfl) flat_3 (Blk.cell hbD rfl)) ?_
      refine WL.cons (SO.call (fault_ok (e := 6) hp (by omega) (by decide)) rfl body_35 ⟨(ev_t rfl), (ev_t rfl), ev_c, trivial⟩ rfl rfl rfl rfl ?_)
      rintro v9 w6 ⟨hp2, hu6⟩
      have hs6 := hu6.size
      replace hU := hU.trans hu6 (by exact (fun _ _ h => h))
      replace hv := hv.upd hu6 (fun k hk hl hS => by (simp only [At] at hS; have := hFv k hk.1; have := hk.2; omega))
      replace hB1 := hB1.upd hu6 (by (simp only [At]; omega))
      replace hac := hac.upd hu6 (fun k hk hl hS => by (simp only [At] at hS; omega))
      have hp := hp2
      have hPst := Pst.fau (opnQ s) 6
      have he9 : apbB (tq n) vs (opnQ s) = ([Tr.mk [] (hasQ vs (opnQ s).hd.s) []], fauQ (opnQ s) 6) := by simp only [apbB]; rw [if_pos hc10, if_pos hq]
      refine WL.nil (WX.keep [(0, _), (4, _), (5, _), (6, _)] ⟨rfl, rfl, rfl, rfl, trivial⟩ (WX.next (WC.region (WL.val rfl rfl rfl rfl (r_move rfl (ev_t rfl)) ?_))))
      refine WL.val rfl rfl rfl rfl (r_move rfl (ev_t rfl)) ?_
      refine WL.val rfl rfl rfl rfl (r_build (cs := #[_, _, _]) (vs := [(1, _)]) rfl ⟨⟨rfl, (ev_t rfl)⟩, trivial⟩ plc_24 zero_24 rfl) ?_
      refine WL.cons (SO.alloc rfl rfl rfl rfl (r_buildSlice (cs := #[_, _, _]) (vs := [(0, _)]) rfl ⟨⟨rfl, (ev_t rfl)⟩, trivial⟩ row_22 rfl rfl) ?_)
      intro w7 hu7 hB7 hz7
      have hs7 := hu7.size
      replace hU := hU.trans hu7 (by exact (fun _ _ h => h.elim))
      replace hv := hv.upd hu7 (fun k hk hl hS => by exact (show False from hS).elim)
      replace hB1 := hB1.upd hu7 (by exact (fun h => h))
      replace hac := hac.upd hu7 (fun k hk hl hS => by exact (show False from hS).elim)
      replace hp := hp.upd hu7 (by exact (fun _ _ h => h))
      refine WL.cons (SO.appendA (a := Tr.mk [] (hasQ vs (opnQ s).hd.s) []) hac (show TM _ No [Sv [], .int .i64 (hasQ vs (opnQ s).hd.s : Int), .slice none 0 0] _ from TM.tr (xs := []) (Rd.nil _ _ _) (Ms.nil _ _) (by have := hasQ_le vs (opnQ s).hd.s; simp only [inK]; omega) (by simp)) (fun k hk => hk.elim) (Rd.of_blk (F := At _) (n := 1) (sz := 3) hB7 rfl rfl (by omega)) row_22 (by simp) rfl rfl (ev_t rfl) (ev_t rfl) rfl rfl rfl rfl ?_ (by omega))
      intro v5 w8 hac2 hu8 hBw
      have hs8 := hu8.size
      replace hU := hU.trans hu8 (by exact (fun _ _ h => h.elim))
      replace hv := hv.upd hu8 (fun k hk hl hS => by exact (show False from hS).elim)
      replace hB1 := hB1.upd hu8 (by exact (fun h => h))
      replace hp := hp.upd hu8 (by exact (fun _ _ h => h))
      refine WL.val rfl rfl rfl rfl (r_assign rfl (ev_t rfl)) ?_
      refine WL.nil (WX.keep [(0, _), (4, _), (5, _)] ⟨rfl, rfl, rfl, trivial⟩ (WX.blockNormal (WX.meet [(0, _), (4, _), (5, _)] ⟨rfl, rfl, rfl, trivial⟩ ?_)))
      first
       | exact ⟨_, _, _, _, he9, hPst, hU, hp, hac2, by simp, by simp, hB1, rfl⟩
       | exact ⟨_, _, _, _, he9, hPst, hU, hp, hac, by omega, by omega, hB1, rfl⟩
       | (have he9 : apbB (tq n) vs (opnQ s) = (ks, musQ s1 [41]) := by
            simp only [apbB]
            rw [if_neg (by simp [hc10]), if_neg (by simp [hc16]), ← hg, hsep]
            simp only
            rw [if_neg (by rintro ⟨h1, h2, h3⟩; first | omega | (simp [h3] at hc8))]
          exact ⟨_, _, _, _, he9, hPst, hU, hp, hac, by omega, by omega, hB1, rfl⟩)
     ·try simp only [cS, ne_eq, Decidable.not_not] at hc12
      obtain ⟨FD, bD, offD, cD, zD, badD, hbD, hzD, hrD, hFD, hID⟩ := hp.open
      have hq : ¬ hasQ vs (opnQ s).hd.s = 0 := by omega
      refine WC.region (WL.val rfl rfl rfl rfl (r_move rfl (ev_t rfl)) ?_)
      refine WL.val rfl rfl rfl rfl (r_nilCheck rfl (ev_t rfl)) ?_
      refine WL.val rfl rfl rfl rfl (r_field0 rfl (ev_t rfl) fld_58_1) ?_
      refine WL.val rfl rfl rfl rfl (r_load rfl (ev_t rfl) flat_3 (Blk.cell hbD rfl)) ?_
      refine WL.val rfl rfl rfl rfl (r_addN rfl (ev_t rfl) ev_c (by simp only [inK]; omega)) ?_
      refine WL.val rfl rfl rfl rfl (r_nilCheck rfl (ev_t rfl)) ?_
      refine WL.val rfl rfl rfl rfl (r_field0 rfl (ev_t rfl) fld_58_1) ?_
      refine WL.cons (SO.store rfl (ev_t rfl) (ev_t rfl) size_3 hbD rfl rfl rfl rfl rfl ?_)
      intro w9 hu9 hbD hz9
      have hs9 := hu9.size
      replace hU := hU.trans hu9 (by exact (fun _ _ h => h))
      replace hv := hv.upd hu9 (fun k hk hl hS => by (simp only [At] at hS; have := hFv k hk.1; have := hk.2; omega))
      replace hB1 := hB1.upd hu9 (by (simp only [At]; omega))
      replace hac := hac.upd hu9 (fun k hk hl hS => by (simp only [At] at hS; omega))
      refine WL.nil (WX.keep [(0, _), (4, _), (5, _), (6, _)] ⟨rfl, rfl, rfl, rfl, trivial⟩ ?_)
      rw [show (A.length : Int) - ((opnQ s).ts.length : Int) + 1 = (A.length : Int) - ((tlQ (opnQ s)).ts.length : Int) by omega] at hbD
      replace hp : PS w9 r B0 A (tlQ (opnQ s)) := hp.shut hu9 hbD hzD (hrD.upd hu9 (fun k hk hl hS => (hFD k hk).1 hS)) hFD hT.1 hT.2.1 hp.dle hp.ele
      have hPst := Pst.tl (opnQ s)
      have he9 : apbB (tq n) vs (opnQ s) = ([Tr.mk [] (hasQ vs (opnQ s).hd.s) []], tlQ (opnQ s)) := by simp only [apbB]; rw [if_pos hc10, if_neg hq]
      refine WX.next (WC.region (WL.val rfl rfl rfl rfl (r_move rfl (ev_t rfl)) ?_))
      refine WL.val rfl rfl rfl rfl (r_move rfl (ev_t rfl)) ?_
      refine WL.val rfl rfl rfl rfl (r_build (cs := #[_, _, _]) (vs := [(1, _)]) rfl ⟨⟨rfl, (ev_t rfl)⟩, trivial⟩ plc_24 zero_24 rfl) ?_
      refine WL.cons (SO.alloc rfl rfl rfl rfl (r_buildSlice (cs := #[_, _, _]) (vs := [(0, _)]) rfl ⟨⟨rfl, (ev_t rfl)⟩, trivial⟩ row_22 rfl rfl) ?_)
      intro w10 hu10 hB10 hz10
      have hs10 := hu10.size
      replace hU := hU.trans hu10 (by exact (fun _ _ h => h.elim))
      replace hv := hv.upd hu10 (fun k hk hl hS => by exact (show False from hS).elim)
      replace hB1 := hB1.upd hu10 (by exact (fun h => h))
      replace hac := hac.upd hu10 (fun k hk hl hS => by exact (show False from hS).elim)
      replace hp := hp.upd hu10 (by exact (fun _ _ h => h))
      refine WL.cons (SO.appendA (a := Tr.mk [] (hasQ vs (opnQ s).hd.s) []) hac (show TM _ No [Sv [], .int .i64 (hasQ vs (opnQ s).hd.s : Int), .slice none 0 0] _ from TM.tr (xs := []) (Rd.nil _ _ _) (Ms.nil _ _) (by have := hasQ_le vs (opnQ s).hd.s; simp only [inK]; omega) (by simp)) (fun k hk => hk.elim) (Rd.of_blk (F := At _) (n := 1) (sz := 3) hB10 rfl rfl (by omega)) row_22 (by simp) rfl rfl (ev_t rfl) (ev_t rfl) rfl rfl rfl rfl ?_ (by omega))
      intro v5 w11 hac2 hu11 hBw
      have hs11 := hu11.size
      replace hU := hU.trans hu11 (by exact (fun _ _ h => h.elim))
      replace hv := hv.upd hu11 (fun k hk hl hS => by exact (show False from hS).elim)
      replace hB1 := hB1.upd hu11 (by exact (fun h => h))
      replace hp := hp.upd hu11 (by exact (fun _ _ h => h))
      refine WL.val rfl rfl rfl rfl (r_assign rfl (ev_t rfl)) ?_
      refine WL.nil (WX.keep [(0, _), (4, _), (5, _)] ⟨rfl, rfl, rfl, trivial⟩ (WX.blockNormal (WX.meet [(0, _), (4, _), (5, _)] ⟨rfl, rfl, rfl, trivial⟩ ?_)))
      first
       | exact ⟨_, _, _, _, he9, hPst, hU, hp, hac2, by simp, by simp, hB1, rfl⟩
       | exact ⟨_, _, _, _, he9, hPst, hU, hp, hac, by omega, by omega, hB1, rfl⟩
       | (have he9 : apbB (tq n) vs (opnQ s) = (ks, musQ s1 [41]) := by
            simp only [apbB]
            rw [if_neg (by simp [hc10]), if_neg (by simp [hc16]), ← hg, hsep]
            simp only
            rw [if_neg (by rintro ⟨h1, h2, h3⟩; first | omega | (simp [h3] at hc8))]
          exact ⟨_, _, _, _, he9, hPst, hU, hp, hac, by omega, by omega, hB1, rfl⟩)
    ·refine WC.seq (WC.region (WL.val rfl rfl rfl rfl (r_move rfl (ev_t rfl)) ?_))
     refine WL.cons (SO.call (kind_ok (k := 1) hp) rfl body_32 ⟨(ev_t rfl), ev_c, trivial⟩ rfl rfl rfl rfl ?_)
     rintro v9 w12 ⟨rfl, hu12⟩
     have hs12 := hu12.size
     replace hU := hU.trans hu12 (by exact (fun _ _ h => h.elim))
     replace hv := hv.upd hu12 (fun k hk hl hS => by exact (show False from hS).elim)
     replace hB1 := hB1.upd hu12 (by exact (fun h => h))
     replace hp := hp.upd hu12 (by exact (fun _ _ h => h))
     replace hac := hac.upd hu12 (fun k hk hl hS => by exact (show False from hS).elim)
     refine WL.val rfl rfl rfl rfl (r_assign rfl (ev_t rfl)) ?_
     refine WL.nil (WX.keep [(0, _), (1, _), (4, _), (5, _), (85, _)] ⟨rfl, rfl, rfl, rfl, rfl, trivial⟩ (WX.next (WC.cond rfl (ev_t rfl) (fun hc16 => ?_) (fun hc16 => ?_))))
     ·refine WC.region (WL.val rfl rfl rfl rfl (r_move rfl (ev_t rfl)) ?_)
      refine WL.val rfl rfl rfl rfl (r_move rfl (ev_t rfl)) ?_
      refine WL.cons (SO.call (text_ok9 (k := 1) hp (by decide)) rfl body_82 ⟨(ev_t rfl), ev_c, trivial⟩ rfl rfl rfl rfl ?_)
      rintro v9 w13 ⟨rfl, hp2, hu13⟩
      have hs13 := hu13.size
      replace hU := hU.trans hu13 (by exact (fun _ _ h => h))
      replace hv := hv.upd hu13 (fun k hk hl hS => by (simp only [At] at hS; have := hFv k hk.1; have := hk.2; omega))
      replace hB1 := hB1.upd hu13 (by (simp only [At]; omega))
      replace hac := hac.upd hu13 (fun k hk hl hS => by (simp only [At] at hS; omega))
      have hn9 := (hp.hdG).2.1
      rw [txtQ_T hc16] at hp2
      rw [txtQ_T hc16]
      have hp := hp2
      have hPst := Pst.tl (opnQ s)
      have he9 : apbB (tq n) vs (opnQ s) = ([Tr.mk (opnQ s).hd.s 0 []], tlQ (opnQ s)) := by simp only [apbB]; rw [if_neg (by simp [hc10]), if_pos hc16]
      refine WL.val rfl rfl rfl rfl (r_build (cs := #[_, _, _]) (vs := [(0, _)]) rfl ⟨⟨rfl, (ev_t rfl)⟩, trivial⟩ plc_24 zero_24 rfl) ?_
      refine WL.cons (SO.alloc rfl rfl rfl rfl (r_buildSlice (cs := #[_, _, _]) (vs := [(0, _)]) rfl ⟨⟨rfl, (ev_t rfl)⟩, trivial⟩ row_22 rfl rfl) ?_)
      intro w14 hu14 hB14 hz14
      have hs14 := hu14.size
      replace hU := hU.trans hu14 (by exact (fun _ _ h => h.elim))
      replace hv := hv.upd hu14 (fun k hk hl hS => by exact (show False from hS).elim)
      replace hB1 := hB1.upd hu14 (by exact (fun h => h))
      replace hac := hac.upd hu14 (fun k hk hl hS => by exact (show False from hS).elim)
      replace hp := hp.upd hu14 (by exact (fun _ _ h => h))
      refine WL.cons (SO.appendA (a := Tr.mk (opnQ s).hd.s 0 []) hac (show TM _ No [Sv (opnQ s).hd.s, .int .i64 0, .slice none 0 0] _ from TM.tr (xs := []) (Rd.nil _ _ _) (Ms.nil _ _) (by simp [inK]) (by omega)) (fun k hk => hk.elim) (Rd.of_blk (F := At _) (n := 1) (sz := 3) hB14 rfl rfl (by omega)) row_22 (by simp) rfl rfl (ev_t rfl) (ev_t rfl) rfl rfl rfl rfl ?_ (by omega))
      intro v5 w15 hac2 hu15 hBw
      have hs15 := hu15.size
      replace hU := hU.trans hu15 (by exact (fun _ _ h => h.elim))
      replace hv := hv.upd hu15 (fun k hk hl hS => by exact (show False from hS).elim)
      replace hB1 := hB1.upd hu15 (by exact (fun h => h))
      replace hp := hp.upd hu15 (by exact (fun _ _ h => h))
      refine WL.val rfl rfl rfl rfl (r_assign rfl (ev_t rfl)) ?_
      refine WL.nil (WX.keep [(0, _), (4, _), (5, _)] ⟨rfl, rfl, rfl, trivial⟩ (WX.blockNormal (WX.meet [(0, _), (4, _), (5, _)] ⟨rfl, rfl, rfl, trivial⟩ ?_)))
      first
       | exact ⟨_, _, _, _, he9, hPst, hU, hp, hac2, by simp, by simp, hB1, rfl⟩
       | exact ⟨_, _, _, _, he9, hPst, hU, hp, hac, by omega, by omega, hB1, rfl⟩
       | (have he9 : apbB (tq n) vs (opnQ s) = (ks, musQ s1 [41]) := by
            simp only [apbB]
            rw [if_neg (by simp [hc10]), if_neg (by simp [hc16]), ← hg, hsep]
            simp only
            rw [if_neg (by rintro ⟨h1, h2, h3⟩; first | omega | (simp [h3] at hc8))]
          exact ⟨_, _, _, _, he9, hPst, hU, hp, hac, by omega, by omega, hB1, rfl⟩)
     ·refine WC.seq (WC.region (WL.val rfl rfl rfl rfl (r_move rfl (ev_t rfl)) ?_))
      refine WL.cons (SO.call (must_ok (u := [40]) hp) rfl body_84 ⟨(ev_t rfl), ev_c, trivial⟩ rfl rfl rfl rfl ?_)
      rintro v9 w16 ⟨hp2, hu16⟩
      have hs16 := hu16.size
      replace hU := hU.trans hu16 (by exact (fun _ _ h => h))
      replace hv := hv.upd hu16 (fun k hk hl hS => by (simp only [At] at hS; have := hFv k hk.1; have := hk.2; omega))
      replace hB1 := hB1.upd hu16 (by (simp only [At]; omega))
      replace hac := hac.upd hu16 (fun k hk hl hS => by (simp only [At] at hS; omega))
      have hp := hp2
      have hsm := Pst.mus (opnQ s) [40]
      have hsm1 := hsm.1
      refine WL.nil (WX.keep [(0, _), (1, _), (4, _), (5, _)] ⟨rfl, rfl, rfl, rfl, trivial⟩ (WX.next (WC.seq (WC.region (WL.val rfl rfl rfl rfl (r_move rfl (ev_t rfl)) ?_)))))
      refine WL.val rfl rfl rfl rfl (r_move rfl (ev_t rfl)) ?_
      refine WL.val rfl rfl rfl rfl (r_move rfl (ev_t rfl)) ?_
      refine WL.cons (SO.call (ihA _ _ _ _ _ _ _ _ vs hp (by omega) (by omega) hv (fun k hk => hFv k hk.1)) rfl body_85 ⟨(ev_t rfl), (ev_t rfl), trivial⟩ rfl rfl rfl rfl ?_)
      rintro v9 w17 ⟨c9, rfl, ht, hp2, hst, hu17⟩
      have hs17 := hu17.size
      replace hU := hU.trans hu17 (by exact (fun _ _ h => h))
      replace hv := hv.upd hu17 (fun k hk hl hS => by (simp only [At] at hS; have := hFv k hk.1; have := hk.2; omega))
      replace hB1 := hB1.upd hu17 (by (simp only [At]; omega))
      replace hac := hac.upd hu17 (fun k hk hl hS => by (simp only [At] at hS; omega))
      have hp := hp2
      obtain ⟨tn, tv, tks, tA, tp, txs, het, rfl, _⟩ := ht.mk3
      refine WL.cons (SO.alloc rfl rfl rfl rfl (r_buildSlice (cs := #[_, _, _]) (vs := [(0, _)]) rfl ⟨⟨rfl, (ev_t rfl)⟩, trivial⟩ row_22 rfl rfl) ?_)
      intro w18 hu18 hB18 hz18
      have hs18 := hu18.size
      replace hU := hU.trans hu18 (by exact (fun _ _ h => h.elim))
      replace hv := hv.upd hu18 (fun k hk hl hS => by exact (show False from hS).elim)
      replace hB1 := hB1.upd hu18 (by exact (fun h => h))
      replace hac := hac.upd hu18 (fun k hk hl hS => by exact (show False from hS).elim)
      replace hp := hp.upd hu18 (by exact (fun _ _ h => h))
      replace ht := ht.updA hu18
      refine WL.cons (SO.appendA hac ht (fun k hk => ⟨fun hG9 => hG9.elim, by simp only [Bt] at hk; omega⟩) (Rd.of_blk (F := At _) (n := 1) (sz := 3) hB18 rfl rfl (by omega)) row_22 (by simp) rfl rfl (ev_t rfl) (ev_t rfl) rfl rfl rfl rfl ?_ (by omega))
      intro v5 w19 hac2 hu19 hBw
      have hs19 := hu19.size
      replace hU := hU.trans hu19 (by exact (fun _ _ h => h.elim))
      replace hv := hv.upd hu19 (fun k hk hl hS => by exact (show False from hS).elim)
      replace hB1 := hB1.upd hu19 (by exact (fun h => h))
      replace hp := hp.upd hu19 (by exact (fun _ _ h => h))
      obtain ⟨g, hg⟩ : ∃ g, g = (tq n).arr vs := ⟨_, rfl⟩
      have hPst := hsm.trans hst
      rw [← hg] at hac2 hst hPst hp
      refine WL.val rfl rfl rfl rfl (r_assign rfl (ev_t rfl)) ?_
      refine WL.nil (WX.keep [(0, _), (1, _), (4, _), (5, _)] ⟨rfl, rfl, rfl, rfl, trivial⟩ (WX.next (WC.seq (WC.block ?_))))
      -- loop 1: live [0, 1, 4, 5]
      refine WC.keep [(0, _), (1, _), (4, _), (5, _)] ⟨rfl, rfl, rfl, rfl, trivial⟩ (WC.loop (fun qq E wA => ∃ (s1 : St) (ks : List Tr) (G : Nat → Prop) (v1 : Value) (k1 : Nat), qq = k1 ∧ s1.ts.length ≤ k1 ∧ Upd (At r) w wA ∧ PS wA r B0 A s1 ∧ Pst (opnQ s) s1 ∧ Acc 24 wA (w.heap.size + 1) G v1 ks ∧ 0 < ks.length ∧ ks.length + s1.ts.length ≤ 2100 ∧ sepQ g [44] (g (musQ (opnQ s) [40])).2.ts.length [(g (musQ (opnQ s) [40])).1] (g (musQ (opnQ s) [40])).2 = sepQ g [44] k1 ks s1 ∧ Rd wA (fun k => Fv k ∧ k < w.heap.size) (.slice vA vs.length vc) vs.length 1 (vs.map Sv) ∧ Blk wA w.heap.size #[.string ⟨#[]⟩, .int .i64 0, .slice none 0 0] 24 ∧ E = [(0, (.pointer (some ⟨r, 0, none⟩))), (1, .slice vA vs.length vc), (4, .pointer (some ⟨w.heap.size, 0, none⟩)), (5, v1)]) ((g (musQ (opnQ s) [40])).2.ts.length) ?_ ?_)
      ·exact ⟨_, _, _, _, _, rfl, Nat.le_refl _, hU, hp, hPst, hac2, by simp, by have := hPst.2; simp only [List.length_cons, List.length_nil, List.length_append]; omega, rfl, hv, hB1, rfl⟩
      ·clear hU hp hPst hac2 hac hv hB1 hG hst hsm
       rintro qq E wA ⟨s1, ks, G, v1, k1, rfl, hk1, hU, hp, hPst, hac, hk0, hkl, hsep, hv, hB1, rfl⟩
       obtain ⟨A1, c1, rfl, hcc1⟩ := hac.form
       have hG := hac.lt
       have hI := hp.I
       have hsC := hU.size
       have hlt1 := hB1.lt
       have hd1 := hPst.1
       refine WC.seq (WC.seq (WC.region (WL.val rfl rfl rfl rfl (r_move rfl (ev_t rfl)) ?_)))
       refine WL.cons (SO.call (take_ok (u := [44]) hp) rfl body_31 ⟨(ev_t rfl), ev_c, trivial⟩ rfl rfl rfl rfl ?_)
       rintro v9 w20 ⟨rfl, hp2, hu20⟩
       have hs20 := hu20.size
       replace hU := hU.trans hu20 (by exact (fun _ _ h => h))
       replace hv := hv.upd hu20 (fun k hk hl hS => by (simp only [At] at hS; have := hFv k hk.1; have := hk.2; omega))
       replace hac := hac.upd hu20 (fun k hk hl hS => by (simp only [At] at hS; omega))
       replace hB1 := hB1.upd hu20 (by (simp only [At]; omega))
       have hp := hp2
       refine WL.nil (WX.keep [(0, _), (1, _), (4, _), (5, _), (19, _)] ⟨rfl, rfl, rfl, rfl, rfl, trivial⟩ (WX.next (WC.cond rfl (ev_t rfl) (fun hc5 => ?_) (fun hc5 => ?_))))
       ·rw [takQ_T hc5] at hp
        obtain ⟨k2, rfl⟩ : ∃ k2, qq = k2 + 1 := ⟨qq - 1, by omega⟩
        rw [sepQ_step hc5] at hsep
        have htl := tlQ_len s1
        refine WC.skip (WX.next (WC.block (WC.region (WL.val rfl rfl rfl rfl (r_move rfl (ev_t rfl)) ?_))))
        refine WL.val rfl rfl rfl rfl (r_move rfl (ev_t rfl)) ?_
        refine WL.val rfl rfl rfl rfl (r_move rfl (ev_t rfl)) ?_
        refine WL.cons (SO.call (ihA _ _ _ _ _ _ _ _ vs hp (by rw [tlQ_d]; omega) (by rw [tlQ_d]; omega) hv (fun k hk => hFv k hk.1)) rfl body_85 ⟨(ev_t rfl), (ev_t rfl), trivial⟩ rfl rfl rfl rfl ?_)
        rintro v9 w21 ⟨c9, rfl, ht, hp2, hst, hu21⟩
        have hs21 := hu21.size
        replace hU := hU.trans hu21 (by exact (fun _ _ h => h))
        replace hv := hv.upd hu21 (fun k hk hl hS => by (simp only [At] at hS; have := hFv k hk.1; have := hk.2; omega))
        replace hac := hac.upd hu21 (fun k hk hl hS => by (simp only [At] at hS; omega))
        replace hB1 := hB1.upd hu21 (by (simp only [At]; omega))
        rw [← hg] at ht hp2 hst
        have hp := hp2
        obtain ⟨tn, tv, tks, tA, tp, txs, het, rfl, _⟩ := ht.mk3
        refine WL.cons (SO.alloc rfl rfl rfl rfl (r_buildSlice (cs := #[_, _, _]) (vs := [(0, _)]) rfl ⟨⟨rfl, (ev_t rfl)⟩, trivial⟩ row_22 rfl rfl) ?_)
        intro w22 hu22 hB22 hz22
        have hs22 := hu22.size
        replace hU := hU.trans hu22 (by exact (fun _ _ h => h.elim))
        replace hv := hv.upd hu22 (fun k hk hl hS => by exact (show False from hS).elim)
        replace hac := hac.upd hu22 (fun k hk hl hS => by exact (show False from hS).elim)
        replace hB1 := hB1.upd hu22 (by exact (fun h => h))
        replace hp := hp.upd hu22 (by exact (fun _ _ h => h))
        replace ht := ht.updA hu22
        refine WL.cons (SO.appendA hac ht (fun k hk => ⟨fun hG9 => by have := hG _ hG9; simp only [Bt] at hk; omega, by simp only [Bt] at hk; omega⟩) (Rd.of_blk (F := At _) (n := 1) (sz := 3) hB22 rfl rfl (by omega)) row_22 (by omega) rfl rfl (ev_t rfl) (ev_t rfl) rfl rfl rfl rfl ?_ (by omega))
        intro v5 w23 hac2 hu23 hBw
        have hs23 := hu23.size
        replace hU := hU.trans hu23 (by (intro k hl hk; first | exact hk | exact (show False from hk).elim | (have := hG k hk; omega) | (simp only [At] at *; exfalso; omega)))
        replace hv := hv.upd hu23 (fun k hk hl hS => by (have := hG k hS; have := hk.2; omega))
        replace hB1 := hB1.upd hu23 (by (intro hS; have := hG _ hS; omega))
        replace hp := hp.upd hu23 (by (intro k hk hS; first | (simp only [At] at hS; omega) | (have := hG k hS; omega)))
        refine WL.val rfl rfl rfl rfl (r_assign rfl (ev_t rfl)) ?_
        refine WL.nil (WX.keep [(0, _), (1, _), (4, _), (5, _)] ⟨rfl, rfl, rfl, rfl, trivial⟩ (WX.blockNormal (WX.meet [(0, _), (1, _), (4, _), (5, _)] ⟨rfl, rfl, rfl, rfl, trivial⟩ ?_)))
        refine ⟨k2, by omega, _, _, _, _, _, rfl, by have := hst.2; omega, hU, hp, hPst.trans ((Pst.tl _).trans hst), hac2, by simp, ?_, hsep, hv, hB1, rfl⟩
        have := hst.2
        simp only [List.length_append, List.length_cons, List.length_nil]
        omega
       ·rw [takQ_F hc5] at hp
        rw [sepQ_stop hc5] at hsep
        refine WC.exit (WX.thenExit (WX.thenExit (WX.blockHere (WX.next (WC.seq (WC.region (WL.val rfl rfl rfl rfl (r_move rfl (ev_t rfl)) ?_)))))))
        refine WL.cons (SO.call (must_ok (u := [41]) hp) rfl body_84 ⟨(ev_t rfl), ev_c, trivial⟩ rfl rfl rfl rfl ?_)
        rintro v9 w24 ⟨hp2, hu24⟩
        have hs24 := hu24.size
        replace hU := hU.trans hu24 (by exact (fun _ _ h => h))
        replace hv := hv.upd hu24 (fun k hk hl hS => by (simp only [At] at hS; have := hFv k hk.1; have := hk.2; omega))
        replace hac := hac.upd hu24 (fun k hk hl hS => by (simp only [At] at hS; omega))
        replace hB1 := hB1.upd hu24 (by (simp only [At]; omega))
        have hp := hp2
        have hPst := hPst.trans (Pst.mus s1 [41])
        refine WL.nil (WX.keep [(0, _), (4, _), (5, _)] ⟨rfl, rfl, rfl, trivial⟩ (WX.next (WC.seq (WC.region ?_))))
        obtain ⟨FD, bD, offD, cD, zD, badD, hbD, hzD, hrD, hFD, hID⟩ := hp.open
        refine WL.val rfl rfl rfl rfl (r_move rfl (ev_t rfl)) ?_
        refine WL.val rfl rfl rfl rfl (r_lenSlice (ts := #[]) rfl (ev_t rfl) elem_22) ?_
        refine WL.val rfl rfl rfl rfl (r_gtr rfl (ev_t rfl) ev_c) ?_
        refine WL.val rfl rfl rfl rfl (r_move rfl (ev_t rfl)) ?_
        refine WL.cases 31 rfl (fun hb8_3 => ?_) (fun hb8_3 => ?_)
        ·try simp only [cS, ne_eq, Decidable.not_not] at hb8_3
         refine WL.val rfl rfl rfl rfl (r_move rfl (ev_t rfl)) ?_
         refine WL.val rfl rfl rfl rfl (r_nilCheck rfl (ev_t rfl)) ?_
         refine WL.val rfl rfl rfl rfl (r_field0 rfl (ev_t rfl) fld_58_4) ?_
         refine WL.val rfl rfl rfl rfl (r_load rfl (ev_t rfl) flat_3 (Blk.cell hbD rfl)) ?_
         refine WL.val rfl rfl rfl rfl (r_eql rfl (ev_t rfl) ev_c) ?_
         refine WL.val rfl rfl rfl rfl (r_pickT rfl (ev_t rfl) (ev_t rfl)) ?_
         refine WL.val rfl rfl rfl rfl (r_move rfl (ev_t rfl)) ?_
         refine WL.cases 38 rfl (fun hb8_10 => ?_) (fun hb8_10 => ?_)
         ·try simp only [cS, ne_eq, Decidable.not_not] at hb8_10
          refine WL.val rfl rfl rfl rfl (r_move rfl (ev_t rfl)) ?_
          refine WL.cons (SO.call (kind_ok (k := 1) hp) rfl body_32 ⟨(ev_t rfl), ev_c, trivial⟩ rfl rfl rfl rfl ?_)
          rintro v9 w25 ⟨rfl, hu25⟩
          have hs25 := hu25.size
          replace hU := hU.trans hu25 (by exact (fun _ _ h => h.elim))
          replace hv := hv.upd hu25 (fun k hk hl hS => by exact (show False from hS).elim)
          replace hac := hac.upd hu25 (fun k hk hl hS => by exact (show False from hS).elim)
          replace hB1 := hB1.upd hu25 (by exact (fun h => h))
          replace hp := hp.upd hu25 (by exact (fun _ _ h => h))
          refine WL.val rfl rfl rfl rfl (r_not rfl (ev_t rfl)) ?_
          refine WL.val rfl rfl rfl rfl (r_pickT rfl (ev_t rfl) (ev_t rfl)) ?_
          refine WL.nil (WX.keep [(0, _), (4, _), (5, _), (42, _)] ⟨rfl, rfl, rfl, rfl, trivial⟩ (WX.next (WC.cond rfl (ev_t rfl) (fun hc8 => ?_) (fun hc8 => ?_))))
          ·try simp only [cS, ne_eq, Decidable.not_not] at hc8
           refine WC.region ?_
           obtain ⟨FD, bD, offD, cD, zD, badD, hbD, hzD, hrD, hFD, hID⟩ := hp.open
           refine WL.val rfl rfl rfl rfl (r_move rfl (ev_t rfl)) ?_
           refine WL.val rfl rfl rfl rfl (r_move rfl (ev_t rfl)) ?_
           refine WL.val rfl rfl rfl rfl (r_nilCheck rfl (ev_t rfl)) ?_
           refine WL.val rfl rfl rfl rfl (r_field0 rfl (ev_t rfl) fld_58_1) ?_
           refine WL.val rfl rfl rfl rfl (r_load rfl (ev_t rfl) flat_3 (Blk.cell hbD rfl)) ?_
           refine WL.cons (SO.call (fault_ok (e := 4) hp (by omega) (by decide)) rfl body_35 ⟨(ev_t rfl), (ev_t rfl), ev_c, trivial⟩ rfl rfl rfl rfl ?_)
           rintro v9 w26 ⟨hp2, hu26⟩
           have hs26 := hu26.size
           replace hU := hU.trans hu26 (by exact (fun _ _ h => h))
           replace hv := hv.upd hu26 (fun k hk hl hS => by (simp only [At] at hS; have := hFv k hk.1; have := hk.2; omega))
           replace hac := hac.upd hu26 (fun k hk hl hS => by (simp only [At] at hS; omega))
           replace hB1 := hB1.upd hu26 (by (simp only [At]; omega))
           have hp := hp2
           have hPst := hPst.trans (Pst.fau (musQ s1 [41]) 4)
           have he9 : apbB (tq n) vs (opnQ s) = (ks, fauQ (musQ s1 [41]) 4) := by
            simp only [apbB]
            rw [if_neg (by simp [hc10]), if_neg (by simp [hc16]), ← hg, hsep]
            simp only
            rw [if_pos ⟨by omega, by omega, by simpa using hc8⟩]
           refine WL.nil (WX.keep [(0, _), (4, _), (5, _)] ⟨rfl, rfl, rfl, trivial⟩ (WX.blockNormal (WX.meet [(0, _), (4, _), (5, _)] ⟨rfl, rfl, rfl, trivial⟩ ?_)))
           first
            | exact ⟨_, _, _, _, he9, hPst, hU, hp, hac2, by simp, by simp, hB1, rfl⟩
            | exact ⟨_, _, _, _, he9, hPst, hU, hp, hac, by omega, by omega, hB1, rfl⟩
            | (have he9 : apbB (tq n) vs (opnQ s) = (ks, musQ s1 [41]) := by
                 simp only [apbB]
                 rw [if_neg (by simp [hc10]), if_neg (by simp [hc16]), ← hg, hsep]
                 simp only
                 rw [if_neg (by rintro ⟨h1, h2, h3⟩; first | omega | (simp [h3] at hc8))]
               exact ⟨_, _, _, _, he9, hPst, hU, hp, hac, by omega, by omega, hB1, rfl⟩)
          ·try simp only [cS, ne_eq, Decidable.not_not] at hc8
           refine WC.skip (WX.blockNormal (WX.meet [(0, _), (4, _), (5, _)] ⟨rfl, rfl, rfl, trivial⟩ ?_))
           first
            | exact ⟨_, _, _, _, he9, hPst, hU, hp, hac2, by simp, by simp, hB1, rfl⟩
            | exact ⟨_, _, _, _, he9, hPst, hU, hp, hac, by omega, by omega, hB1, rfl⟩
            | (have he9 : apbB (tq n) vs (opnQ s) = (ks, musQ s1 [41]) := by
                 simp only [apbB]
                 rw [if_neg (by simp [hc10]), if_neg (by simp [hc16]), ← hg, hsep]
                 simp only
                 rw [if_neg (by rintro ⟨h1, h2, h3⟩; first | omega | (simp [h3] at hc8))]
               exact ⟨_, _, _, _, he9, hPst, hU, hp, hac, by omega, by omega, hB1, rfl⟩)
         ·try simp only [cS, ne_eq, Decidable.not_not] at hb8_10
          refine WL.skip rfl rfl rfl (WL.skip rfl rfl rfl (WL.skip rfl rfl rfl (WL.val rfl rfl rfl rfl (r_pickF rfl (ev_t rfl) ev_c) ?_)))
          refine WL.nil (WX.keep [(0, _), (4, _), (5, _), (42, _)] ⟨rfl, rfl, rfl, rfl, trivial⟩ (WX.next (WC.cond_false rfl (ev_t rfl) ?_)))
          refine WC.skip (WX.blockNormal (WX.meet [(0, _), (4, _), (5, _)] ⟨rfl, rfl, rfl, trivial⟩ ?_))
          first
           | exact ⟨_, _, _, _, he9, hPst, hU, hp, hac2, by simp, by simp, hB1, rfl⟩
           | exact ⟨_, _, _, _, he9, hPst, hU, hp, hac, by omega, by omega, hB1, rfl⟩
           | (have he9 : apbB (tq n) vs (opnQ s) = (ks, musQ s1 [41]) := by
                simp only [apbB]
                rw [if_neg (by simp [hc10]), if_neg (by simp [hc16]), ← hg, hsep]
                simp only
                rw [if_neg (by rintro ⟨h1, h2, h3⟩; first | omega | (simp [h3] at hc8))]
              exact ⟨_, _, _, _, he9, hPst, hU, hp, hac, by omega, by omega, hB1, rfl⟩)
        ·try simp only [cS, ne_eq, Decidable.not_not] at hb8_3
         refine WL.skip rfl rfl rfl (WL.skip rfl rfl rfl (WL.skip rfl rfl rfl (WL.skip rfl rfl rfl (WL.skip rfl rfl rfl (WL.val rfl rfl rfl rfl (r_pickF rfl (ev_t rfl) ev_c) ?_)))))
         refine WL.val rfl rfl rfl rfl (r_move rfl (ev_t rfl)) ?_
         refine WL.skip rfl rfl rfl (WL.skip rfl rfl rfl (WL.skip rfl rfl rfl (WL.val rfl rfl rfl rfl (r_pickF rfl (ev_t rfl) ev_c) ?_)))
         refine WL.nil (WX.keep [(0, _), (4, _), (5, _), (42, _)] ⟨rfl, rfl, rfl, rfl, trivial⟩ (WX.next (WC.cond_false rfl (ev_t rfl) ?_)))
         refine WC.skip (WX.blockNormal (WX.meet [(0, _), (4, _), (5, _)] ⟨rfl, rfl, rfl, trivial⟩ ?_))
         first
          | exact ⟨_, _, _, _, he9, hPst, hU, hp, hac2, by simp, by simp, hB1, rfl⟩
          | exact ⟨_, _, _, _, he9, hPst, hU, hp, hac, by omega, by omega, hB1, rfl⟩
          | (have he9 : apbB (tq n) vs (opnQ s) = (ks, musQ s1 [41]) := by
               simp only [apbB]
               rw [if_neg (by simp [hc10]), if_neg (by simp [hc16]), ← hg, hsep]
               simp only
               rw [if_neg (by rintro ⟨h1, h2, h3⟩; first | omega | (simp [h3] at hc8))]
             exact ⟨_, _, _, _, he9, hPst, hU, hp, hac, by omega, by omega, hB1, rfl⟩)
   ·clear hU hp hB1 hac hv hG hol
    rintro E wA ⟨s2, ks, G, v1, he9, hPst, hU, hp, hac, hk0, hkl, hB1, rfl⟩
    have hsA := hU.size
    have hlt1 := hB1.lt
    refine WC.block ?_
    -- loop 2: live [0, 4, 5]
    refine WC.keep [(0, _), (4, _), (5, _)] ⟨rfl, rfl, rfl, trivial⟩ (WC.loop (fun qq E wA => ∃ (s1 : St) (ks1 : List Tr) (G : Nat → Prop) (v1 : Value) (k1 : Nat), qq = k1 ∧ s1.ts.length ≤ k1 ∧ Upd (At r) w wA ∧ PS wA r B0 A s1 ∧ Pst (opnQ s) s1 ∧ Acc 24 wA (w.heap.size + 1) G v1 ks1 ∧ 0 < ks1.length ∧ ks1.length ≤ 2100 ∧ tnmQ s2.ts.length ks s2 = tnmQ k1 ks1 s1 ∧ Blk wA w.heap.size #[.string ⟨#[]⟩, .int .i64 0, .slice none 0 0] 24 ∧ E = [(0, (.pointer (some ⟨r, 0, none⟩))), (4, .pointer (some ⟨w.heap.size, 0, none⟩)), (5, v1)]) (s2.ts.length) ?_ ?_)
    ·exact ⟨_, _, _, _, _, rfl, Nat.le_refl _, hU, hp, hPst, hac, hk0, hkl, rfl, hB1, rfl⟩
    ·clear hU hp hac hB1 hPst hk0 hkl
     rintro qq E wA ⟨s1, ks1, G, v1, k1, rfl, hk1, hU, hp, hPst, hac, hk0, hkl, htn, hB1, rfl⟩
     obtain ⟨A1, c1, rfl, hcc1⟩ := hac.form
     have hI := hp.I
     have hsC := hU.size
     have hlt1 := hB1.lt
     have hd1 := hPst.1
     refine WC.seq (WC.seq (WC.region (WL.val rfl rfl rfl rfl (r_move rfl (ev_t rfl)) ?_)))
     refine WL.cons (SO.call (kind_ok (k := 1) hp) rfl body_32 ⟨(ev_t rfl), ev_c, trivial⟩ rfl rfl rfl rfl ?_)
     rintro v9 w27 ⟨rfl, hu27⟩
     have hs27 := hu27.size
     replace hU := hU.trans hu27 (by exact (fun _ _ h => h.elim))
     replace hp := hp.upd hu27 (by exact (fun _ _ h => h))
     replace hac := hac.upd hu27 (fun k hk hl hS => by exact (show False from hS).elim)
     replace hB1 := hB1.upd hu27 (by exact (fun h => h))
     refine WL.nil (WX.keep [(0, _), (4, _), (5, _), (95, _)] ⟨rfl, rfl, rfl, rfl, trivial⟩ (WX.next (WC.cond rfl (ev_t rfl) (fun hc18 => ?_) (fun hc18 => ?_))))
     ·obtain ⟨k2, rfl⟩ : ∃ k2, qq = k2 + 1 := ⟨qq - 1, by omega⟩
      rw [tnmQ_step hc18] at htn
      have htl := tlQ_len s1
      refine WC.skip (WX.next (WC.block (WC.seq (WC.region (WL.val rfl rfl rfl rfl (r_move rfl (ev_t rfl)) ?_)))))
      refine WL.cons (SO.call (text_ok9 (k := 1) hp (by decide)) rfl body_82 ⟨(ev_t rfl), ev_c, trivial⟩ rfl rfl rfl rfl ?_)
      rintro v9 w28 ⟨rfl, hp2, hu28⟩
      have hs28 := hu28.size
      replace hU := hU.trans hu28 (by exact (fun _ _ h => h))
      replace hac := hac.upd hu28 (fun k hk hl hS => by (simp only [At] at hS; omega))
      replace hB1 := hB1.upd hu28 (by (simp only [At]; omega))
      have hn9 := (hp.hdG).2.1
      rw [txtQ_T hc18] at hp2
      rw [txtQ_T hc18]
      have hp : PS w28 r B0 A (tlQ s1) := hp2
      refine WL.val rfl rfl rfl rfl (r_assign rfl (ev_t rfl)) ?_
      refine WL.nil (WX.keep [(0, _), (4, _), (5, _), (7, _)] ⟨rfl, rfl, rfl, rfl, trivial⟩ ?_)
      obtain ⟨xs, hrx, hmx⟩ := hac.done (by omega)
      refine WX.next (WC.region (WL.val rfl rfl rfl rfl (r_move rfl (ev_t rfl)) ?_))
      refine WL.val rfl rfl rfl rfl (r_move rfl (ev_t rfl)) ?_
      refine WL.val rfl rfl rfl rfl (r_build (cs := #[_, _, _]) (vs := [(0, _), (2, _)]) rfl ⟨⟨rfl, (ev_t rfl)⟩, ⟨rfl, (ev_t rfl)⟩, trivial⟩ plc_24 zero_24 rfl) ?_
      refine WL.cons (SO.alloc rfl rfl rfl rfl (r_buildSlice (cs := #[_, _, _]) (vs := [(0, _)]) rfl ⟨⟨rfl, (ev_t rfl)⟩, trivial⟩ row_22 rfl rfl) ?_)
      intro w29 hu29 hB29 hz29
      have hs29 := hu29.size
      replace hU := hU.trans hu29 (by exact (fun _ _ h => h.elim))
      replace hB1 := hB1.upd hu29 (by exact (fun h => h))
      replace hp := hp.upd hu29 (by exact (fun _ _ h => h))
      replace hrx := hrx.upd hu29 (fun k hk hl hS => by exact (show False from hS).elim)
      replace hmx := hmx.updA hu29
      refine WL.val rfl rfl rfl rfl (r_assign rfl (ev_t rfl)) ?_
      refine WL.nil (WX.keep [(0, _), (4, _), (5, _)] ⟨rfl, rfl, rfl, trivial⟩ (WX.blockNormal (WX.meet [(0, _), (4, _), (5, _)] ⟨rfl, rfl, rfl, trivial⟩ ?_)))
      have hrow := hB29
      change Blk _ _ #[Sv s1.hd.s, .int .i64 0, .slice A1 ks1.length c1] _ at hrow
      have hlr := hrow.lt
      refine ⟨k2, by omega, _, _, _, _, _, rfl, by omega, hU, hp, hPst.trans (Pst.tl _), Acc.single hrow rfl (TM.tr hrx hmx (by simp [inK]) (by omega)) (fun k hk => by simp only [Bt] at hk; omega) (by omega), by simp, by simp, htn, hB1, rfl⟩
     ·rw [tnmQ_stop hc18] at htn
      refine WC.exit (WX.thenExit (WX.thenExit (WX.blockHere (WX.meet [(0, _), (4, _), (5, _)] ⟨rfl, rfl, rfl, trivial⟩ ?_))))
      first
       | (have hf9 : appB (tq n) vs s = (ks1.headD Tr.z, clsQ s1) := by
            simp only [appB]
            rw [if_pos h0, he9]
            simp only
            rw [htn]
          exact ⟨_, _, _, _, hf9, hPst, hU, hp, hac, hkl, hB1, rfl⟩)
       | (have hf9 : appB (tq n) vs s = (([] : List Tr).headD Tr.z, clsQ (opnQ s)) := by
            simp only [appB]
            rw [if_neg (by simpa using hc2)]
            rfl
          exact ⟨_, _, _, _, hf9, Pst.refl _, hU, hp, Acc.nil _ _, by simp, hB1, rfl⟩)
  ·try simp only [cS, ne_eq, Decidable.not_not] at hc2
   refine WC.skip (WX.meet [(0, _), (4, _), (5, _)] ⟨rfl, rfl, rfl, trivial⟩ ?_)
   first
    | (have hf9 : appB (tq n) vs s = (ks1.headD Tr.z, clsQ s1) := by
         simp only [appB]
         rw [if_pos h0, he9]
         simp only
         rw [htn]
       exact ⟨_, _, _, _, hf9, hPst, hU, hp, hac, hkl, hB1, rfl⟩)
    | (have hf9 : appB (tq n) vs s = (([] : List Tr).headD Tr.z, clsQ (opnQ s)) := by
         simp only [appB]
         rw [if_neg (by simpa using hc2)]
         rfl
       exact ⟨_, _, _, _, hf9, Pst.refl _, hU, hp, Acc.nil _ _, by simp, hB1, rfl⟩)
 ·clear hU hp hv hB1
  rintro E wA ⟨s3, ks, G, v1, he9, hPst, hU, hp, hac, hkl, hB1, rfl⟩
  obtain ⟨A1, c1, rfl, hcc1⟩ := hac.form
  have hsA := hU.size
  have hlt1 := hB1.lt
  have hod := opnQ_d s
  have hd2 := hPst.1
  refine WC.seq (WC.region ?_)
  obtain ⟨FD, bD, offD, cD, zD, badD, hbD, hzD, hrD, hFD, hID⟩ := hp.open
  refine WL.val rfl rfl rfl rfl (r_move rfl (ev_t rfl)) ?_
  refine WL.val rfl rfl rfl rfl (r_nilCheck rfl (ev_t rfl)) ?_
  refine WL.val rfl rfl rfl rfl (r_field0 rfl (ev_t rfl) fld_58_2) ?_
  refine WL.val rfl rfl rfl rfl (r_load rfl (ev_t rfl) flat_3 (Blk.cell hbD rfl)) ?_
  refine WL.val rfl rfl rfl rfl (r_subN rfl (ev_t rfl) ev_c (by simp only [inK]; omega)) ?_
  refine WL.val rfl rfl rfl rfl (r_nilCheck rfl (ev_t rfl)) ?_
  refine WL.val rfl rfl rfl rfl (r_field0 rfl (ev_t rfl) fld_58_2) ?_
  refine WL.cons (SO.store rfl (ev_t rfl) (ev_t rfl) size_3 hbD rfl rfl rfl rfl rfl ?_)
  intro w30 hu30 hbD hz30
  have hs30 := hu30.size
  replace hU := hU.trans hu30 (by exact (fun _ _ h => h))
  replace hB1 := hB1.upd hu30 (by (simp only [At]; omega))
  replace hac := hac.upd hu30 (fun k hk hl hS => by (simp only [At] at hS; omega))
  refine WL.nil (WX.keep [(4, _), (5, _)] ⟨rfl, rfl, trivial⟩ ?_)
  rw [PS.clsB hp (by omega)] at hbD
  have hp9 : PS w30 r B0 A (clsQ s3) := hp.shut hu30 hbD hzD (hrD.upd hu30 (fun k hk hl hS => (hFD k hk).1 hS)) hFD hp.suf hp.fin (by show s3.d - 1 ≤ 52; have := hp.dle; omega) hp.ele
  refine WX.next (WC.seq (WC.seq (WC.region (WL.val rfl rfl rfl rfl (r_move rfl (ev_t rfl)) ?_))))
  refine WL.val rfl rfl rfl rfl (r_lenSlice (ts := #[]) rfl (ev_t rfl) elem_22) ?_
  refine WL.val rfl rfl rfl rfl (r_eql rfl (ev_t rfl) ev_c) ?_
  refine WL.nil (WX.keep [(4, _), (5, _), (111, _)] ⟨rfl, rfl, rfl, trivial⟩ (WX.next (WC.cond rfl (ev_t rfl) (fun hc22 => ?_) (fun hc22 => ?_))))
  ·try simp only [cS, ne_eq, Decidable.not_not] at hc22
   refine WC.seq (WC.region (WL.val rfl rfl rfl rfl (r_build (cs := #[_, _, _]) (vs := []) rfl trivial plc_24 zero_24 rfl) ?_))
   refine WL.cons (SO.storeAll (us := [_, _, _]) rfl (ev_t rfl) (ev_t rfl) size_24 hB1 rfl rfl rfl rfl rfl ?_)
   intro w31 hu31 hB1 hz31
   have hs31 := hu31.size
   replace hU := hU.trans hu31 (by (intro k hl hk; (try simp only [At, New, Grow, From, No] at hk ⊢); omega))
   replace hac := hac.upd hu31 (fun k hk hl hS => by (simp only [At] at hS; omega))
   replace hp9 := hp9.updA hu31
   refine WL.nil (WX.keep [(4, _)] ⟨rfl, trivial⟩ (WX.next (WC.ret (WX.thenRet (WX.retC (vs := [_, _, _]) rfl rfl agg_24 size_24 (Blk.cellsL hB1) ?_)))))
   rw [he9]
   obtain rfl : ks = [] := List.eq_nil_of_length_eq_zero (by omega)
   exact ⟨_, rfl, TM.trz _ _, hp9, hPst.cls, hU⟩
  ·try simp only [cS, ne_eq, Decidable.not_not] at hc22
   obtain ⟨xs, hrx, hmx⟩ := hac.done (by omega)
   have hk0 : 0 < ks.length := by omega
   obtain ⟨b1, o1, rfl, _⟩ := hrx.open hk0
   obtain ⟨k0, hk0g⟩ : ∃ k0, ks[0]? = some k0 := ⟨_, List.getElem?_eq_getElem hk0⟩
   obtain ⟨c0, hx0, ht0⟩ := hmx.get hk0g
   obtain ⟨tn, tv, tks, tA, tp, txs, het, rfl, _⟩ := ht0.mk3
   refine WC.skip (WX.next (WC.seq (WC.region (WL.val rfl rfl rfl rfl (r_move rfl (ev_t rfl)) ?_))))
   refine WL.val rfl rfl rfl rfl (r_indexAddr rfl (ev_t rfl) ev_c elem_22 size_24 (by omega) (by omega)) ?_
   refine WL.val rfl rfl rfl rfl (r_loadAgg (vs := [_, _, _]) rfl (ev_t rfl) agg_24 size_24 (Rd.cellsL (us := [_, _, _]) hrx (i := 0 * 3) (by omega) (fun q v hv => flat_getN hmx.one_len hx0 hv))) ?_
   refine WL.cons (SO.storeAll (us := [_, _, _]) rfl (ev_t rfl) (ev_t rfl) size_24 hB1 rfl rfl rfl rfl rfl ?_)
   intro w32 hu32 hB1 hz32
   have hs32 := hu32.size
   replace hU := hU.trans hu32 (by (intro k hl hk; (try simp only [At, New, Grow, From, No] at hk ⊢); omega))
   replace hp9 := hp9.updA hu32
   replace ht0 := ht0.upd hu32 (fun k hk hl hS => by (simp only [At, Bt] at hS hk; omega))
   refine WL.nil (WX.keep [(4, _)] ⟨rfl, trivial⟩ (WX.next (WC.ret (WX.retC (vs := [_, _, _]) rfl rfl agg_24 size_24 (Blk.cellsL hB1) ?_))))
   rw [he9]
   obtain ⟨kk, rfl⟩ : ∃ kk, ks = k0 :: kk := by
    cases ks with
    | nil => simp at hk0
    | cons a l => exact ⟨l, by simp at hk0g; rw [hk0g]⟩
   exact ⟨_, rfl, ht0.mono fun k hk => by simp only [Bt] at *; omega, hp9, hPst.cls, hU⟩
end Go.Proofs.YtomkdhkkggbioaaGreatDoor

/-
  A slice written out: two elements of four cells.
-/
namespace Go.Proofs.YtomkdhkkggbioaaGreatDoor
open Go
set_option linter.unusedSimpArgs false
set_option linter.unusedVariables false

theorem fill_44 {c : Array Value} (hc : c.size = 8) (a0 a1 a2 a3 b0 b1 b2 b3 : Value) :
    Instr.fill (fun i => some (i * 4, 4)) c [(0, .agg #[a0, a1, a2, a3]), (1, .agg #[b0, b1, b2, b3])] = some #[a0, a1, a2, a3, b0, b1, b2, b3] := by
  have e : ∀ (d : Array Value) (u0 u1 u2 u3 : Value) (k : Nat), (#[u0, u1, u2, u3].zipIdx.foldl (fun cs (x : Value × Nat) => cs.setIfInBounds (k + x.2) x.1) d) = (((d.setIfInBounds (k + 0) u0).setIfInBounds (k + 1) u1).setIfInBounds (k + 2) u2).setIfInBounds (k + 3) u3 := fun d u0 u1 u2 u3 k => rfl
  obtain ⟨l⟩ := c
  match l, hc with
  | [c0, c1, c2, c3, c4, c5, c6, c7], _ =>
    have hA : ∀ u0 u1 u2 u3 : Value, (Value.agg #[u0, u1, u2, u3]).cells = #[u0, u1, u2, u3] := fun _ _ _ _ => by simp [Value.cells]
    simp [Instr.fill, hA]

section
variable {P : Program} {E : Env} {o : Oper} {w : World}
theorem r_buildSlice44 {t e : TypeId} {by_ : Nat} {z : Value} {x y : Operand} {a0 a1 a2 a3 b0 b1 b2 b3 : Value} (ho : o.op = .buildSlice t 2 #[(0, x), (1, y)]) (hx : Env.ev E x = .agg #[a0, a1, a2, a3]) (hy : Env.ev E y = .agg #[b0, b1, b2, b3]) (hr : RowT P t e 4 by_ z) :
    (execOp (Env.ev E) o).run P w = .ok (.value (.slice (some ⟨w.heap.size, 0, none⟩) 2 2)) (w.alloc (.cells #[a0, a1, a2, a3, b0, b1, b2, b3] e)) := by
  refine r_buildSlice (vs := [(0, .agg #[a0, a1, a2, a3]), (1, .agg #[b0, b1, b2, b3])]) ho ⟨⟨rfl, hx⟩, ⟨rfl, hy⟩, trivial⟩ hr rfl ?_
  refine fill_44 ?_ _ _ _ _ _ _ _ _
  simp [rowCells, hr.cells]
end
end Go.Proofs.YtomkdhkkggbioaaGreatDoor

/-
 The reference's parser: patterns, those with :: and what is open about one.
-/
namespace Go.Proofs.YtomkdhkkggbioaaGreatDoor
open Go
set_option linter.unusedSimpArgs false
set_option linter.unusedVariables false

theorem pbegins_ok {w : World} {r B0 : Nat} {A : List Tok} {s : St} (hp : PS w r B0 A s) : Ret Tryz.prog 138 #[.pointer (some ⟨r, 0, none⟩)] w fun v w' => v = .bool (pbegQ s) ∧ Upd No w w' := by
 refine enterRet (vs := [_]) (N := 41) Tryz.func138 rfl rfl rfl ?_
 have hU := Upd.refl No w
 refine WC.keep [(0, _)] ⟨rfl, trivial⟩ (WC.seq (WC.region (WL.val rfl rfl rfl rfl (r_assign rfl ev_c) ?_)))
 refine WL.nil (WX.keep [(0, _)] ⟨rfl, trivial⟩ (WX.next (WC.seq (WC.region (WL.val rfl rfl rfl rfl (r_move rfl (ev_t rfl)) ?_)))))
 refine WL.cons (SO.call (kind_ok (k := 1) hp) rfl body_32 ⟨(ev_t rfl), ev_c, trivial⟩ rfl rfl rfl rfl ?_)
 rintro v9 w1 ⟨rfl, hu1⟩
 have hs1 := hu1.size
 replace hU := hU.transA hu1
 replace hp := hp.upd hu1 (fun _ _ h => h)
 refine WL.val rfl rfl rfl rfl (r_move rfl (ev_t rfl)) ?_
 refine WL.cases 5 rfl (fun hb1_2 => ?_) (fun hb1_2 => ?_)
 ·refine WL.skip rfl rfl rfl (WL.skip rfl rfl rfl (WL.val rfl rfl rfl rfl (r_pickT rfl (ev_t rfl) ev_c) ?_))
  refine WL.val rfl rfl rfl rfl (r_move rfl (ev_t rfl)) ?_
  refine WL.skip rfl rfl rfl (WL.skip rfl rfl rfl (WL.val rfl rfl rfl rfl (r_pickT rfl (ev_t rfl) ev_c) ?_))
  refine WL.val rfl rfl rfl rfl (r_move rfl (ev_t rfl)) ?_
  refine WL.skip rfl rfl rfl (WL.skip rfl rfl rfl (WL.val rfl rfl rfl rfl (r_pickT rfl (ev_t rfl) ev_c) ?_))
  refine WL.val rfl rfl rfl rfl (r_move rfl (ev_t rfl)) ?_
  refine WL.skip rfl rfl rfl (WL.skip rfl rfl rfl (WL.val rfl rfl rfl rfl (r_pickT rfl (ev_t rfl) ev_c) ?_))
  refine WL.val rfl rfl rfl rfl (r_move rfl (ev_t rfl)) ?_
  refine WL.skip rfl rfl rfl (WL.skip rfl rfl rfl (WL.val rfl rfl rfl rfl (r_pickT rfl (ev_t rfl) ev_c) ?_))
  refine WL.val rfl rfl rfl rfl (r_move rfl (ev_t rfl)) ?_
  refine WL.skip rfl rfl rfl (WL.skip rfl rfl rfl (WL.val rfl rfl rfl rfl (r_pickT rfl (ev_t rfl) ev_c) ?_))
  refine WL.val rfl rfl rfl rfl (r_move rfl (ev_t rfl)) ?_
  refine WL.skip rfl rfl rfl (WL.skip rfl rfl rfl (WL.val rfl rfl rfl rfl (r_pickT rfl (ev_t rfl) ev_c) ?_))
  refine WL.val rfl rfl rfl rfl (r_move rfl (ev_t rfl)) ?_
  refine WL.skip rfl rfl rfl (WL.skip rfl rfl rfl (WL.val rfl rfl rfl rfl (r_pickT rfl (ev_t rfl) ev_c) ?_))
  refine WL.val rfl rfl rfl rfl (r_move rfl (ev_t rfl)) ?_
  refine WL.skip rfl rfl rfl (WL.skip rfl rfl rfl (WL.val rfl rfl rfl rfl (r_pickT rfl (ev_t rfl) ev_c) ?_))
  refine WL.val rfl rfl rfl rfl (r_assign rfl (ev_t rfl)) ?_
  refine WL.nil (WX.keep [(2, _)] ⟨rfl, trivial⟩ (WX.next (WC.ret (WX.retE1 rfl rfl ?_))))
  refine ⟨?_, hU⟩
  congr 1
  unfold pbegQ
  simp_all
 ·refine WL.val rfl rfl rfl rfl (r_move rfl (ev_t rfl)) ?_
  refine WL.cons (SO.call (kind_ok (k := 2) hp) rfl body_32 ⟨(ev_t rfl), ev_c, trivial⟩ rfl rfl rfl rfl ?_)
  rintro v9 w2 ⟨rfl, hu2⟩
  have hs2 := hu2.size
  replace hU := hU.transA hu2
  replace hp := hp.upd hu2 (fun _ _ h => h)
  refine WL.val rfl rfl rfl rfl (r_pickF rfl (ev_t rfl) (ev_t rfl)) ?_
  refine WL.val rfl rfl rfl rfl (r_move rfl (ev_t rfl)) ?_
  refine WL.cases 9 rfl (fun hb1_6 => ?_) (fun hb1_6 => ?_)
  ·refine WL.skip rfl rfl rfl (WL.skip rfl rfl rfl (WL.val rfl rfl rfl rfl (r_pickT rfl (ev_t rfl) ev_c) ?_))
   refine WL.val rfl rfl rfl rfl (r_move rfl (ev_t rfl)) ?_
   refine WL.skip rfl rfl rfl (WL.skip rfl rfl rfl (WL.val rfl rfl rfl rfl (r_pickT rfl (ev_t rfl) ev_c) ?_))
   refine WL.val rfl rfl rfl rfl (r_move rfl (ev_t rfl)) ?_
   refine WL.skip rfl rfl rfl (WL.skip rfl rfl rfl (WL.val rfl rfl rfl rfl (r_pickT rfl (ev_t rfl) ev_c) ?_))
   refine WL.val rfl rfl rfl rfl (r_move rfl (ev_t rfl)) ?_
   refine WL.skip rfl rfl rfl (WL.skip rfl rfl rfl (WL.val rfl rfl rfl rfl (r_pickT rfl (ev_t rfl) ev_c) ?_))
   refine WL.val rfl rfl rfl rfl (r_move rfl (ev_t rfl)) ?_
   refine WL.skip rfl rfl rfl (WL.skip rfl rfl rfl (WL.val rfl rfl rfl rfl (r_pickT rfl (ev_t rfl) ev_c) ?_))
   refine WL.val rfl rfl rfl rfl (r_move rfl (ev_t rfl)) ?_
   refine WL.skip rfl rfl rfl (WL.skip rfl rfl rfl (WL.val rfl rfl rfl rfl (r_pickT rfl (ev_t rfl) ev_c) ?_))
   refine WL.val rfl rfl rfl rfl (r_move rfl (ev_t rfl)) ?_
   refine WL.skip rfl rfl rfl (WL.skip rfl rfl rfl (WL.val rfl rfl rfl rfl (r_pickT rfl (ev_t rfl) ev_c) ?_))
   refine WL.val rfl rfl rfl rfl (r_move rfl (ev_t rfl)) ?_
   refine WL.skip rfl rfl rfl (WL.skip rfl rfl rfl (WL.val rfl rfl rfl rfl (r_pickT rfl (ev_t rfl) ev_c) ?_))
   refine WL.val rfl rfl rfl rfl (r_assign rfl (ev_t rfl)) ?_
   refine WL.nil (WX.keep [(2, _)] ⟨rfl, trivial⟩ (WX.next (WC.ret (WX.retE1 rfl rfl ?_))))
   refine ⟨?_, hU⟩
   congr 1
   unfold pbegQ
   simp_all
  ·refine WL.val rfl rfl rfl rfl (r_move rfl (ev_t rfl)) ?_
   refine WL.cons (SO.call (kind_ok (k := 4) hp) rfl body_32 ⟨(ev_t rfl), ev_c, trivial⟩ rfl rfl rfl rfl ?_)
   rintro v9 w3 ⟨rfl, hu3⟩
   have hs3 := hu3.size
   replace hU := hU.transA hu3
   replace hp := hp.upd hu3 (fun _ _ h => h)
   refine WL.val rfl rfl rfl rfl (r_pickF rfl (ev_t rfl) (ev_t rfl)) ?_
   refine WL.val rfl rfl rfl rfl (r_move rfl (ev_t rfl)) ?_
   refine WL.cases 13 rfl (fun hb1_10 => ?_) (fun hb1_10 => ?_)
   ·refine WL.skip rfl rfl rfl (WL.skip rfl rfl rfl (WL.val rfl rfl rfl rfl (r_pickT rfl (ev_t rfl) ev_c) ?_))
    refine WL.val rfl rfl rfl rfl (r_move rfl (ev_t rfl)) ?_
    refine WL.skip rfl rfl rfl (WL.skip rfl rfl rfl (WL.val rfl rfl rfl rfl (r_pickT rfl (ev_t rfl) ev_c) ?_))
    refine WL.val rfl rfl rfl rfl (r_move rfl (ev_t rfl)) ?_
    refine WL.skip rfl rfl rfl (WL.skip rfl rfl rfl (WL.val rfl rfl rfl rfl (r_pickT rfl (ev_t rfl) ev_c) ?_))
    refine WL.val rfl rfl rfl rfl (r_move rfl (ev_t rfl)) ?_
    refine WL.skip rfl rfl rfl (WL.skip rfl rfl rfl (WL.val rfl rfl rfl rfl (r_pickT rfl (ev_t rfl) ev_c) ?_))
    refine WL.val rfl rfl rfl rfl (r_move rfl (ev_t rfl)) ?_
    refine WL.skip rfl rfl rfl (WL.skip rfl rfl rfl (WL.val rfl rfl rfl rfl (r_pickT rfl (ev_t rfl) ev_c) ?_))
    refine WL.val rfl rfl rfl rfl (r_move rfl (ev_t rfl)) ?_
    refine WL.skip rfl rfl rfl (WL.skip rfl rfl rfl (WL.val rfl rfl rfl rfl (r_pickT rfl (ev_t rfl) ev_c) ?_))
    refine WL.val rfl rfl rfl rfl (r_move rfl (ev_t rfl)) ?_
    refine WL.skip rfl rfl rfl (WL.skip rfl rfl rfl (WL.val rfl rfl rfl rfl (r_pickT rfl (ev_t rfl) ev_c) ?_))
    refine WL.val rfl rfl rfl rfl (r_assign rfl (ev_t rfl)) ?_
    refine WL.nil (WX.keep [(2, _)] ⟨rfl, trivial⟩ (WX.next (WC.ret (WX.retE1 rfl rfl ?_))))
    refine ⟨?_, hU⟩
    congr 1
    unfold pbegQ
    simp_all
   ·refine WL.val rfl rfl rfl rfl (r_move rfl (ev_t rfl)) ?_
    refine WL.cons (SO.call (kind_ok (k := 5) hp) rfl body_32 ⟨(ev_t rfl), ev_c, trivial⟩ rfl rfl rfl rfl ?_)
    rintro v9 w4 ⟨rfl, hu4⟩
    have hs4 := hu4.size
    replace hU := hU.transA hu4
    replace hp := hp.upd hu4 (fun _ _ h => h)
    refine WL.val rfl rfl rfl rfl (r_pickF rfl (ev_t rfl) (ev_t rfl)) ?_
    refine WL.val rfl rfl rfl rfl (r_move rfl (ev_t rfl)) ?_
    refine WL.cases 17 rfl (fun hb1_14 => ?_) (fun hb1_14 => ?_)
    ·refine WL.skip rfl rfl rfl (WL.skip rfl rfl rfl (WL.val rfl rfl rfl rfl (r_pickT rfl (ev_t rfl) ev_c) ?_))
     refine WL.val rfl rfl rfl rfl (r_move rfl (ev_t rfl)) ?_
     refine WL.skip rfl rfl rfl (WL.skip rfl rfl rfl (WL.val rfl rfl rfl rfl (r_pickT rfl (ev_t rfl) ev_c) ?_))
     refine WL.val rfl rfl rfl rfl (r_move rfl (ev_t rfl)) ?_
     refine WL.skip rfl rfl rfl (WL.skip rfl rfl rfl (WL.val rfl rfl rfl rfl (r_pickT rfl (ev_t rfl) ev_c) ?_))
     refine WL.val rfl rfl rfl rfl (r_move rfl (ev_t rfl)) ?_
     refine WL.skip rfl rfl rfl (WL.skip rfl rfl rfl (WL.val rfl rfl rfl rfl (r_pickT rfl (ev_t rfl) ev_c) ?_))
     refine WL.val rfl rfl rfl rfl (r_move rfl (ev_t rfl)) ?_
     refine WL.skip rfl rfl rfl (WL.skip rfl rfl rfl (WL.val rfl rfl rfl rfl (r_pickT rfl (ev_t rfl) ev_c) ?_))
     refine WL.val rfl rfl rfl rfl (r_move rfl (ev_t rfl)) ?_
     refine WL.skip rfl rfl rfl (WL.skip rfl rfl rfl (WL.val rfl rfl rfl rfl (r_pickT rfl (ev_t rfl) ev_c) ?_))
     refine WL.val rfl rfl rfl rfl (r_assign rfl (ev_t rfl)) ?_
     refine WL.nil (WX.keep [(2, _)] ⟨rfl, trivial⟩ (WX.next (WC.ret (WX.retE1 rfl rfl ?_))))
     refine ⟨?_, hU⟩
     congr 1
     unfold pbegQ
     simp_all
    ·refine WL.val rfl rfl rfl rfl (r_move rfl (ev_t rfl)) ?_
     refine WL.cons (SO.call (is_ok (u := [40]) hp) rfl body_34 ⟨(ev_t rfl), ev_c, trivial⟩ rfl rfl rfl rfl ?_)
     rintro v9 w5 ⟨rfl, hu5⟩
     have hs5 := hu5.size
     replace hU := hU.transA hu5
     replace hp := hp.upd hu5 (fun _ _ h => h)
     refine WL.val rfl rfl rfl rfl (r_pickF rfl (ev_t rfl) (ev_t rfl)) ?_
     refine WL.val rfl rfl rfl rfl (r_move rfl (ev_t rfl)) ?_
     refine WL.cases 21 rfl (fun hb1_18 => ?_) (fun hb1_18 => ?_)
     ·refine WL.skip rfl rfl rfl (WL.skip rfl rfl rfl (WL.val rfl rfl rfl rfl (r_pickT rfl (ev_t rfl) ev_c) ?_))
      refine WL.val rfl rfl rfl rfl (r_move rfl (ev_t rfl)) ?_
      refine WL.skip rfl rfl rfl (WL.skip rfl rfl rfl (WL.val rfl rfl rfl rfl (r_pickT rfl (ev_t rfl) ev_c) ?_))
      refine WL.val rfl rfl rfl rfl (r_move rfl (ev_t rfl)) ?_
      refine WL.skip rfl rfl rfl (WL.skip rfl rfl rfl (WL.val rfl rfl rfl rfl (r_pickT rfl (ev_t rfl) ev_c) ?_))
      refine WL.val rfl rfl rfl rfl (r_move rfl (ev_t rfl)) ?_
      refine WL.skip rfl rfl rfl (WL.skip rfl rfl rfl (WL.val rfl rfl rfl rfl (r_pickT rfl (ev_t rfl) ev_c) ?_))
      refine WL.val rfl rfl rfl rfl (r_move rfl (ev_t rfl)) ?_
      refine WL.skip rfl rfl rfl (WL.skip rfl rfl rfl (WL.val rfl rfl rfl rfl (r_pickT rfl (ev_t rfl) ev_c) ?_))
      refine WL.val rfl rfl rfl rfl (r_assign rfl (ev_t rfl)) ?_
      refine WL.nil (WX.keep [(2, _)] ⟨rfl, trivial⟩ (WX.next (WC.ret (WX.retE1 rfl rfl ?_))))
      refine ⟨?_, hU⟩
      congr 1
      unfold pbegQ
      simp_all
     ·refine WL.val rfl rfl rfl rfl (r_move rfl (ev_t rfl)) ?_
      refine WL.cons (SO.call (is_ok (u := [91]) hp) rfl body_34 ⟨(ev_t rfl), ev_c, trivial⟩ rfl rfl rfl rfl ?_)
      rintro v9 w6 ⟨rfl, hu6⟩
      have hs6 := hu6.size
      replace hU := hU.transA hu6
      replace hp := hp.upd hu6 (fun _ _ h => h)
      refine WL.val rfl rfl rfl rfl (r_pickF rfl (ev_t rfl) (ev_t rfl)) ?_
      refine WL.val rfl rfl rfl rfl (r_move rfl (ev_t rfl)) ?_
      refine WL.cases 25 rfl (fun hb1_22 => ?_) (fun hb1_22 => ?_)
      ·refine WL.skip rfl rfl rfl (WL.skip rfl rfl rfl (WL.val rfl rfl rfl rfl (r_pickT rfl (ev_t rfl) ev_c) ?_))
       refine WL.val rfl rfl rfl rfl (r_move rfl (ev_t rfl)) ?_
       refine WL.skip rfl rfl rfl (WL.skip rfl rfl rfl (WL.val rfl rfl rfl rfl (r_pickT rfl (ev_t rfl) ev_c) ?_))
       refine WL.val rfl rfl rfl rfl (r_move rfl (ev_t rfl)) ?_
       refine WL.skip rfl rfl rfl (WL.skip rfl rfl rfl (WL.val rfl rfl rfl rfl (r_pickT rfl (ev_t rfl) ev_c) ?_))
       refine WL.val rfl rfl rfl rfl (r_move rfl (ev_t rfl)) ?_
       refine WL.skip rfl rfl rfl (WL.skip rfl rfl rfl (WL.val rfl rfl rfl rfl (r_pickT rfl (ev_t rfl) ev_c) ?_))
       refine WL.val rfl rfl rfl rfl (r_assign rfl (ev_t rfl)) ?_
       refine WL.nil (WX.keep [(2, _)] ⟨rfl, trivial⟩ (WX.next (WC.ret (WX.retE1 rfl rfl ?_))))
       refine ⟨?_, hU⟩
       congr 1
       unfold pbegQ
       simp_all
      ·refine WL.val rfl rfl rfl rfl (r_move rfl (ev_t rfl)) ?_
       refine WL.cons (SO.call (is_ok (u := [95]) hp) rfl body_34 ⟨(ev_t rfl), ev_c, trivial⟩ rfl rfl rfl rfl ?_)
       rintro v9 w7 ⟨rfl, hu7⟩
       have hs7 := hu7.size
       replace hU := hU.transA hu7
       replace hp := hp.upd hu7 (fun _ _ h => h)
       refine WL.val rfl rfl rfl rfl (r_pickF rfl (ev_t rfl) (ev_t rfl)) ?_
       refine WL.val rfl rfl rfl rfl (r_move rfl (ev_t rfl)) ?_
       refine WL.cases 29 rfl (fun hb1_26 => ?_) (fun hb1_26 => ?_)
       ·refine WL.skip rfl rfl rfl (WL.skip rfl rfl rfl (WL.val rfl rfl rfl rfl (r_pickT rfl (ev_t rfl) ev_c) ?_))
        refine WL.val rfl rfl rfl rfl (r_move rfl (ev_t rfl)) ?_
        refine WL.skip rfl rfl rfl (WL.skip rfl rfl rfl (WL.val rfl rfl rfl rfl (r_pickT rfl (ev_t rfl) ev_c) ?_))
        refine WL.val rfl rfl rfl rfl (r_move rfl (ev_t rfl)) ?_
        refine WL.skip rfl rfl rfl (WL.skip rfl rfl rfl (WL.val rfl rfl rfl rfl (r_pickT rfl (ev_t rfl) ev_c) ?_))
        refine WL.val rfl rfl rfl rfl (r_assign rfl (ev_t rfl)) ?_
        refine WL.nil (WX.keep [(2, _)] ⟨rfl, trivial⟩ (WX.next (WC.ret (WX.retE1 rfl rfl ?_))))
        refine ⟨?_, hU⟩
        congr 1
        unfold pbegQ
        simp_all
       ·refine WL.val rfl rfl rfl rfl (r_move rfl (ev_t rfl)) ?_
        refine WL.cons (SO.call (is_ok (u := [116, 114, 117, 101]) hp) rfl body_34 ⟨(ev_t rfl), ev_c, trivial⟩ rfl rfl rfl rfl ?_)
        rintro v9 w8 ⟨rfl, hu8⟩
        have hs8 := hu8.size
        replace hU := hU.transA hu8
        replace hp := hp.upd hu8 (fun _ _ h => h)
        refine WL.val rfl rfl rfl rfl (r_pickF rfl (ev_t rfl) (ev_t rfl)) ?_
        refine WL.val rfl rfl rfl rfl (r_move rfl (ev_t rfl)) ?_
        refine WL.cases 33 rfl (fun hb1_30 => ?_) (fun hb1_30 => ?_)
        ·refine WL.skip rfl rfl rfl (WL.skip rfl rfl rfl (WL.val rfl rfl rfl rfl (r_pickT rfl (ev_t rfl) ev_c) ?_))
         refine WL.val rfl rfl rfl rfl (r_move rfl (ev_t rfl)) ?_
         refine WL.skip rfl rfl rfl (WL.skip rfl rfl rfl (WL.val rfl rfl rfl rfl (r_pickT rfl (ev_t rfl) ev_c) ?_))
         refine WL.val rfl rfl rfl rfl (r_assign rfl (ev_t rfl)) ?_
         refine WL.nil (WX.keep [(2, _)] ⟨rfl, trivial⟩ (WX.next (WC.ret (WX.retE1 rfl rfl ?_))))
         refine ⟨?_, hU⟩
         congr 1
         unfold pbegQ
         simp_all
        ·refine WL.val rfl rfl rfl rfl (r_move rfl (ev_t rfl)) ?_
         refine WL.cons (SO.call (is_ok (u := [102, 97, 108, 115, 101]) hp) rfl body_34 ⟨(ev_t rfl), ev_c, trivial⟩ rfl rfl rfl rfl ?_)
         rintro v9 w9 ⟨rfl, hu9⟩
         have hs9 := hu9.size
         replace hU := hU.transA hu9
         replace hp := hp.upd hu9 (fun _ _ h => h)
         refine WL.val rfl rfl rfl rfl (r_pickF rfl (ev_t rfl) (ev_t rfl)) ?_
         refine WL.val rfl rfl rfl rfl (r_move rfl (ev_t rfl)) ?_
         refine WL.cases 37 rfl (fun hb1_34 => ?_) (fun hb1_34 => ?_)
         ·refine WL.skip rfl rfl rfl (WL.skip rfl rfl rfl (WL.val rfl rfl rfl rfl (r_pickT rfl (ev_t rfl) ev_c) ?_))
          refine WL.val rfl rfl rfl rfl (r_assign rfl (ev_t rfl)) ?_
          refine WL.nil (WX.keep [(2, _)] ⟨rfl, trivial⟩ (WX.next (WC.ret (WX.retE1 rfl rfl ?_))))
          refine ⟨?_, hU⟩
          congr 1
          unfold pbegQ
          simp_all
         ·refine WL.val rfl rfl rfl rfl (r_move rfl (ev_t rfl)) ?_
          refine WL.cons (SO.call (is_ok (u := [45]) hp) rfl body_34 ⟨(ev_t rfl), ev_c, trivial⟩ rfl rfl rfl rfl ?_)
          rintro v9 w10 ⟨rfl, hu10⟩
          have hs10 := hu10.size
          replace hU := hU.transA hu10
          replace hp := hp.upd hu10 (fun _ _ h => h)
          refine WL.val rfl rfl rfl rfl (r_pickF rfl (ev_t rfl) (ev_t rfl)) ?_
          refine WL.val rfl rfl rfl rfl (r_assign rfl (ev_t rfl)) ?_
          refine WL.nil (WX.keep [(2, _)] ⟨rfl, trivial⟩ (WX.next (WC.ret (WX.retE1 rfl rfl ?_))))
          refine ⟨?_, hU⟩
          congr 1
          unfold pbegQ
          simp_all
theorem patom_ok {n : Nat} (ih : PC 150 (pthB (pq n)) n) : PC 139 (pq (n + 1)).patom (n + 1) := by
 intro w r B0 A s hp hd hn
 obtain ⟨hI1, hI2, hI3, hI4, hI5⟩ := hp.I
 show Ret _ _ _ _ fun v w' => ∃ c, v = .agg c.toArray ∧ TM w' (Bt w.heap.size w'.heap.size) c (patB (pq n) s).1 ∧ PS w' r B0 A (patB (pq n) s).2 ∧ Pst s (patB (pq n) s).2 ∧ Upd (At r) w w'
 have hod := opnQ_d s
 refine enterRet (vs := [_]) (N := 16) Tryz.func139 rfl rfl rfl ?_
 have hU := Upd.refl (At r) w
 refine WC.keep [(0, _)] ⟨rfl, trivial⟩ (WC.seq (WC.region (WL.cons (SO.alloc rfl rfl rfl rfl (r_alloc rfl zero_72) ?_))))
 intro w1 hu1 hB1 hz1
 have hs1 := hu1.size
 replace hU := hU.trans hu1 (by exact (fun _ _ h => h.elim))
 replace hp := hp.upd hu1 (by exact (fun _ _ h => h))
 refine WL.nil (WX.keep [(0, _), (2, _)] ⟨rfl, rfl, trivial⟩ (WX.next (WC.seq (WC.region (WL.cons (SO.alloc rfl rfl rfl rfl (r_alloc rfl zero_72) ?_))))))
 intro w2 hu2 hB2 hz2
 have hs2 := hu2.size
 replace hU := hU.trans hu2 (by exact (fun _ _ h => h.elim))
 replace hp := hp.upd hu2 (by exact (fun _ _ h => h))
 replace hB1 := hB1.upd hu2 (by exact (fun h => h))
 refine WL.nil (WX.keep [(0, _), (2, _), (3, _)] ⟨rfl, rfl, rfl, trivial⟩ (WX.next ?_))
 -- cut 2: live [0, 2, 3]
 refine WC.cut (fun E wA => ∃ (y0 y1 y2 y3 : Value) (x : Pt) (s2 : St), patB (pq n) s = (x, clsQ s2) ∧ Pst (opnQ s) s2 ∧ Upd (At r) w wA ∧ PS wA r B0 A s2 ∧ TM wA (Bt (w.heap.size + 2) wA.heap.size) [y0, y1, y2, y3] x ∧ Blk wA w.heap.size #[.int .u8 0, .string ⟨#[]⟩, .int .i64 0, .slice none 0 0] 72 ∧ Blk wA w1.heap.size #[y0, y1, y2, y3] 72 ∧ E = [(0, (.pointer (some ⟨r, 0, none⟩))), (2, .pointer (some ⟨w.heap.size, 0, none⟩)), (3, .pointer (some ⟨w1.heap.size, 0, none⟩))]) ?_ ?_
 ·refine WC.seq (WC.region (WL.val rfl rfl rfl rfl (r_move rfl (ev_t rfl)) ?_))
  refine WL.cons (SO.call (open_ok9 hp hd) rfl body_87 ⟨(ev_t rfl), trivial⟩ rfl rfl rfl rfl ?_)
  rintro v9 w3 ⟨rfl, hp2, hu3⟩
  have hs3 := hu3.size
  replace hU := hU.trans hu3 (by exact (fun _ _ h => h))
  replace hB1 := hB1.upd hu3 (by (simp only [At]; omega))
  replace hB2 := hB2.upd hu3 (by (simp only [At]; omega))
  have hp := hp2
  refine WL.nil (WX.keep [(0, _), (2, _), (3, _), (5, _)] ⟨rfl, rfl, rfl, rfl, trivial⟩ (WX.next (WC.cond rfl (ev_t rfl) (fun hc2 => ?_) (fun hc2 => ?_))))
  ·try simp only [cS, ne_eq, Decidable.not_not] at hc2
   have h0 : (opnQ s).e = 0 := by simpa using hc2
   have hd5 := opnQ_ok h0
   refine WC.region (WL.val rfl rfl rfl rfl (r_move rfl (ev_t rfl)) ?_)
   refine WL.cons (SO.call (ih _ _ _ _ _ hp (by (try simp only [tlQ_d, musQ_d, takQ_d, txtQ_d]); omega) (by (try simp only [tlQ_d, musQ_d, takQ_d, txtQ_d]); omega)) rfl body_150 ⟨(ev_t rfl), trivial⟩ rfl rfl rfl rfl ?_)
   rintro v9 w4 ⟨c9, rfl, ht, hp2, hst, hu4⟩
   have hs4 := hu4.size
   replace hU := hU.trans hu4 (by exact (fun _ _ h => h))
   replace hB1 := hB1.upd hu4 (by (simp only [At]; omega))
   replace hB2 := hB2.upd hu4 (by (simp only [At]; omega))
   have hp := hp2
   have hsd := hst.1
   try simp only [tlQ_d, musQ_d, takQ_d, txtQ_d] at hsd
   obtain ⟨tk, ts, tn, tks, tA, tp, txs, het, rfl, _⟩ := ht.mk4
   refine WL.cons (SO.storeAll (us := [_, _, _, _]) rfl (ev_t rfl) (ev_t rfl) size_72 hB2 rfl rfl rfl rfl rfl ?_)
   intro w5 hu5 hB2 hz5
   have hs5 := hu5.size
   replace hU := hU.trans hu5 (by (intro k hl hk; (try simp only [At, New, Grow, From, No] at hk ⊢); omega))
   replace hB1 := hB1.upd hu5 (by (simp only [At]; omega))
   replace hp := hp.upd hu5 (by (intro k hk hS; first | (simp only [At] at hS; omega) | (have := hG k hS; omega)))
   replace ht := ht.upd hu5 (fun k hk hl hS => by (simp only [At, Bt] at hS hk; omega))
   refine WL.nil (WX.keep [(0, _), (2, _), (3, _)] ⟨rfl, rfl, rfl, trivial⟩ (WX.meet [(0, _), (2, _), (3, _)] ⟨rfl, rfl, rfl, trivial⟩ ?_))
   first
    | (have he9 : patB (pq n) s = ((pthB (pq n) (opnQ s)).1, clsQ (pthB (pq n) (opnQ s)).2) := by
         simp only [patB]
         rw [if_pos h0]
       exact ⟨_, _, _, _, _, _, he9, hst, hU, hp, ht.mono fun k hk => by simp only [Bt] at *; omega, hB1, hB2, rfl⟩)
    | (have he9 : patB (pq n) s = (Pt.z, clsQ (opnQ s)) := by
         simp only [patB]
         rw [if_neg (by simpa using hc2)]
       exact ⟨_, _, _, _, _, _, he9, Pst.refl _, hU, hp, TM.pt0 (by simp [inK]), hB1, hB2, rfl⟩)
  ·try simp only [cS, ne_eq, Decidable.not_not] at hc2
   refine WC.skip (WX.meet [(0, _), (2, _), (3, _)] ⟨rfl, rfl, rfl, trivial⟩ ?_)
   first
    | (have he9 : patB (pq n) s = ((pthB (pq n) (opnQ s)).1, clsQ (pthB (pq n) (opnQ s)).2) := by
         simp only [patB]
         rw [if_pos h0]
       exact ⟨_, _, _, _, _, _, he9, hst, hU, hp, ht.mono fun k hk => by simp only [Bt] at *; omega, hB1, hB2, rfl⟩)
    | (have he9 : patB (pq n) s = (Pt.z, clsQ (opnQ s)) := by
         simp only [patB]
         rw [if_neg (by simpa using hc2)]
       exact ⟨_, _, _, _, _, _, he9, Pst.refl _, hU, hp, TM.pt0 (by simp [inK]), hB1, hB2, rfl⟩)
 ·clear hU hp hB1 hB2
  rintro E wA ⟨y0, y1, y2, y3, x, s2, he9, hPst, hU, hp, ht, hB1, hB2, rfl⟩
  have hsA := hU.size
  have hlt1 := hB1.lt
  have hlt2 := hB2.lt
  have hd2 := hPst.1
  obtain ⟨tk, ts, tn, tks, tA, tp, txs, het, hcs9, _⟩ := ht.mk4
  obtain ⟨rfl, rfl, rfl, rfl⟩ : y0 = _ ∧ y1 = _ ∧ y2 = _ ∧ y3 = _ := by simpa using hcs9
  refine WC.seq (WC.region ?_)
  obtain ⟨FD, bD, offD, cD, zD, badD, hbD, hzD, hrD, hFD, hID⟩ := hp.open
  refine WL.val rfl rfl rfl rfl (r_move rfl (ev_t rfl)) ?_
  refine WL.val rfl rfl rfl rfl (r_nilCheck rfl (ev_t rfl)) ?_
  refine WL.val rfl rfl rfl rfl (r_field0 rfl (ev_t rfl) fld_58_2) ?_
  refine WL.val rfl rfl rfl rfl (r_load rfl (ev_t rfl) flat_3 (Blk.cell hbD rfl)) ?_
  refine WL.val rfl rfl rfl rfl (r_subN rfl (ev_t rfl) ev_c (by simp only [inK]; omega)) ?_
  refine WL.val rfl rfl rfl rfl (r_nilCheck rfl (ev_t rfl)) ?_
  refine WL.val rfl rfl rfl rfl (r_field0 rfl (ev_t rfl) fld_58_2) ?_
  refine WL.cons (SO.store rfl (ev_t rfl) (ev_t rfl) size_3 hbD rfl rfl rfl rfl rfl ?_)
  intro w6 hu6 hbD hz6
  have hs6 := hu6.size
  replace hU := hU.trans hu6 (by exact (fun _ _ h => h))
  replace hB1 := hB1.upd hu6 (by (simp only [At]; omega))
  replace hB2 := hB2.upd hu6 (by (simp only [At]; omega))
  replace ht := ht.upd hu6 (fun k hk hl hS => by (simp only [At, Bt] at hS hk; omega))
  refine WL.nil (WX.keep [(2, _), (3, _)] ⟨rfl, rfl, trivial⟩ ?_)
  rw [PS.clsB hp (by omega)] at hbD
  have hp9 : PS w6 r B0 A (clsQ s2) := hp.shut hu6 hbD hzD (hrD.upd hu6 (fun k hk hl hS => (hFD k hk).1 hS)) hFD hp.suf hp.fin (by show s2.d - 1 ≤ 52; have := hp.dle; omega) hp.ele
  refine WX.next (WC.seq (WC.region (WL.val rfl rfl rfl rfl (r_loadAgg (vs := [_, _, _, _]) rfl (ev_t rfl) agg_72 size_72 (Blk.cellsL hB2)) ?_)))
  refine WL.cons (SO.storeAll (us := [_, _, _, _]) rfl (ev_t rfl) (ev_t rfl) size_72 hB1 rfl rfl rfl rfl rfl ?_)
  intro w7 hu7 hB1 hz7
  have hs7 := hu7.size
  replace hU := hU.trans hu7 (by (intro k hl hk; (try simp only [At, New, Grow, From, No] at hk ⊢); omega))
  replace hB2 := hB2.upd hu7 (by (simp only [At]; omega))
  replace ht := ht.upd hu7 (fun k hk hl hS => by (simp only [At, Bt] at hS hk; omega))
  replace hp9 := hp9.updA hu7
  refine WL.nil (WX.keep [(2, _)] ⟨rfl, trivial⟩ (WX.next (WC.ret (WX.retC (vs := [_, _, _, _]) rfl rfl agg_72 size_72 (Blk.cellsL hB1) ?_))))
  rw [he9]
  exact ⟨_, rfl, ht.mono fun k hk => by simp only [Bt] at *; omega, hp9, hPst.cls, hU⟩
set_option maxHeartbeats 2000000 in
theorem pcons_ok {n : Nat} (ihA : PC 139 (pq n).patom n) (ihC : PC 125 (pq n).pcons n) : PC 125 (pq (n + 1)).pcons (n + 1) := by
 intro w r B0 A s hp hd hn
 obtain ⟨hI1, hI2, hI3, hI4, hI5⟩ := hp.I
 show Ret _ _ _ _ fun v w' => ∃ c, v = .agg c.toArray ∧ TM w' (Bt w.heap.size w'.heap.size) c (pcoB (pq n) s).1 ∧ PS w' r B0 A (pcoB (pq n) s).2 ∧ Pst s (pcoB (pq n) s).2 ∧ Upd (At r) w w'
 have hod := opnQ_d s
 refine enterRet (vs := [_]) (N := 36) Tryz.func125 rfl rfl rfl ?_
 have hU := Upd.refl (At r) w
 refine WC.keep [(0, _)] ⟨rfl, trivial⟩ (WC.seq (WC.region (WL.cons (SO.alloc rfl rfl rfl rfl (r_alloc rfl zero_72) ?_))))
 intro w1 hu1 hB1 hz1
 have hs1 := hu1.size
 replace hU := hU.trans hu1 (by exact (fun _ _ h => h.elim))
 replace hp := hp.upd hu1 (by exact (fun _ _ h => h))
 refine WL.nil (WX.keep [(0, _), (2, _)] ⟨rfl, rfl, trivial⟩ (WX.next (WC.seq (WC.region (WL.cons (SO.alloc rfl rfl rfl rfl (r_alloc rfl zero_72) ?_))))))
 intro w2 hu2 hB2 hz2
 have hs2 := hu2.size
 replace hU := hU.trans hu2 (by exact (fun _ _ h => h.elim))
 replace hp := hp.upd hu2 (by exact (fun _ _ h => h))
 replace hB1 := hB1.upd hu2 (by exact (fun h => h))
 refine WL.nil (WX.keep [(0, _), (2, _), (3, _)] ⟨rfl, rfl, rfl, trivial⟩ (WX.next ?_))
 -- cut 2: live [0, 2, 3]
 refine WC.cut (fun E wA => ∃ (y0 y1 y2 y3 : Value) (x : Pt) (s2 : St), pcoB (pq n) s = (x, clsQ s2) ∧ Pst (opnQ s) s2 ∧ Upd (At r) w wA ∧ PS wA r B0 A s2 ∧ TM wA (Bt (w.heap.size + 2) wA.heap.size) [y0, y1, y2, y3] x ∧ Blk wA w.heap.size #[.int .u8 0, .string ⟨#[]⟩, .int .i64 0, .slice none 0 0] 72 ∧ Blk wA w1.heap.size #[y0, y1, y2, y3] 72 ∧ E = [(0, (.pointer (some ⟨r, 0, none⟩))), (2, .pointer (some ⟨w.heap.size, 0, none⟩)), (3, .pointer (some ⟨w1.heap.size, 0, none⟩))]) ?_ ?_
 ·refine WC.seq (WC.region (WL.val rfl rfl rfl rfl (r_move rfl (ev_t rfl)) ?_))
  refine WL.cons (SO.call (open_ok9 hp hd) rfl body_87 ⟨(ev_t rfl), trivial⟩ rfl rfl rfl rfl ?_)
  rintro v9 w3 ⟨rfl, hp2, hu3⟩
  have hs3 := hu3.size
  replace hU := hU.trans hu3 (by exact (fun _ _ h => h))
  replace hB1 := hB1.upd hu3 (by (simp only [At]; omega))
  replace hB2 := hB2.upd hu3 (by (simp only [At]; omega))
  have hp := hp2
  refine WL.nil (WX.keep [(0, _), (2, _), (3, _), (6, _)] ⟨rfl, rfl, rfl, rfl, trivial⟩ (WX.next (WC.cond rfl (ev_t rfl) (fun hc2 => ?_) (fun hc2 => ?_))))
  ·try simp only [cS, ne_eq, Decidable.not_not] at hc2
   have h0 : (opnQ s).e = 0 := by simpa using hc2
   have hd5 := opnQ_ok h0
   obtain ⟨p9, hp9e⟩ : ∃ p9 : Pt × St, p9 = if kdQ (opnQ s) 2 = true then
      if pbegQ (tlQ (opnQ s)) = true then (.mk 10 (opnQ s).hd.s 0 [((pq n).patom (tlQ (opnQ s))).1], ((pq n).patom (tlQ (opnQ s))).2)
      else (.mk 10 (opnQ s).hd.s 0 [], tlQ (opnQ s))
     else (pq n).patom (opnQ s) := ⟨_, rfl⟩
   -- cut 3: live [0, 2, 3]
   refine WC.cut (fun E wA => ∃ (y0 y1 y2 y3 : Value), Pst (opnQ s) p9.2 ∧ Upd (At r) w wA ∧ PS wA r B0 A p9.2 ∧ TM wA (Bt (w.heap.size + 2) wA.heap.size) [y0, y1, y2, y3] p9.1 ∧ Blk wA w.heap.size #[.int .u8 0, .string ⟨#[]⟩, .int .i64 0, .slice none 0 0] 72 ∧ Blk wA w1.heap.size #[y0, y1, y2, y3] 72 ∧ E = [(0, (.pointer (some ⟨r, 0, none⟩))), (2, .pointer (some ⟨w.heap.size, 0, none⟩)), (3, .pointer (some ⟨w1.heap.size, 0, none⟩))]) ?_ ?_
   ·refine WC.seq (WC.region (WL.val rfl rfl rfl rfl (r_move rfl (ev_t rfl)) ?_))
    refine WL.cons (SO.call (kind_ok (k := 2) hp) rfl body_32 ⟨(ev_t rfl), ev_c, trivial⟩ rfl rfl rfl rfl ?_)
    rintro v9 w4 ⟨rfl, hu4⟩
    have hs4 := hu4.size
    replace hU := hU.trans hu4 (by exact (fun _ _ h => h.elim))
    replace hB1 := hB1.upd hu4 (by exact (fun h => h))
    replace hB2 := hB2.upd hu4 (by exact (fun h => h))
    replace hp := hp.upd hu4 (by exact (fun _ _ h => h))
    refine WL.nil (WX.keep [(0, _), (2, _), (3, _), (8, _)] ⟨rfl, rfl, rfl, rfl, trivial⟩ (WX.next (WC.cond rfl (ev_t rfl) (fun hc3 => ?_) (fun hc3 => ?_))))
    ·rw [if_pos hc3] at hp9e
     refine WC.seq (WC.region (WL.val rfl rfl rfl rfl (r_move rfl (ev_t rfl)) ?_))
     refine WL.cons (SO.call (text_ok9 (k := 2) hp (by decide)) rfl body_82 ⟨(ev_t rfl), ev_c, trivial⟩ rfl rfl rfl rfl ?_)
     rintro v9 w5 ⟨rfl, hp2, hu5⟩
     have hs5 := hu5.size
     replace hU := hU.trans hu5 (by exact (fun _ _ h => h))
     replace hB1 := hB1.upd hu5 (by (simp only [At]; omega))
     replace hB2 := hB2.upd hu5 (by (simp only [At]; omega))
     have hp := hp2
     rw [txtQ_T hc3]
     replace hp : PS w5 r B0 A (tlQ (opnQ s)) := by rw [txtQ_T hc3] at hp; exact hp
     refine WL.val rfl rfl rfl rfl (r_build (cs := #[_, _, _, _]) (vs := [(0, _), (1, _)]) rfl ⟨⟨rfl, ev_c⟩, ⟨rfl, (ev_t rfl)⟩, trivial⟩ plc_72 zero_72 rfl) ?_
     refine WL.cons (SO.storeAll (us := [_, _, _, _]) rfl (ev_t rfl) (ev_t rfl) size_72 hB2 rfl rfl rfl rfl rfl ?_)
     intro w6 hu6 hB2 hz6
     have hs6 := hu6.size
     replace hU := hU.trans hu6 (by (intro k hl hk; (try simp only [At, New, Grow, From, No] at hk ⊢); omega))
     replace hB1 := hB1.upd hu6 (by (simp only [At]; omega))
     replace hp := hp.upd hu6 (by (intro k hk hS; first | (simp only [At] at hS; omega) | (have := hG k hS; omega)))
     refine WL.nil (WX.keep [(0, _), (2, _), (3, _)] ⟨rfl, rfl, rfl, trivial⟩ (WX.next (WC.seq (WC.region (WL.val rfl rfl rfl rfl (r_move rfl (ev_t rfl)) ?_)))))
     refine WL.cons (SO.call (pbegins_ok hp) rfl body_138 ⟨(ev_t rfl), trivial⟩ rfl rfl rfl rfl ?_)
     rintro v9 w7 ⟨rfl, hu7⟩
     have hs7 := hu7.size
     replace hU := hU.trans hu7 (by exact (fun _ _ h => h.elim))
     replace hB1 := hB1.upd hu7 (by exact (fun h => h))
     replace hB2 := hB2.upd hu7 (by exact (fun h => h))
     replace hp := hp.upd hu7 (by exact (fun _ _ h => h))
     refine WL.nil (WX.keep [(0, _), (2, _), (3, _), (13, _)] ⟨rfl, rfl, rfl, rfl, trivial⟩ (WX.next (WC.cond rfl (ev_t rfl) (fun hc5 => ?_) (fun hc5 => ?_))))
     ·rw [if_pos hc5] at hp9e
      refine WC.region (WL.val rfl rfl rfl rfl (r_move rfl (ev_t rfl)) ?_)
      refine WL.cons (SO.call (ihA _ _ _ _ _ hp (by (try simp only [tlQ_d, musQ_d, takQ_d, txtQ_d]); omega) (by (try simp only [tlQ_d, musQ_d, takQ_d, txtQ_d]); omega)) rfl body_139 ⟨(ev_t rfl), trivial⟩ rfl rfl rfl rfl ?_)
      rintro v9 w8 ⟨c9, rfl, ht, hp2, hst, hu8⟩
      have hs8 := hu8.size
      replace hU := hU.trans hu8 (by exact (fun _ _ h => h))
      replace hB1 := hB1.upd hu8 (by (simp only [At]; omega))
      replace hB2 := hB2.upd hu8 (by (simp only [At]; omega))
      have hp := hp2
      have hsd := hst.1
      try simp only [tlQ_d, musQ_d, takQ_d, txtQ_d] at hsd
      obtain ⟨tk, ts, tn, tks, tA, tp, txs, het, rfl, _⟩ := ht.mk4
      refine WL.cons (SO.alloc rfl rfl rfl rfl (r_buildSlice (cs := #[_, _, _, _]) (vs := [(0, _)]) rfl ⟨⟨rfl, (ev_t rfl)⟩, trivial⟩ row_33 rfl rfl) ?_)
      intro w9 hu9 hB9 hz9
      have hs9 := hu9.size
      replace hU := hU.trans hu9 (by exact (fun _ _ h => h.elim))
      replace hB1 := hB1.upd hu9 (by exact (fun h => h))
      replace hB2 := hB2.upd hu9 (by exact (fun h => h))
      replace hp := hp.upd hu9 (by exact (fun _ _ h => h))
      replace ht := ht.upd hu9 (fun k hk hl hS => by exact (show False from hS).elim)
      refine WL.val rfl rfl rfl rfl (r_field0 rfl (ev_t rfl) fld_72_3) ?_
      have hrow := hB9
      change Blk _ _ #[.int .u8 (tk : Int), Sv ts, .int .i64 tn, .slice tA tks.length tp] _ at hrow
      refine WL.cons (SO.store rfl (ev_t rfl) (ev_t rfl) size_33 hB2 rfl rfl rfl rfl rfl ?_)
      intro w10 hu10 hB2 hz10
      have hs10 := hu10.size
      replace hU := hU.trans hu10 (by (intro k hl hk; (try simp only [At, New, Grow, From, No] at hk ⊢); omega))
      replace hB1 := hB1.upd hu10 (by (simp only [At]; omega))
      replace hp := hp.upd hu10 (by (intro k hk hS; first | (simp only [At] at hS; omega) | (have := hG k hS; omega)))
      replace ht := ht.upd hu10 (fun k hk hl hS => by (simp only [At, Bt] at hS hk; omega))
      replace hrow := hrow.updA hu10
      refine WL.nil (WX.keep [(0, _), (2, _), (3, _)] ⟨rfl, rfl, rfl, trivial⟩ (WX.meet [(0, _), (2, _), (3, _)] ⟨rfl, rfl, rfl, trivial⟩ ?_))
      subst hp9e
      first
       | exact ⟨_, _, _, _, (Pst.tl _).trans hst, hU, hp, TM.pt (xs := [[_, _, _, _]]) (Rd.of_blk (F := Bt _ _) (n := 1) (sz := 4) hrow (by have := hrow.lt; simp only [Bt]; omega) rfl (by omega)) (Ms.cons (ht.mono fun k hk => by simp only [Bt] at *; omega) (Ms.nil _ _)) (by simp [inK]), hB1, hB2, rfl⟩
       | exact ⟨_, _, _, _, Pst.tl _, hU, hp, TM.pt0 (by simp [inK]), hB1, hB2, rfl⟩
       | exact ⟨_, _, _, _, hst, hU, hp, ht.mono fun k hk => by simp only [Bt] at *; omega, hB1, hB2, rfl⟩
     ·rw [if_neg (by simp [hc5])] at hp9e
      refine WC.skip (WX.meet [(0, _), (2, _), (3, _)] ⟨rfl, rfl, rfl, trivial⟩ ?_)
      subst hp9e
      first
       | exact ⟨_, _, _, _, (Pst.tl _).trans hst, hU, hp, TM.pt (xs := [[_, _, _, _]]) (Rd.of_blk (F := Bt _ _) (n := 1) (sz := 4) hrow (by have := hrow.lt; simp only [Bt]; omega) rfl (by omega)) (Ms.cons (ht.mono fun k hk => by simp only [Bt] at *; omega) (Ms.nil _ _)) (by simp [inK]), hB1, hB2, rfl⟩
       | exact ⟨_, _, _, _, Pst.tl _, hU, hp, TM.pt0 (by simp [inK]), hB1, hB2, rfl⟩
       | exact ⟨_, _, _, _, hst, hU, hp, ht.mono fun k hk => by simp only [Bt] at *; omega, hB1, hB2, rfl⟩
    ·rw [if_neg (by simp [hc3])] at hp9e
     refine WC.region (WL.val rfl rfl rfl rfl (r_move rfl (ev_t rfl)) ?_)
     refine WL.cons (SO.call (ihA _ _ _ _ _ hp (by (try simp only [tlQ_d, musQ_d, takQ_d, txtQ_d]); omega) (by (try simp only [tlQ_d, musQ_d, takQ_d, txtQ_d]); omega)) rfl body_139 ⟨(ev_t rfl), trivial⟩ rfl rfl rfl rfl ?_)
     rintro v9 w11 ⟨c9, rfl, ht, hp2, hst, hu11⟩
     have hs11 := hu11.size
     replace hU := hU.trans hu11 (by exact (fun _ _ h => h))
     replace hB1 := hB1.upd hu11 (by (simp only [At]; omega))
     replace hB2 := hB2.upd hu11 (by (simp only [At]; omega))
     have hp := hp2
     have hsd := hst.1
     try simp only [tlQ_d, musQ_d, takQ_d, txtQ_d] at hsd
     obtain ⟨tk, ts, tn, tks, tA, tp, txs, het, rfl, _⟩ := ht.mk4
     refine WL.cons (SO.storeAll (us := [_, _, _, _]) rfl (ev_t rfl) (ev_t rfl) size_72 hB2 rfl rfl rfl rfl rfl ?_)
     intro w12 hu12 hB2 hz12
     have hs12 := hu12.size
     replace hU := hU.trans hu12 (by (intro k hl hk; (try simp only [At, New, Grow, From, No] at hk ⊢); omega))
     replace hB1 := hB1.upd hu12 (by (simp only [At]; omega))
     replace hp := hp.upd hu12 (by (intro k hk hS; first | (simp only [At] at hS; omega) | (have := hG k hS; omega)))
     replace ht := ht.upd hu12 (fun k hk hl hS => by (simp only [At, Bt] at hS hk; omega))
     refine WL.nil (WX.keep [(0, _), (2, _), (3, _)] ⟨rfl, rfl, rfl, trivial⟩ (WX.meet [(0, _), (2, _), (3, _)] ⟨rfl, rfl, rfl, trivial⟩ ?_))
     subst hp9e
     first
      | exact ⟨_, _, _, _, (Pst.tl _).trans hst, hU, hp, TM.pt (xs := [[_, _, _, _]]) (Rd.of_blk (F := Bt _ _) (n := 1) (sz := 4) hrow (by have := hrow.lt; simp only [Bt]; omega) rfl (by omega)) (Ms.cons (ht.mono fun k hk => by simp only [Bt] at *; omega) (Ms.nil _ _)) (by simp [inK]), hB1, hB2, rfl⟩
      | exact ⟨_, _, _, _, Pst.tl _, hU, hp, TM.pt0 (by simp [inK]), hB1, hB2, rfl⟩
      | exact ⟨_, _, _, _, hst, hU, hp, ht.mono fun k hk => by simp only [Bt] at *; omega, hB1, hB2, rfl⟩
   ·clear hU hp hB1 hB2
    rintro E wA ⟨y0, y1, y2, y3, hPst, hU, hp, ht, hB1, hB2, rfl⟩
    have hsA := hU.size
    have hlt1 := hB1.lt
    have hlt2 := hB2.lt
    have hd2 := hPst.1
    obtain ⟨tk, ts, tn, tks, tA, tp, txs, het, hcs9, _⟩ := ht.mk4
    obtain ⟨rfl, rfl, rfl, rfl⟩ : y0 = _ ∧ y1 = _ ∧ y2 = _ ∧ y3 = _ := by simpa using hcs9
    have htx := ht
    refine WC.seq (WC.region (WL.val rfl rfl rfl rfl (r_move rfl (ev_t rfl)) ?_))
    refine WL.cons (SO.call (take_ok (u := [58, 58]) hp) rfl body_31 ⟨(ev_t rfl), ev_c, trivial⟩ rfl rfl rfl rfl ?_)
    rintro v9 w13 ⟨rfl, hp2, hu13⟩
    have hs13 := hu13.size
    replace hU := hU.trans hu13 (by exact (fun _ _ h => h))
    replace hB1 := hB1.upd hu13 (by (simp only [At]; omega))
    replace hB2 := hB2.upd hu13 (by (simp only [At]; omega))
    replace htx := htx.upd hu13 (fun k hk hl hS => by (simp only [At, Bt] at hS hk; omega))
    have hp := hp2
    refine WL.nil (WX.keep [(0, _), (2, _), (3, _), (21, _)] ⟨rfl, rfl, rfl, rfl, trivial⟩ (WX.next (WC.cond rfl (ev_t rfl) (fun hc8 => ?_) (fun hc8 => ?_))))
    ·rw [takQ_T hc8] at hp
     refine WC.seq (WC.region (WL.val rfl rfl rfl rfl (r_move rfl (ev_t rfl)) ?_))
     refine WL.cons (SO.call (ihC _ _ _ _ _ hp (by (try simp only [tlQ_d, musQ_d, takQ_d, txtQ_d]); omega) (by (try simp only [tlQ_d, musQ_d, takQ_d, txtQ_d]); omega)) rfl body_125 ⟨(ev_t rfl), trivial⟩ rfl rfl rfl rfl ?_)
     rintro v9 w14 ⟨c9, rfl, ht, hp2, hst, hu14⟩
     have hs14 := hu14.size
     replace hU := hU.trans hu14 (by exact (fun _ _ h => h))
     replace hB1 := hB1.upd hu14 (by (simp only [At]; omega))
     replace hB2 := hB2.upd hu14 (by (simp only [At]; omega))
     replace htx := htx.upd hu14 (fun k hk hl hS => by (simp only [At, Bt] at hS hk; omega))
     have hp := hp2
     have hsd := hst.1
     try simp only [tlQ_d, musQ_d, takQ_d, txtQ_d] at hsd
     obtain ⟨uk, us, un, uks, uA, up, uxs, heu, rfl, _⟩ := ht.mk4
     refine WL.cons (SO.alloc rfl rfl rfl rfl (r_alloc rfl zero_72) ?_)
     intro w15 hu15 hB15 hz15
     have hs15 := hu15.size
     replace hU := hU.trans hu15 (by exact (fun _ _ h => h.elim))
     replace hB1 := hB1.upd hu15 (by exact (fun h => h))
     replace hB2 := hB2.upd hu15 (by exact (fun h => h))
     replace htx := htx.upd hu15 (fun k hk hl hS => by exact (show False from hS).elim)
     replace hp := hp.upd hu15 (by exact (fun _ _ h => h))
     replace ht := ht.upd hu15 (fun k hk hl hS => by exact (show False from hS).elim)
     refine WL.cons (SO.storeAll (us := [_, _, _, _]) rfl (ev_t rfl) (ev_t rfl) size_72 hB15 rfl rfl rfl rfl rfl ?_)
     intro w16 hu16 hB15 hz16
     have hs16 := hu16.size
     replace hU := hU.trans hu16 (by (intro k hl hk; (try simp only [At, New, Grow, From, No] at hk ⊢); omega))
     replace hB1 := hB1.upd hu16 (by (simp only [At]; omega))
     replace hB2 := hB2.upd hu16 (by (simp only [At]; omega))
     replace htx := htx.upd hu16 (fun k hk hl hS => by (simp only [At, Bt] at hS hk; omega))
     replace hp := hp.upd hu16 (by (intro k hk hS; first | (simp only [At] at hS; omega) | (have := hG k hS; omega)))
     replace ht := ht.upd hu16 (fun k hk hl hS => by (simp only [At, Bt] at hS hk; omega))
     refine WL.nil (WX.keep [(0, _), (2, _), (3, _), (4, _)] ⟨rfl, rfl, rfl, rfl, trivial⟩ ?_)
     have h7 := hB15
     refine WX.next (WC.region (WL.val rfl rfl rfl rfl (r_loadAgg (vs := [_, _, _, _]) rfl (ev_t rfl) agg_72 size_72 (Blk.cellsL hB2)) ?_))
     refine WL.val rfl rfl rfl rfl (r_loadAgg (vs := [_, _, _, _]) rfl (ev_t rfl) agg_72 size_72 (Blk.cellsL h7)) ?_
     refine WL.cons (SO.alloc rfl rfl rfl rfl (r_buildSlice44 rfl (ev_t rfl) (ev_t rfl) row_33) ?_)
     intro w17 hu17 hrow hz9
     have hs17 := hu17.size
     replace hU := hU.trans hu17 (by exact (fun _ _ h => h.elim))
     replace hB1 := hB1.upd hu17 (by exact (fun h => h))
     replace hB2 := hB2.upd hu17 (by exact (fun h => h))
     replace htx := htx.upd hu17 (fun k hk hl hS => by exact (show False from hS).elim)
     replace hp := hp.upd hu17 (by exact (fun _ _ h => h))
     replace ht := ht.upd hu17 (fun k hk hl hS => by exact (show False from hS).elim)
     replace h7 := h7.updA hu17
     refine WL.val rfl rfl rfl rfl (r_build (cs := #[_, _, _, _]) (vs := [(0, _), (3, _)]) rfl ⟨⟨rfl, ev_c⟩, ⟨rfl, (ev_t rfl)⟩, trivial⟩ plc_72 zero_72 rfl) ?_
     refine WL.cons (SO.storeAll (us := [_, _, _, _]) rfl (ev_t rfl) (ev_t rfl) size_72 hB2 rfl rfl rfl rfl rfl ?_)
     intro w18 hu18 hB2 hz18
     have hs18 := hu18.size
     replace hU := hU.trans hu18 (by (intro k hl hk; (try simp only [At, New, Grow, From, No] at hk ⊢); omega))
     replace hB1 := hB1.upd hu18 (by (simp only [At]; omega))
     replace htx := htx.upd hu18 (fun k hk hl hS => by (simp only [At, Bt] at hS hk; omega))
     replace hp := hp.upd hu18 (by (intro k hk hS; first | (simp only [At] at hS; omega) | (have := hG k hS; omega)))
     replace ht := ht.upd hu18 (fun k hk hl hS => by (simp only [At, Bt] at hS hk; omega))
     replace h7 := h7.updA hu18
     replace hrow := hrow.updA hu18
     refine WL.nil (WX.keep [(0, _), (2, _), (3, _)] ⟨rfl, rfl, rfl, trivial⟩ (WX.meet [(0, _), (2, _), (3, _)] ⟨rfl, rfl, rfl, trivial⟩ ?_))
     first
      | (have he9 : pcoB (pq n) s = (Pt.mk 9 [] 0 [p9.1, ((pq n).pcons (tlQ p9.2)).1], clsQ ((pq n).pcons (tlQ p9.2)).2) := by
           simp only [pcoB]
           rw [if_pos h0, ← hp9e, if_pos hc8]
         exact ⟨_, _, _, _, _, _, he9, hPst.trans ((Pst.tl _).trans hst), hU, hp, TM.pt (xs := [[_, _, _, _], [_, _, _, _]]) (Rd.of_blk (F := Bt _ _) (n := 2) (sz := 4) hrow (by have := hrow.lt; simp only [Bt]; omega) rfl (by omega)) (Ms.cons (htx.mono fun k hk => by simp only [Bt] at *; omega) (Ms.cons (ht.mono fun k hk => by simp only [Bt] at *; omega) (Ms.nil _ _))) (by simp [inK]), hB1, hB2, rfl⟩)
      | (have he9 : pcoB (pq n) s = (p9.1, clsQ p9.2) := by
           simp only [pcoB]
           rw [if_pos h0, ← hp9e, if_neg (by simp [hc8])]
         exact ⟨_, _, _, _, _, _, he9, hPst, hU, hp, htx.mono fun k hk => by simp only [Bt] at *; omega, hB1, hB2, rfl⟩)
      | (have he9 : pcoB (pq n) s = (Pt.z, clsQ (opnQ s)) := by
           simp only [pcoB]
           rw [if_neg (by simpa using hc2)]
         exact ⟨_, _, _, _, _, _, he9, Pst.refl _, hU, hp, TM.pt0 (by simp [inK]), hB1, hB2, rfl⟩)
    ·rw [takQ_F hc8] at hp
     refine WC.skip (WX.meet [(0, _), (2, _), (3, _)] ⟨rfl, rfl, rfl, trivial⟩ ?_)
     first
      | (have he9 : pcoB (pq n) s = (Pt.mk 9 [] 0 [p9.1, ((pq n).pcons (tlQ p9.2)).1], clsQ ((pq n).pcons (tlQ p9.2)).2) := by
           simp only [pcoB]
           rw [if_pos h0, ← hp9e, if_pos hc8]
         exact ⟨_, _, _, _, _, _, he9, hPst.trans ((Pst.tl _).trans hst), hU, hp, TM.pt (xs := [[_, _, _, _], [_, _, _, _]]) (Rd.of_blk (F := Bt _ _) (n := 2) (sz := 4) hrow (by have := hrow.lt; simp only [Bt]; omega) rfl (by omega)) (Ms.cons (htx.mono fun k hk => by simp only [Bt] at *; omega) (Ms.cons (ht.mono fun k hk => by simp only [Bt] at *; omega) (Ms.nil _ _))) (by simp [inK]), hB1, hB2, rfl⟩)
      | (have he9 : pcoB (pq n) s = (p9.1, clsQ p9.2) := by
           simp only [pcoB]
           rw [if_pos h0, ← hp9e, if_neg (by simp [hc8])]
         exact ⟨_, _, _, _, _, _, he9, hPst, hU, hp, htx.mono fun k hk => by simp only [Bt] at *; omega, hB1, hB2, rfl⟩)
      | (have he9 : pcoB (pq n) s = (Pt.z, clsQ (opnQ s)) := by
           simp only [pcoB]
           rw [if_neg (by simpa using hc2)]
         exact ⟨_, _, _, _, _, _, he9, Pst.refl _, hU, hp, TM.pt0 (by simp [inK]), hB1, hB2, rfl⟩)
  ·try simp only [cS, ne_eq, Decidable.not_not] at hc2
   refine WC.skip (WX.meet [(0, _), (2, _), (3, _)] ⟨rfl, rfl, rfl, trivial⟩ ?_)
   first
    | (have he9 : pcoB (pq n) s = (Pt.mk 9 [] 0 [p9.1, ((pq n).pcons (tlQ p9.2)).1], clsQ ((pq n).pcons (tlQ p9.2)).2) := by
         simp only [pcoB]
         rw [if_pos h0, ← hp9e, if_pos hc8]
       exact ⟨_, _, _, _, _, _, he9, hPst.trans ((Pst.tl _).trans hst), hU, hp, TM.pt (xs := [[_, _, _, _], [_, _, _, _]]) (Rd.of_blk (F := Bt _ _) (n := 2) (sz := 4) hrow (by have := hrow.lt; simp only [Bt]; omega) rfl (by omega)) (Ms.cons (htx.mono fun k hk => by simp only [Bt] at *; omega) (Ms.cons (ht.mono fun k hk => by simp only [Bt] at *; omega) (Ms.nil _ _))) (by simp [inK]), hB1, hB2, rfl⟩)
    | (have he9 : pcoB (pq n) s = (p9.1, clsQ p9.2) := by
         simp only [pcoB]
         rw [if_pos h0, ← hp9e, if_neg (by simp [hc8])]
       exact ⟨_, _, _, _, _, _, he9, hPst, hU, hp, htx.mono fun k hk => by simp only [Bt] at *; omega, hB1, hB2, rfl⟩)
    | (have he9 : pcoB (pq n) s = (Pt.z, clsQ (opnQ s)) := by
         simp only [pcoB]
         rw [if_neg (by simpa using hc2)]
       exact ⟨_, _, _, _, _, _, he9, Pst.refl _, hU, hp, TM.pt0 (by simp [inK]), hB1, hB2, rfl⟩)
 ·clear hU hp hB1 hB2
  rintro E wA ⟨y0, y1, y2, y3, x, s2, he9, hPst, hU, hp, ht, hB1, hB2, rfl⟩
  have hsA := hU.size
  have hlt1 := hB1.lt
  have hlt2 := hB2.lt
  have hd2 := hPst.1
  obtain ⟨tk, ts, tn, tks, tA, tp, txs, het, hcs9, _⟩ := ht.mk4
  obtain ⟨rfl, rfl, rfl, rfl⟩ : y0 = _ ∧ y1 = _ ∧ y2 = _ ∧ y3 = _ := by simpa using hcs9
  refine WC.seq (WC.region ?_)
  obtain ⟨FD, bD, offD, cD, zD, badD, hbD, hzD, hrD, hFD, hID⟩ := hp.open
  refine WL.val rfl rfl rfl rfl (r_move rfl (ev_t rfl)) ?_
  refine WL.val rfl rfl rfl rfl (r_nilCheck rfl (ev_t rfl)) ?_
  refine WL.val rfl rfl rfl rfl (r_field0 rfl (ev_t rfl) fld_58_2) ?_
  refine WL.val rfl rfl rfl rfl (r_load rfl (ev_t rfl) flat_3 (Blk.cell hbD rfl)) ?_
  refine WL.val rfl rfl rfl rfl (r_subN rfl (ev_t rfl) ev_c (by simp only [inK]; omega)) ?_
  refine WL.val rfl rfl rfl rfl (r_nilCheck rfl (ev_t rfl)) ?_
  refine WL.val rfl rfl rfl rfl (r_field0 rfl (ev_t rfl) fld_58_2) ?_
  refine WL.cons (SO.store rfl (ev_t rfl) (ev_t rfl) size_3 hbD rfl rfl rfl rfl rfl ?_)
  intro w19 hu19 hbD hz19
  have hs19 := hu19.size
  replace hU := hU.trans hu19 (by exact (fun _ _ h => h))
  replace hB1 := hB1.upd hu19 (by (simp only [At]; omega))
  replace hB2 := hB2.upd hu19 (by (simp only [At]; omega))
  replace ht := ht.upd hu19 (fun k hk hl hS => by (simp only [At, Bt] at hS hk; omega))
  refine WL.nil (WX.keep [(2, _), (3, _)] ⟨rfl, rfl, trivial⟩ ?_)
  rw [PS.clsB hp (by omega)] at hbD
  have hp9 : PS w19 r B0 A (clsQ s2) := hp.shut hu19 hbD hzD (hrD.upd hu19 (fun k hk hl hS => (hFD k hk).1 hS)) hFD hp.suf hp.fin (by show s2.d - 1 ≤ 52; have := hp.dle; omega) hp.ele
  refine WX.next (WC.seq (WC.region (WL.val rfl rfl rfl rfl (r_loadAgg (vs := [_, _, _, _]) rfl (ev_t rfl) agg_72 size_72 (Blk.cellsL hB2)) ?_)))
  refine WL.cons (SO.storeAll (us := [_, _, _, _]) rfl (ev_t rfl) (ev_t rfl) size_72 hB1 rfl rfl rfl rfl rfl ?_)
  intro w20 hu20 hB1 hz20
  have hs20 := hu20.size
  replace hU := hU.trans hu20 (by (intro k hl hk; (try simp only [At, New, Grow, From, No] at hk ⊢); omega))
  replace hB2 := hB2.upd hu20 (by (simp only [At]; omega))
  replace ht := ht.upd hu20 (fun k hk hl hS => by (simp only [At, Bt] at hS hk; omega))
  replace hp9 := hp9.updA hu20
  refine WL.nil (WX.keep [(2, _)] ⟨rfl, trivial⟩ (WX.next (WC.ret (WX.retC (vs := [_, _, _, _]) rfl rfl agg_72 size_72 (Blk.cellsL hB1) ?_))))
  rw [he9]
  exact ⟨_, rfl, ht.mono fun k hk => by simp only [Bt] at *; omega, hp9, hPst.cls, hU⟩
end Go.Proofs.YtomkdhkkggbioaaGreatDoor

/-
 The reference's parser: what is open already, of a pattern.
-/
namespace Go.Proofs.YtomkdhkkggbioaaGreatDoor
open Go
set_option linter.unusedSimpArgs false
set_option linter.unusedVariables false

theorem ptupQ_one (t : Pt) : ptupQ [t] = t := rfl
theorem ptupQ_more {l : List Pt} (h : l.length ≠ 1) : ptupQ l = .mk 7 [] 0 l := by
 match l, h with
 | [], _ => rfl
 | a :: b :: r, _ => rfl
set_option maxHeartbeats 4000000 in
theorem pthing_ok {n : Nat} (ih : PC 125 (pq n).pcons n) : PC 150 (pthB (pq n)) n := by
 intro w r B0 A s hp hd hn
 obtain ⟨hI1, hI2, hI3, hI4, hI5⟩ := hp.I
 refine enterRet (vs := [_]) (N := 136) Tryz.func150 rfl rfl rfl ?_
 have hU := Upd.refl (At r) w
 refine WC.keep [(0, _)] ⟨rfl, trivial⟩ (WC.seq (WC.region (WL.cons (SO.alloc rfl rfl rfl rfl (r_alloc rfl zero_72) ?_))))
 intro w1 hu1 hB1 hz1
 have hs1 := hu1.size
 replace hU := hU.trans hu1 (by exact (fun _ _ h => h.elim))
 replace hp := hp.upd hu1 (by exact (fun _ _ h => h))
 refine WL.nil (WX.keep [(0, _), (2, _)] ⟨rfl, rfl, trivial⟩ (WX.next (WC.seq (WC.block (WC.seq (WC.region (WL.val rfl rfl rfl rfl (r_move rfl (ev_t rfl)) ?_)))))))
 refine WL.cons (SO.call (take_ok (u := [45]) hp) rfl body_31 ⟨(ev_t rfl), ev_c, trivial⟩ rfl rfl rfl rfl ?_)
 rintro v9 w2 ⟨rfl, hp2, hu2⟩
 have hs2 := hu2.size
 replace hU := hU.trans hu2 (by exact (fun _ _ h => h))
 replace hB1 := hB1.upd hu2 (by (simp only [At]; omega))
 have hp := hp2
 refine WL.val rfl rfl rfl rfl (r_assign rfl (ev_t rfl)) ?_
 refine WL.nil (WX.keep [(0, _), (2, _), (11, _)] ⟨rfl, rfl, rfl, trivial⟩ (WX.next (WC.cond rfl (ev_t rfl) (fun hc1 => ?_) (fun hc1 => ?_))))
 ·rw [takQ_T hc1] at hp
  refine WC.seq ?_
  have hpD := hp
  refine WC.region (WL.val rfl rfl rfl rfl (r_move rfl (ev_t rfl)) ?_)
  refine WL.cons (SO.call (text_ok9 (k := 4) hp (by decide)) rfl body_82 ⟨(ev_t rfl), ev_c, trivial⟩ rfl rfl rfl rfl ?_)
  rintro v9 w3 ⟨rfl, hp2, hu3⟩
  have hs3 := hu3.size
  replace hU := hU.trans hu3 (by exact (fun _ _ h => h))
  replace hB1 := hB1.upd hu3 (by (simp only [At]; omega))
  have hp := hp2
  have hdg := hpD.digits
  refine WL.cons (SO.call (lnumber_ok (by omega) hdg.1) rfl body_80 ⟨(ev_t rfl), trivial⟩ rfl rfl rfl rfl ?_)
  rintro v9 w4 ⟨rfl, hu4⟩
  have hs4 := hu4.size
  replace hU := hU.trans hu4 (by exact (fun _ _ h => h.elim))
  replace hB1 := hB1.upd hu4 (by exact (fun h => h))
  replace hp := hp.upd hu4 (by exact (fun _ _ h => h))
  refine WL.val rfl rfl rfl rfl (r_move rfl (ev_t rfl)) ?_
  refine WL.val rfl rfl rfl rfl (r_extract rfl (ev_t rfl) rfl) ?_
  refine WL.val rfl rfl rfl rfl (r_extract rfl (ev_t rfl) rfl) ?_
  refine WL.val rfl rfl rfl rfl (r_assign rfl (ev_t rfl)) ?_
  refine WL.val rfl rfl rfl rfl (r_assign rfl (ev_t rfl)) ?_
  refine WL.nil (WX.keep [(2, _), (3, _)] ⟨rfl, rfl, trivial⟩ ?_)
  have hnV := numV_in (txtQ (tlQ s) 4).1
  change (0 : Int) ≤ (((numF 0 (txtQ (tlQ s) 4).1).getD 0 : Nat) : Int) ∧ (((numF 0 (txtQ (tlQ s) 4).1).getD 0 : Nat) : Int) ≤ 4611686018427387903 at hnV
  refine WX.next (WC.seq (WC.region (WL.val rfl rfl rfl rfl (r_move rfl (ev_t rfl)) ?_)))
  refine WL.val rfl rfl rfl rfl (r_negN rfl (ev_t rfl) (by simp only [inK]; omega)) ?_
  refine WL.val rfl rfl rfl rfl (r_build (cs := #[_, _, _, _]) (vs := [(0, _), (2, _)]) rfl ⟨⟨rfl, ev_c⟩, ⟨rfl, (ev_t rfl)⟩, trivial⟩ plc_72 zero_72 rfl) ?_
  refine WL.cons (SO.storeAll (us := [_, _, _, _]) rfl (ev_t rfl) (ev_t rfl) size_72 hB1 rfl rfl rfl rfl rfl ?_)
  intro w5 hu5 hB1 hz5
  have hs5 := hu5.size
  replace hU := hU.trans hu5 (by (intro k hl hk; (try simp only [At, New, Grow, From, No] at hk ⊢); omega))
  replace hp := hp.upd hu5 (by (intro k hk hS; first | (simp only [At] at hS; omega) | (have := hG k hS; omega)))
  refine WL.nil (WX.keep [(2, _)] ⟨rfl, trivial⟩ (WX.next (WC.ret (WX.blockRet (WX.thenRet (WX.retC (vs := [_, _, _, _]) rfl rfl agg_72 size_72 (Blk.cellsL hB1) ?_))))))
  have he9 : pthB (pq n) s = (Pt.mk 3 [] (-numV (txtQ (tlQ s) 4).1) [], (txtQ (tlQ s) 4).2) := by unfold pthB; rw [if_pos hc1]
  rw [he9]
  exact ⟨_, rfl, TM.pt0 (numV_inN _), hp, (Pst.tl _).trans (Pst.txt _ _), hU⟩
 ·rw [takQ_F hc1] at hp
  refine WC.seq (WC.region (WL.val rfl rfl rfl rfl (r_move rfl (ev_t rfl)) ?_))
  refine WL.cons (SO.call (kind_ok (k := 4) hp) rfl body_32 ⟨(ev_t rfl), ev_c, trivial⟩ rfl rfl rfl rfl ?_)
  rintro v9 w6 ⟨rfl, hu6⟩
  have hs6 := hu6.size
  replace hU := hU.trans hu6 (by exact (fun _ _ h => h.elim))
  replace hB1 := hB1.upd hu6 (by exact (fun h => h))
  replace hp := hp.upd hu6 (by exact (fun _ _ h => h))
  refine WL.val rfl rfl rfl rfl (r_assign rfl (ev_t rfl)) ?_
  refine WL.nil (WX.keep [(0, _), (2, _), (23, _)] ⟨rfl, rfl, rfl, trivial⟩ (WX.next (WC.cond rfl (ev_t rfl) (fun hc4 => ?_) (fun hc4 => ?_))))
  ·refine WC.seq ?_
   have hpD := hp
   refine WC.region (WL.val rfl rfl rfl rfl (r_move rfl (ev_t rfl)) ?_)
   refine WL.cons (SO.call (text_ok9 (k := 4) hp (by decide)) rfl body_82 ⟨(ev_t rfl), ev_c, trivial⟩ rfl rfl rfl rfl ?_)
   rintro v9 w7 ⟨rfl, hp2, hu7⟩
   have hs7 := hu7.size
   replace hU := hU.trans hu7 (by exact (fun _ _ h => h))
   replace hB1 := hB1.upd hu7 (by (simp only [At]; omega))
   have hp := hp2
   have hdg := hpD.digits
   refine WL.cons (SO.call (lnumber_ok (by omega) hdg.1) rfl body_80 ⟨(ev_t rfl), trivial⟩ rfl rfl rfl rfl ?_)
   rintro v9 w8 ⟨rfl, hu8⟩
   have hs8 := hu8.size
   replace hU := hU.trans hu8 (by exact (fun _ _ h => h.elim))
   replace hB1 := hB1.upd hu8 (by exact (fun h => h))
   replace hp := hp.upd hu8 (by exact (fun _ _ h => h))
   refine WL.val rfl rfl rfl rfl (r_move rfl (ev_t rfl)) ?_
   refine WL.val rfl rfl rfl rfl (r_extract rfl (ev_t rfl) rfl) ?_
   refine WL.val rfl rfl rfl rfl (r_extract rfl (ev_t rfl) rfl) ?_
   refine WL.val rfl rfl rfl rfl (r_assign rfl (ev_t rfl)) ?_
   refine WL.val rfl rfl rfl rfl (r_assign rfl (ev_t rfl)) ?_
   refine WL.nil (WX.keep [(2, _), (5, _)] ⟨rfl, rfl, trivial⟩ ?_)
   have hnV := numV_in (txtQ (s) 4).1
   change (0 : Int) ≤ (((numF 0 (txtQ (s) 4).1).getD 0 : Nat) : Int) ∧ (((numF 0 (txtQ (s) 4).1).getD 0 : Nat) : Int) ≤ 4611686018427387903 at hnV
   refine WX.next (WC.seq (WC.region (WL.val rfl rfl rfl rfl (r_move rfl (ev_t rfl)) ?_)))
   refine WL.val rfl rfl rfl rfl (r_build (cs := #[_, _, _, _]) (vs := [(0, _), (2, _)]) rfl ⟨⟨rfl, ev_c⟩, ⟨rfl, (ev_t rfl)⟩, trivial⟩ plc_72 zero_72 rfl) ?_
   refine WL.cons (SO.storeAll (us := [_, _, _, _]) rfl (ev_t rfl) (ev_t rfl) size_72 hB1 rfl rfl rfl rfl rfl ?_)
   intro w9 hu9 hB1 hz9
   have hs9 := hu9.size
   replace hU := hU.trans hu9 (by (intro k hl hk; (try simp only [At, New, Grow, From, No] at hk ⊢); omega))
   replace hp := hp.upd hu9 (by (intro k hk hS; first | (simp only [At] at hS; omega) | (have := hG k hS; omega)))
   refine WL.nil (WX.keep [(2, _)] ⟨rfl, trivial⟩ (WX.next (WC.ret (WX.blockRet (WX.thenRet (WX.retC (vs := [_, _, _, _]) rfl rfl agg_72 size_72 (Blk.cellsL hB1) ?_))))))
   rw [txtQ_T hc4]
   rw [txtQ_T hc4] at hp hnV
   have he9 : pthB (pq n) s = (Pt.mk 3 [] (numV s.hd.s) [], tlQ s) := by unfold pthB; rw [if_neg (by simp [hc1]), if_pos hc4]
   rw [he9]
   exact ⟨_, rfl, TM.pt0 (numV_inK _), hp, Pst.tl _, hU⟩
  ·refine WC.seq (WC.region (WL.val rfl rfl rfl rfl (r_move rfl (ev_t rfl)) ?_))
   refine WL.cons (SO.call (kind_ok (k := 5) hp) rfl body_32 ⟨(ev_t rfl), ev_c, trivial⟩ rfl rfl rfl rfl ?_)
   rintro v9 w10 ⟨rfl, hu10⟩
   have hs10 := hu10.size
   replace hU := hU.trans hu10 (by exact (fun _ _ h => h.elim))
   replace hB1 := hB1.upd hu10 (by exact (fun h => h))
   replace hp := hp.upd hu10 (by exact (fun _ _ h => h))
   refine WL.val rfl rfl rfl rfl (r_assign rfl (ev_t rfl)) ?_
   refine WL.nil (WX.keep [(0, _), (2, _), (34, _)] ⟨rfl, rfl, rfl, trivial⟩ (WX.next (WC.cond rfl (ev_t rfl) (fun hc7 => ?_) (fun hc7 => ?_))))
   ·refine WC.seq (WC.region (WL.val rfl rfl rfl rfl (r_move rfl (ev_t rfl)) ?_))
    refine WL.cons (SO.call (text_ok9 (k := 5) hp (by decide)) rfl body_82 ⟨(ev_t rfl), ev_c, trivial⟩ rfl rfl rfl rfl ?_)
    rintro v9 w11 ⟨rfl, hp2, hu11⟩
    have hs11 := hu11.size
    replace hU := hU.trans hu11 (by exact (fun _ _ h => h))
    replace hB1 := hB1.upd hu11 (by (simp only [At]; omega))
    have hp := hp2
    rw [txtQ_T hc7]
    replace hp : PS w11 r B0 A (tlQ s) := by rw [txtQ_T hc7] at hp; exact hp
    refine WL.val rfl rfl rfl rfl (r_build (cs := #[_, _, _, _]) (vs := [(0, _), (1, _)]) rfl ⟨⟨rfl, ev_c⟩, ⟨rfl, (ev_t rfl)⟩, trivial⟩ plc_72 zero_72 rfl) ?_
    refine WL.cons (SO.storeAll (us := [_, _, _, _]) rfl (ev_t rfl) (ev_t rfl) size_72 hB1 rfl rfl rfl rfl rfl ?_)
    intro w12 hu12 hB1 hz12
    have hs12 := hu12.size
    replace hU := hU.trans hu12 (by (intro k hl hk; (try simp only [At, New, Grow, From, No] at hk ⊢); omega))
    replace hp := hp.upd hu12 (by (intro k hk hS; first | (simp only [At] at hS; omega) | (have := hG k hS; omega)))
    refine WL.nil (WX.keep [(2, _)] ⟨rfl, trivial⟩ (WX.next (WC.ret (WX.blockRet (WX.thenRet (WX.retC (vs := [_, _, _, _]) rfl rfl agg_72 size_72 (Blk.cellsL hB1) ?_))))))
    have he9 : pthB (pq n) s = (Pt.mk 4 s.hd.s 0 [], tlQ s) := by unfold pthB; rw [if_neg (by simp [hc1]), if_neg (by simp [hc4]), if_pos hc7]
    rw [he9]
    exact ⟨_, rfl, TM.pt0 (by simp [inK]), hp, Pst.tl _, hU⟩
   ·refine WC.seq (WC.region (WL.val rfl rfl rfl rfl (r_move rfl (ev_t rfl)) ?_))
    refine WL.cons (SO.call (kind_ok (k := 1) hp) rfl body_32 ⟨(ev_t rfl), ev_c, trivial⟩ rfl rfl rfl rfl ?_)
    rintro v9 w13 ⟨rfl, hu13⟩
    have hs13 := hu13.size
    replace hU := hU.trans hu13 (by exact (fun _ _ h => h.elim))
    replace hB1 := hB1.upd hu13 (by exact (fun h => h))
    replace hp := hp.upd hu13 (by exact (fun _ _ h => h))
    refine WL.val rfl rfl rfl rfl (r_assign rfl (ev_t rfl)) ?_
    refine WL.nil (WX.keep [(0, _), (2, _), (40, _)] ⟨rfl, rfl, rfl, trivial⟩ (WX.next (WC.cond rfl (ev_t rfl) (fun hc9 => ?_) (fun hc9 => ?_))))
    ·refine WC.seq (WC.region (WL.val rfl rfl rfl rfl (r_move rfl (ev_t rfl)) ?_))
     refine WL.cons (SO.call (text_ok9 (k := 1) hp (by decide)) rfl body_82 ⟨(ev_t rfl), ev_c, trivial⟩ rfl rfl rfl rfl ?_)
     rintro v9 w14 ⟨rfl, hp2, hu14⟩
     have hs14 := hu14.size
     replace hU := hU.trans hu14 (by exact (fun _ _ h => h))
     replace hB1 := hB1.upd hu14 (by (simp only [At]; omega))
     have hp := hp2
     rw [txtQ_T hc9]
     replace hp : PS w14 r B0 A (tlQ s) := by rw [txtQ_T hc9] at hp; exact hp
     refine WL.val rfl rfl rfl rfl (r_build (cs := #[_, _, _, _]) (vs := [(0, _), (1, _)]) rfl ⟨⟨rfl, ev_c⟩, ⟨rfl, (ev_t rfl)⟩, trivial⟩ plc_72 zero_72 rfl) ?_
     refine WL.cons (SO.storeAll (us := [_, _, _, _]) rfl (ev_t rfl) (ev_t rfl) size_72 hB1 rfl rfl rfl rfl rfl ?_)
     intro w15 hu15 hB1 hz15
     have hs15 := hu15.size
     replace hU := hU.trans hu15 (by (intro k hl hk; (try simp only [At, New, Grow, From, No] at hk ⊢); omega))
     replace hp := hp.upd hu15 (by (intro k hk hS; first | (simp only [At] at hS; omega) | (have := hG k hS; omega)))
     refine WL.nil (WX.keep [(2, _)] ⟨rfl, trivial⟩ (WX.next (WC.ret (WX.blockRet (WX.thenRet (WX.retC (vs := [_, _, _, _]) rfl rfl agg_72 size_72 (Blk.cellsL hB1) ?_))))))
     have he9 : pthB (pq n) s = (Pt.mk 2 s.hd.s 0 [], tlQ s) := by unfold pthB; rw [if_neg (by simp [hc1]), if_neg (by simp [hc4]), if_neg (by simp [hc7]), if_pos hc9]
     rw [he9]
     exact ⟨_, rfl, TM.pt0 (by simp [inK]), hp, Pst.tl _, hU⟩
    ·refine WC.seq (WC.region (WL.val rfl rfl rfl rfl (r_move rfl (ev_t rfl)) ?_))
     refine WL.cons (SO.call (kind_ok (k := 2) hp) rfl body_32 ⟨(ev_t rfl), ev_c, trivial⟩ rfl rfl rfl rfl ?_)
     rintro v9 w16 ⟨rfl, hu16⟩
     have hs16 := hu16.size
     replace hU := hU.trans hu16 (by exact (fun _ _ h => h.elim))
     replace hB1 := hB1.upd hu16 (by exact (fun h => h))
     replace hp := hp.upd hu16 (by exact (fun _ _ h => h))
     refine WL.val rfl rfl rfl rfl (r_assign rfl (ev_t rfl)) ?_
     refine WL.nil (WX.keep [(0, _), (2, _), (46, _)] ⟨rfl, rfl, rfl, trivial⟩ (WX.next (WC.cond rfl (ev_t rfl) (fun hc11 => ?_) (fun hc11 => ?_))))
     ·refine WC.seq (WC.region (WL.val rfl rfl rfl rfl (r_move rfl (ev_t rfl)) ?_))
      refine WL.cons (SO.call (text_ok9 (k := 2) hp (by decide)) rfl body_82 ⟨(ev_t rfl), ev_c, trivial⟩ rfl rfl rfl rfl ?_)
      rintro v9 w17 ⟨rfl, hp2, hu17⟩
      have hs17 := hu17.size
      replace hU := hU.trans hu17 (by exact (fun _ _ h => h))
      replace hB1 := hB1.upd hu17 (by (simp only [At]; omega))
      have hp := hp2
      rw [txtQ_T hc11]
      replace hp : PS w17 r B0 A (tlQ s) := by rw [txtQ_T hc11] at hp; exact hp
      refine WL.val rfl rfl rfl rfl (r_build (cs := #[_, _, _, _]) (vs := [(0, _), (1, _)]) rfl ⟨⟨rfl, ev_c⟩, ⟨rfl, (ev_t rfl)⟩, trivial⟩ plc_72 zero_72 rfl) ?_
      refine WL.cons (SO.storeAll (us := [_, _, _, _]) rfl (ev_t rfl) (ev_t rfl) size_72 hB1 rfl rfl rfl rfl rfl ?_)
      intro w18 hu18 hB1 hz18
      have hs18 := hu18.size
      replace hU := hU.trans hu18 (by (intro k hl hk; (try simp only [At, New, Grow, From, No] at hk ⊢); omega))
      replace hp := hp.upd hu18 (by (intro k hk hS; first | (simp only [At] at hS; omega) | (have := hG k hS; omega)))
      refine WL.nil (WX.keep [(2, _)] ⟨rfl, trivial⟩ (WX.next (WC.ret (WX.blockRet (WX.thenRet (WX.retC (vs := [_, _, _, _]) rfl rfl agg_72 size_72 (Blk.cellsL hB1) ?_))))))
      have he9 : pthB (pq n) s = (Pt.mk 10 s.hd.s 0 [], tlQ s) := by unfold pthB; rw [if_neg (by simp [hc1]), if_neg (by simp [hc4]), if_neg (by simp [hc7]), if_neg (by simp [hc9]), if_pos hc11]
      rw [he9]
      exact ⟨_, rfl, TM.pt0 (by simp [inK]), hp, Pst.tl _, hU⟩
     ·refine WC.seq (WC.region (WL.val rfl rfl rfl rfl (r_move rfl (ev_t rfl)) ?_))
      refine WL.cons (SO.call (take_ok (u := [95]) hp) rfl body_31 ⟨(ev_t rfl), ev_c, trivial⟩ rfl rfl rfl rfl ?_)
      rintro v9 w19 ⟨rfl, hp2, hu19⟩
      have hs19 := hu19.size
      replace hU := hU.trans hu19 (by exact (fun _ _ h => h))
      replace hB1 := hB1.upd hu19 (by (simp only [At]; omega))
      have hp := hp2
      refine WL.val rfl rfl rfl rfl (r_assign rfl (ev_t rfl)) ?_
      refine WL.nil (WX.keep [(0, _), (2, _), (52, _)] ⟨rfl, rfl, rfl, trivial⟩ (WX.next (WC.cond rfl (ev_t rfl) (fun hc13 => ?_) (fun hc13 => ?_))))
      ·rw [takQ_T hc13] at hp
       refine WC.seq (WC.region (WL.val rfl rfl rfl rfl (r_build (cs := #[_, _, _, _]) (vs := [(0, _)]) rfl ⟨⟨rfl, ev_c⟩, trivial⟩ plc_72 zero_72 rfl) ?_))
       refine WL.cons (SO.storeAll (us := [_, _, _, _]) rfl (ev_t rfl) (ev_t rfl) size_72 hB1 rfl rfl rfl rfl rfl ?_)
       intro w20 hu20 hB1 hz20
       have hs20 := hu20.size
       replace hU := hU.trans hu20 (by (intro k hl hk; (try simp only [At, New, Grow, From, No] at hk ⊢); omega))
       replace hp := hp.upd hu20 (by (intro k hk hS; first | (simp only [At] at hS; omega) | (have := hG k hS; omega)))
       refine WL.nil (WX.keep [(2, _)] ⟨rfl, trivial⟩ (WX.next (WC.ret (WX.blockRet (WX.thenRet (WX.retC (vs := [_, _, _, _]) rfl rfl agg_72 size_72 (Blk.cellsL hB1) ?_))))))
       have he9 : pthB (pq n) s = (Pt.mk 1 [] 0 [], tlQ s) := by unfold pthB; rw [if_neg (by simp [hc1]), if_neg (by simp [hc4]), if_neg (by simp [hc7]), if_neg (by simp [hc9]), if_neg (by simp [hc11]), if_pos hc13]
       rw [he9]
       exact ⟨_, rfl, TM.pt0 (by simp [inK]), hp, Pst.tl _, hU⟩
      ·rw [takQ_F hc13] at hp
       refine WC.seq (WC.region (WL.val rfl rfl rfl rfl (r_move rfl (ev_t rfl)) ?_))
       refine WL.cons (SO.call (take_ok (u := [116, 114, 117, 101]) hp) rfl body_31 ⟨(ev_t rfl), ev_c, trivial⟩ rfl rfl rfl rfl ?_)
       rintro v9 w21 ⟨rfl, hp2, hu21⟩
       have hs21 := hu21.size
       replace hU := hU.trans hu21 (by exact (fun _ _ h => h))
       replace hB1 := hB1.upd hu21 (by (simp only [At]; omega))
       have hp := hp2
       refine WL.val rfl rfl rfl rfl (r_assign rfl (ev_t rfl)) ?_
       refine WL.nil (WX.keep [(0, _), (2, _), (56, _)] ⟨rfl, rfl, rfl, trivial⟩ (WX.next (WC.cond rfl (ev_t rfl) (fun hc15 => ?_) (fun hc15 => ?_))))
       ·rw [takQ_T hc15] at hp
        refine WC.seq (WC.region (WL.val rfl rfl rfl rfl (r_build (cs := #[_, _, _, _]) (vs := [(0, _), (2, _)]) rfl ⟨⟨rfl, ev_c⟩, ⟨rfl, ev_c⟩, trivial⟩ plc_72 zero_72 rfl) ?_))
        refine WL.cons (SO.storeAll (us := [_, _, _, _]) rfl (ev_t rfl) (ev_t rfl) size_72 hB1 rfl rfl rfl rfl rfl ?_)
        intro w22 hu22 hB1 hz22
        have hs22 := hu22.size
        replace hU := hU.trans hu22 (by (intro k hl hk; (try simp only [At, New, Grow, From, No] at hk ⊢); omega))
        replace hp := hp.upd hu22 (by (intro k hk hS; first | (simp only [At] at hS; omega) | (have := hG k hS; omega)))
        refine WL.nil (WX.keep [(2, _)] ⟨rfl, trivial⟩ (WX.next (WC.ret (WX.blockRet (WX.thenRet (WX.retC (vs := [_, _, _, _]) rfl rfl agg_72 size_72 (Blk.cellsL hB1) ?_))))))
        have he9 : pthB (pq n) s = (Pt.mk 5 [] 1 [], tlQ s) := by unfold pthB; rw [if_neg (by simp [hc1]), if_neg (by simp [hc4]), if_neg (by simp [hc7]), if_neg (by simp [hc9]), if_neg (by simp [hc11]), if_neg (by simp [hc13]), if_pos hc15]
        rw [he9]
        exact ⟨_, rfl, TM.pt0 (by simp [inK]), hp, Pst.tl _, hU⟩
       ·rw [takQ_F hc15] at hp
        refine WC.seq (WC.region (WL.val rfl rfl rfl rfl (r_move rfl (ev_t rfl)) ?_))
        refine WL.cons (SO.call (take_ok (u := [102, 97, 108, 115, 101]) hp) rfl body_31 ⟨(ev_t rfl), ev_c, trivial⟩ rfl rfl rfl rfl ?_)
        rintro v9 w23 ⟨rfl, hp2, hu23⟩
        have hs23 := hu23.size
        replace hU := hU.trans hu23 (by exact (fun _ _ h => h))
        replace hB1 := hB1.upd hu23 (by (simp only [At]; omega))
        have hp := hp2
        refine WL.val rfl rfl rfl rfl (r_assign rfl (ev_t rfl)) ?_
        refine WL.nil (WX.keep [(0, _), (2, _), (60, _)] ⟨rfl, rfl, rfl, trivial⟩ (WX.next (WC.cond rfl (ev_t rfl) (fun hc17 => ?_) (fun hc17 => ?_))))
        ·rw [takQ_T hc17] at hp
         refine WC.seq (WC.region (WL.val rfl rfl rfl rfl (r_build (cs := #[_, _, _, _]) (vs := [(0, _)]) rfl ⟨⟨rfl, ev_c⟩, trivial⟩ plc_72 zero_72 rfl) ?_))
         refine WL.cons (SO.storeAll (us := [_, _, _, _]) rfl (ev_t rfl) (ev_t rfl) size_72 hB1 rfl rfl rfl rfl rfl ?_)
         intro w24 hu24 hB1 hz24
         have hs24 := hu24.size
         replace hU := hU.trans hu24 (by (intro k hl hk; (try simp only [At, New, Grow, From, No] at hk ⊢); omega))
         replace hp := hp.upd hu24 (by (intro k hk hS; first | (simp only [At] at hS; omega) | (have := hG k hS; omega)))
         refine WL.nil (WX.keep [(2, _)] ⟨rfl, trivial⟩ (WX.next (WC.ret (WX.blockRet (WX.thenRet (WX.retC (vs := [_, _, _, _]) rfl rfl agg_72 size_72 (Blk.cellsL hB1) ?_))))))
         have he9 : pthB (pq n) s = (Pt.mk 5 [] 0 [], tlQ s) := by unfold pthB; rw [if_neg (by simp [hc1]), if_neg (by simp [hc4]), if_neg (by simp [hc7]), if_neg (by simp [hc9]), if_neg (by simp [hc11]), if_neg (by simp [hc13]), if_neg (by simp [hc15]), if_pos hc17]
         rw [he9]
         exact ⟨_, rfl, TM.pt0 (by simp [inK]), hp, Pst.tl _, hU⟩
        ·rw [takQ_F hc17] at hp
         refine WC.seq (WC.region (WL.val rfl rfl rfl rfl (r_move rfl (ev_t rfl)) ?_))
         refine WL.cons (SO.call (take_ok (u := [40]) hp) rfl body_31 ⟨(ev_t rfl), ev_c, trivial⟩ rfl rfl rfl rfl ?_)
         rintro v9 w25 ⟨rfl, hp2, hu25⟩
         have hs25 := hu25.size
         replace hU := hU.trans hu25 (by exact (fun _ _ h => h))
         replace hB1 := hB1.upd hu25 (by (simp only [At]; omega))
         have hp := hp2
         refine WL.val rfl rfl rfl rfl (r_assign rfl (ev_t rfl)) ?_
         refine WL.nil (WX.keep [(0, _), (2, _), (64, _)] ⟨rfl, rfl, rfl, trivial⟩ (WX.next (WC.cond rfl (ev_t rfl) (fun hc19 => ?_) (fun hc19 => ?_))))
         ·rw [takQ_T hc19] at hp
          refine WC.seq (WC.seq (WC.region (WL.val rfl rfl rfl rfl (r_move rfl (ev_t rfl)) ?_)))
          refine WL.cons (SO.call (take_ok (u := [41]) hp) rfl body_31 ⟨(ev_t rfl), ev_c, trivial⟩ rfl rfl rfl rfl ?_)
          rintro v9 w26 ⟨rfl, hp2, hu26⟩
          have hs26 := hu26.size
          replace hU := hU.trans hu26 (by exact (fun _ _ h => h))
          replace hB1 := hB1.upd hu26 (by (simp only [At]; omega))
          have hp := hp2
          refine WL.nil (WX.keep [(0, _), (2, _), (68, _)] ⟨rfl, rfl, rfl, trivial⟩ (WX.next (WC.cond rfl (ev_t rfl) (fun hc20 => ?_) (fun hc20 => ?_))))
          ·rw [takQ_T hc20] at hp
           refine WC.seq (WC.region (WL.val rfl rfl rfl rfl (r_build (cs := #[_, _, _, _]) (vs := [(0, _)]) rfl ⟨⟨rfl, ev_c⟩, trivial⟩ plc_72 zero_72 rfl) ?_))
           refine WL.cons (SO.storeAll (us := [_, _, _, _]) rfl (ev_t rfl) (ev_t rfl) size_72 hB1 rfl rfl rfl rfl rfl ?_)
           intro w27 hu27 hB1 hz27
           have hs27 := hu27.size
           replace hU := hU.trans hu27 (by (intro k hl hk; (try simp only [At, New, Grow, From, No] at hk ⊢); omega))
           replace hp := hp.upd hu27 (by (intro k hk hS; first | (simp only [At] at hS; omega) | (have := hG k hS; omega)))
           refine WL.nil (WX.keep [(2, _)] ⟨rfl, trivial⟩ (WX.next (WC.ret (WX.thenRet (WX.blockRet (WX.thenRet (WX.retC (vs := [_, _, _, _]) rfl rfl agg_72 size_72 (Blk.cellsL hB1) ?_)))))))
           have he9 : pthB (pq n) s = (Pt.mk 6 [] 0 [], tlQ (tlQ s)) := by unfold pthB; rw [if_neg (by simp [hc1]), if_neg (by simp [hc4]), if_neg (by simp [hc7]), if_neg (by simp [hc9]), if_neg (by simp [hc11]), if_neg (by simp [hc13]), if_neg (by simp [hc15]), if_neg (by simp [hc17]), if_pos hc19, if_pos hc20]
           rw [he9]
           exact ⟨_, rfl, TM.pt0 (by simp [inK]), hp, (Pst.tl _).trans (Pst.tl _), hU⟩
          ·rw [takQ_F hc20] at hp
           refine WC.skip (WX.next (WC.seq ?_))
           obtain ⟨g, hg⟩ : ∃ g, g = (pq n).pcons := ⟨_, rfl⟩
           refine WC.region (WL.val rfl rfl rfl rfl (r_move rfl (ev_t rfl)) ?_)
           refine WL.cons (SO.call (ih _ _ _ _ _ hp (by (try simp only [tlQ_d, musQ_d, takQ_d, txtQ_d]); omega) (by (try simp only [tlQ_d, musQ_d, takQ_d, txtQ_d]); omega)) rfl body_125 ⟨(ev_t rfl), trivial⟩ rfl rfl rfl rfl ?_)
           rintro v9 w28 ⟨c9, rfl, ht, hp2, hst, hu28⟩
           have hs28 := hu28.size
           replace hU := hU.trans hu28 (by exact (fun _ _ h => h))
           replace hB1 := hB1.upd hu28 (by (simp only [At]; omega))
           have hp := hp2
           have hsd := hst.1
           try simp only [tlQ_d, musQ_d, takQ_d, txtQ_d] at hsd
           rw [← hg] at ht hp hst
           obtain ⟨tk, ts, tn, tks, tA, tp, txs, het, rfl, _⟩ := ht.mk4
           refine WL.cons (SO.alloc rfl rfl rfl rfl (r_buildSlice (cs := #[_, _, _, _]) (vs := [(0, _)]) rfl ⟨⟨rfl, (ev_t rfl)⟩, trivial⟩ row_33 rfl rfl) ?_)
           intro w29 hu29 hB29 hz29
           have hs29 := hu29.size
           replace hU := hU.trans hu29 (by exact (fun _ _ h => h.elim))
           replace hB1 := hB1.upd hu29 (by exact (fun h => h))
           replace hp := hp.upd hu29 (by exact (fun _ _ h => h))
           replace ht := ht.upd hu29 (fun k hk hl hS => by exact (show False from hS).elim)
           refine WL.val rfl rfl rfl rfl (r_assign rfl (ev_t rfl)) ?_
           refine WL.nil (WX.keep [(0, _), (2, _), (7, _)] ⟨rfl, rfl, rfl, trivial⟩ ?_)
           have hrow := hB29
           change Blk _ _ #[.int .u8 (tk : Int), Sv ts, .int .i64 tn, .slice tA tks.length tp] _ at hrow
           have hac : Acc 72 w29 (w.heap.size + 1) _ _ [(g (tlQ s)).1] := Acc.single hrow rfl ht (fun k hk => by simp only [Bt] at hk; omega) (by omega)
           have hPst := (Pst.tl s).trans hst
           have htl := tlQ_len s
           refine WX.next (WC.seq (WC.block ?_))
           -- loop 1: live [0, 2, 7]
           refine WC.keep [(0, _), (2, _), (7, _)] ⟨rfl, rfl, rfl, trivial⟩ (WC.loop (fun qq E wA => ∃ (s1 : St) (ks : List Pt) (G : Nat → Prop) (v1 : Value) (k1 : Nat), qq = k1 ∧ s1.ts.length ≤ k1 ∧ Upd (At r) w wA ∧ PS wA r B0 A s1 ∧ Pst s s1 ∧ Acc 72 wA (w.heap.size + 1) G v1 ks ∧ 0 < ks.length ∧ ks.length + s1.ts.length ≤ 2100 ∧ sepQ g [44] (g (tlQ s)).2.ts.length [(g (tlQ s)).1] (g (tlQ s)).2 = sepQ g [44] k1 ks s1 ∧ Blk wA w.heap.size #[.int .u8 0, .string ⟨#[]⟩, .int .i64 0, .slice none 0 0] 72 ∧ E = [(0, (.pointer (some ⟨r, 0, none⟩))), (2, .pointer (some ⟨w.heap.size, 0, none⟩)), (7, v1)]) ((g (tlQ s)).2.ts.length) ?_ ?_)
           ·exact ⟨_, _, _, _, _, rfl, Nat.le_refl _, hU, hp, hPst, hac, by simp, by have := hst.2.1; simp only [List.length_cons, List.length_nil]; omega, rfl, hB1, rfl⟩
           ·clear hU hp hPst hac hB1 hst ht hrow hsd
            rintro qq E wA ⟨s1, ks, G, v1, k1, rfl, hk1, hU, hp, hPst, hac, hk0, hkl, hsep, hB1, rfl⟩
            obtain ⟨A1, c1, rfl, hcc1⟩ := hac.form
            have hG := hac.lt
            have hI := hp.I
            have hsC := hU.size
            have hlt1 := hB1.lt
            have hd1 := hPst.1
            refine WC.seq (WC.seq (WC.region (WL.val rfl rfl rfl rfl (r_move rfl (ev_t rfl)) ?_)))
            refine WL.cons (SO.call (take_ok (u := [44]) hp) rfl body_31 ⟨(ev_t rfl), ev_c, trivial⟩ rfl rfl rfl rfl ?_)
            rintro v9 w30 ⟨rfl, hp2, hu30⟩
            have hs30 := hu30.size
            replace hU := hU.trans hu30 (by exact (fun _ _ h => h))
            replace hac := hac.upd hu30 (fun k hk hl hS => by (simp only [At] at hS; omega))
            replace hB1 := hB1.upd hu30 (by (simp only [At]; omega))
            have hp := hp2
            refine WL.nil (WX.keep [(0, _), (2, _), (7, _), (74, _)] ⟨rfl, rfl, rfl, rfl, trivial⟩ (WX.next (WC.cond rfl (ev_t rfl) (fun hc23 => ?_) (fun hc23 => ?_))))
            ·rw [takQ_T hc23] at hp
             obtain ⟨k2, rfl⟩ : ∃ k2, qq = k2 + 1 := ⟨qq - 1, by omega⟩
             rw [sepQ_step hc23] at hsep
             have htl1 := tlQ_len s1
             refine WC.skip (WX.next (WC.block (WC.region (WL.val rfl rfl rfl rfl (r_move rfl (ev_t rfl)) ?_))))
             refine WL.val rfl rfl rfl rfl (r_move rfl (ev_t rfl)) ?_
             refine WL.cons (SO.call (ih _ _ _ _ _ hp (by (try simp only [tlQ_d, musQ_d, takQ_d, txtQ_d]); omega) (by (try simp only [tlQ_d, musQ_d, takQ_d, txtQ_d]); omega)) rfl body_125 ⟨(ev_t rfl), trivial⟩ rfl rfl rfl rfl ?_)
             rintro v9 w31 ⟨c9, rfl, ht, hp2, hst, hu31⟩
             have hs31 := hu31.size
             replace hU := hU.trans hu31 (by exact (fun _ _ h => h))
             replace hac := hac.upd hu31 (fun k hk hl hS => by (simp only [At] at hS; omega))
             replace hB1 := hB1.upd hu31 (by (simp only [At]; omega))
             have hp := hp2
             have hsd := hst.1
             try simp only [tlQ_d, musQ_d, takQ_d, txtQ_d] at hsd
             rw [← hg] at ht hp hst
             obtain ⟨tk, ts, tn, tks, tA, tp, txs, het, rfl, _⟩ := ht.mk4
             refine WL.cons (SO.alloc rfl rfl rfl rfl (r_buildSlice (cs := #[_, _, _, _]) (vs := [(0, _)]) rfl ⟨⟨rfl, (ev_t rfl)⟩, trivial⟩ row_33 rfl rfl) ?_)
             intro w32 hu32 hB32 hz32
             have hs32 := hu32.size
             replace hU := hU.trans hu32 (by exact (fun _ _ h => h.elim))
             replace hac := hac.upd hu32 (fun k hk hl hS => by exact (show False from hS).elim)
             replace hB1 := hB1.upd hu32 (by exact (fun h => h))
             replace hp := hp.upd hu32 (by exact (fun _ _ h => h))
             replace ht := ht.upd hu32 (fun k hk hl hS => by exact (show False from hS).elim)
             refine WL.cons (SO.appendA hac ht (fun k hk => ⟨fun hG9 => by have := hG _ hG9; simp only [Bt] at hk; omega, by simp only [Bt] at hk; omega⟩) (Rd.of_blk (F := At _) (n := 1) (sz := 4) hB32 rfl rfl (by omega)) row_33 (by omega) rfl rfl (ev_t rfl) (ev_t rfl) rfl rfl rfl rfl ?_ (by omega))
             intro v5 w33 hac2 hu33 hBw
             have hs33 := hu33.size
             replace hU := hU.trans hu33 (by (intro k hl hk; first | exact hk | exact (show False from hk).elim | (have := hG k hk; omega) | (simp only [At] at *; exfalso; omega)))
             replace hB1 := hB1.upd hu33 (by (intro hS; have := hG _ hS; omega))
             replace hp := hp.upd hu33 (by (intro k hk hS; first | (simp only [At] at hS; omega) | (have := hG k hS; omega)))
             refine WL.val rfl rfl rfl rfl (r_assign rfl (ev_t rfl)) ?_
             refine WL.nil (WX.keep [(0, _), (2, _), (7, _)] ⟨rfl, rfl, rfl, trivial⟩ (WX.blockNormal (WX.meet [(0, _), (2, _), (7, _)] ⟨rfl, rfl, rfl, trivial⟩ ?_)))
             refine ⟨k2, by omega, _, _, _, _, _, rfl, by have := hst.2.1; omega, hU, hp, hPst.trans ((Pst.tl _).trans hst), hac2, by simp, ?_, hsep, hB1, rfl⟩
             have := hst.2.1
             simp only [List.length_append, List.length_cons, List.length_nil]
             omega
            ·rw [takQ_F hc23] at hp
             rw [sepQ_stop hc23] at hsep
             obtain ⟨xs, hrx, hmx⟩ := hac.done (by omega)
             obtain ⟨b1, o1, rfl, _⟩ := hrx.open hk0
             refine WC.exit (WX.thenExit (WX.thenExit (WX.blockHere (WX.next (WC.seq (WC.region (WL.val rfl rfl rfl rfl (r_move rfl (ev_t rfl)) ?_)))))))
             refine WL.cons (SO.call (must_ok (u := [41]) hp) rfl body_84 ⟨(ev_t rfl), ev_c, trivial⟩ rfl rfl rfl rfl ?_)
             rintro v9 w34 ⟨hp2, hu34⟩
             have hs34 := hu34.size
             replace hU := hU.trans hu34 (by exact (fun _ _ h => h))
             replace hB1 := hB1.upd hu34 (by (simp only [At]; omega))
             replace hrx := hrx.upd hu34 (fun k hk hl hS => by (simp only [At, Bt] at hS hk; omega))
             replace hmx := hmx.upd hu34 (fun k hk hl hS => by (simp only [At, Bt] at hS hk; omega))
             have hp := hp2
             have hPst := hPst.trans (Pst.mus s1 [41])
             have he9 : pthB (pq n) s = (ptupQ ks, musQ s1 [41]) := by
              unfold pthB
              rw [if_neg (by simp [hc1]), if_neg (by simp [hc4]), if_neg (by simp [hc7]), if_neg (by simp [hc9]), if_neg (by simp [hc11]), if_neg (by simp [hc13]), if_neg (by simp [hc15]), if_neg (by simp [hc17]), if_pos hc19, if_neg (by simp [hc20]), ← hg]
              simp only
              rw [hsep]
             refine WL.nil (WX.keep [(2, _), (7, _)] ⟨rfl, rfl, trivial⟩ (WX.next (WC.seq (WC.seq (WC.region (WL.val rfl rfl rfl rfl (r_move rfl (ev_t rfl)) ?_))))))
             refine WL.val rfl rfl rfl rfl (r_lenSlice (ts := #[]) rfl (ev_t rfl) elem_33) ?_
             refine WL.val rfl rfl rfl rfl (r_eql rfl (ev_t rfl) ev_c) ?_
             refine WL.nil (WX.keep [(2, _), (7, _), (84, _)] ⟨rfl, rfl, rfl, trivial⟩ (WX.next (WC.cond rfl (ev_t rfl) (fun hc26 => ?_) (fun hc26 => ?_))))
             ·try simp only [cS, ne_eq, Decidable.not_not] at hc26
              refine WC.seq ?_
              obtain ⟨k0, rfl⟩ := List.length_eq_one_iff.1 (show ks.length = 1 by omega)
              obtain ⟨c0, hx0, ht0⟩ := hmx.get (i := 0) (k := k0) rfl
              obtain ⟨tk, ts, tn, tks, tA, tp, txs, het, rfl, _⟩ := ht0.mk4
              refine WC.region (WL.val rfl rfl rfl rfl (r_move rfl (ev_t rfl)) ?_)
              refine WL.val rfl rfl rfl rfl (r_indexAddr rfl (ev_t rfl) ev_c elem_33 size_72 (by omega) (by omega)) ?_
              refine WL.val rfl rfl rfl rfl (r_loadAgg (vs := [_, _, _, _]) rfl (ev_t rfl) agg_72 size_72 (Rd.cellsL (us := [_, _, _, _]) hrx (i := 0 * 4) (by omega) (fun q v hv => flat_getN hmx.one_len hx0 hv))) ?_
              refine WL.cons (SO.storeAll (us := [_, _, _, _]) rfl (ev_t rfl) (ev_t rfl) size_72 hB1 rfl rfl rfl rfl rfl ?_)
              intro w35 hu35 hB1 hz35
              have hs35 := hu35.size
              replace hU := hU.trans hu35 (by (intro k hl hk; (try simp only [At, New, Grow, From, No] at hk ⊢); omega))
              replace hrx := hrx.upd hu35 (fun k hk hl hS => by (simp only [At, Bt] at hS hk; omega))
              replace hmx := hmx.upd hu35 (fun k hk hl hS => by (simp only [At, Bt] at hS hk; omega))
              replace hp := hp.upd hu35 (by (intro k hk hS; first | (simp only [At] at hS; omega) | (have := hG k hS; omega)))
              replace ht0 := ht0.upd hu35 (fun k hk hl hS => by (simp only [At, Bt] at hS hk; omega))
              refine WL.nil (WX.keep [(2, _)] ⟨rfl, trivial⟩ (WX.next (WC.ret (WX.thenRet (WX.blockRet (WX.thenRet (WX.retC (vs := [_, _, _, _]) rfl rfl agg_72 size_72 (Blk.cellsL hB1) ?_)))))))
              rw [he9, ptupQ_one]
              exact ⟨_, rfl, ht0.mono fun k hk => by simp only [Bt] at *; omega, hp, hPst, hU⟩
             ·try simp only [cS, ne_eq, Decidable.not_not] at hc26
              refine WC.skip (WX.next (WC.seq (WC.region (WL.val rfl rfl rfl rfl (r_move rfl (ev_t rfl)) ?_))))
              refine WL.val rfl rfl rfl rfl (r_build (cs := #[_, _, _, _]) (vs := [(0, _), (3, _)]) rfl ⟨⟨rfl, ev_c⟩, ⟨rfl, (ev_t rfl)⟩, trivial⟩ plc_72 zero_72 rfl) ?_
              refine WL.cons (SO.storeAll (us := [_, _, _, _]) rfl (ev_t rfl) (ev_t rfl) size_72 hB1 rfl rfl rfl rfl rfl ?_)
              intro w36 hu36 hB1 hz36
              have hs36 := hu36.size
              replace hU := hU.trans hu36 (by (intro k hl hk; (try simp only [At, New, Grow, From, No] at hk ⊢); omega))
              replace hrx := hrx.upd hu36 (fun k hk hl hS => by (simp only [At, Bt] at hS hk; omega))
              replace hmx := hmx.upd hu36 (fun k hk hl hS => by (simp only [At, Bt] at hS hk; omega))
              replace hp := hp.upd hu36 (by (intro k hk hS; first | (simp only [At] at hS; omega) | (have := hG k hS; omega)))
              refine WL.nil (WX.keep [(2, _)] ⟨rfl, trivial⟩ (WX.next (WC.ret (WX.blockRet (WX.thenRet (WX.retC (vs := [_, _, _, _]) rfl rfl agg_72 size_72 (Blk.cellsL hB1) ?_))))))
              rw [he9, ptupQ_more (by omega)]
              exact ⟨_, rfl, TM.pt (hrx.mono fun k hk => by simp only [Bt] at *; omega) (hmx.mono fun k hk => by simp only [Bt] at *; omega) (by simp [inK]), hp, hPst, hU⟩
         ·rw [takQ_F hc19] at hp
          refine WC.seq (WC.region (WL.val rfl rfl rfl rfl (r_move rfl (ev_t rfl)) ?_))
          refine WL.cons (SO.call (take_ok (u := [91]) hp) rfl body_31 ⟨(ev_t rfl), ev_c, trivial⟩ rfl rfl rfl rfl ?_)
          rintro v9 w37 ⟨rfl, hp2, hu37⟩
          have hs37 := hu37.size
          replace hU := hU.trans hu37 (by exact (fun _ _ h => h))
          replace hB1 := hB1.upd hu37 (by (simp only [At]; omega))
          have hp := hp2
          refine WL.val rfl rfl rfl rfl (r_assign rfl (ev_t rfl)) ?_
          refine WL.nil (WX.keep [(0, _), (2, _), (90, _)] ⟨rfl, rfl, rfl, trivial⟩ (WX.next (WC.cond rfl (ev_t rfl) (fun hc29 => ?_) (fun hc29 => ?_))))
          ·rw [takQ_T hc29] at hp
           refine WC.seq ?_
           obtain ⟨g, hg⟩ : ∃ g, g = (pq n).pcons := ⟨_, rfl⟩
           have htl := tlQ_len s
           refine WC.region (WL.val rfl rfl rfl rfl (r_assign rfl ev_c) ?_)
           refine WL.nil (WX.keep [(0, _), (2, _), (8, _)] ⟨rfl, rfl, rfl, trivial⟩ ?_)
           have hac : Acc 72 w37 (w.heap.size + 1) No (.slice none 0 0) ([] : List Pt) := Acc.nil _ _
           refine WX.next ?_
           -- cut 31: live [2, 8]
           refine WC.cut (fun E wA => ∃ (s2 : St) (ks : List Pt) (G : Nat → Prop) (v1 : Value), lstQ g ((tlQ s).ts.length + 2) [] (tlQ s) = (ks, s2) ∧ Upd (At r) w wA ∧ PS wA r B0 A s2 ∧ Pst s s2 ∧ Acc 72 wA (w.heap.size + 1) G v1 ks ∧ ks.length ≤ 2100 ∧ Blk wA w.heap.size #[.int .u8 0, .string ⟨#[]⟩, .int .i64 0, .slice none 0 0] 72 ∧ E = [(2, .pointer (some ⟨w.heap.size, 0, none⟩)), (8, v1)]) ?_ ?_
           ·refine WC.block ?_
            -- loop 2: live [0, 2, 8]
            refine WC.keep [(0, _), (2, _), (8, _)] ⟨rfl, rfl, rfl, trivial⟩ (WC.loop (fun qq E wA => ∃ (s1 : St) (ks : List Pt) (G : Nat → Prop) (v1 : Value) (k1 : Nat), qq = lstM ks.length s1 ∧ lstM ks.length s1 ≤ k1 ∧ Upd (At r) w wA ∧ PS wA r B0 A s1 ∧ Pst s s1 ∧ Acc 72 wA (w.heap.size + 1) G v1 ks ∧ ks.length + lstM ks.length s1 ≤ 2100 ∧ lstQ g ((tlQ s).ts.length + 2) [] (tlQ s) = lstQ g k1 ks s1 ∧ Blk wA w.heap.size #[.int .u8 0, .string ⟨#[]⟩, .int .i64 0, .slice none 0 0] 72 ∧ E = [(0, (.pointer (some ⟨r, 0, none⟩))), (2, .pointer (some ⟨w.heap.size, 0, none⟩)), (8, v1)]) (lstM 0 (tlQ s)) ?_ ?_)
            ·exact ⟨_, _, _, _, _, rfl, by unfold lstM; split <;> split <;> omega, hU, hp, Pst.tl _, hac, by unfold lstM; simp only [List.length_nil]; split <;> split <;> omega, rfl, hB1, rfl⟩
            ·clear hU hp hac hB1
             rintro qq E wA ⟨s1, ks, G, v1, k1, rfl, hk1, hU, hp, hPst, hac, hkl, hlst, hB1, rfl⟩
             obtain ⟨A1, c1, rfl, hcc1⟩ := hac.form
             have hG := hac.lt
             have hI := hp.I
             have hsC := hU.size
             have hlt1 := hB1.lt
             have hd1 := hPst.1
             have hkl9 : ks.length ≤ 2100 := by omega
             refine WC.seq (WC.seq (WC.region ?_))
             obtain ⟨FD, bD, offD, cD, zD, badD, hbD, hzD, hrD, hFD, hID⟩ := hp.open
             refine WL.val rfl rfl rfl rfl (r_move rfl (ev_t rfl)) ?_
             refine WL.val rfl rfl rfl rfl (r_nilCheck rfl (ev_t rfl)) ?_
             refine WL.val rfl rfl rfl rfl (r_field0 rfl (ev_t rfl) fld_58_4) ?_
             refine WL.val rfl rfl rfl rfl (r_load rfl (ev_t rfl) flat_3 (Blk.cell hbD rfl)) ?_
             refine WL.val rfl rfl rfl rfl (r_eql rfl (ev_t rfl) ev_c) ?_
             refine WL.val rfl rfl rfl rfl (r_move rfl (ev_t rfl)) ?_
             refine WL.cases 98 rfl (fun hb31_5 => ?_) (fun hb31_5 => ?_)
             ·try simp only [cS, ne_eq, Decidable.not_not] at hb31_5
              refine WL.val rfl rfl rfl rfl (r_move rfl (ev_t rfl)) ?_
              refine WL.cons (SO.call (take_ok (u := [93]) hp) rfl body_31 ⟨(ev_t rfl), ev_c, trivial⟩ rfl rfl rfl rfl ?_)
              rintro v9 w38 ⟨rfl, hp2, hu38⟩
              have hs38 := hu38.size
              replace hU := hU.trans hu38 (by exact (fun _ _ h => h))
              replace hac := hac.upd hu38 (fun k hk hl hS => by (simp only [At] at hS; omega))
              replace hB1 := hB1.upd hu38 (by (simp only [At]; omega))
              have hp := hp2
              refine WL.val rfl rfl rfl rfl (r_not rfl (ev_t rfl)) ?_
              refine WL.val rfl rfl rfl rfl (r_pickT rfl (ev_t rfl) (ev_t rfl)) ?_
              refine WL.nil (WX.keep [(0, _), (2, _), (8, _), (102, _)] ⟨rfl, rfl, rfl, rfl, trivial⟩ (WX.next (WC.cond rfl (ev_t rfl) (fun hc31 => ?_) (fun hc31 => ?_))))
              ·try simp only [cS, ne_eq, Decidable.not_not] at hc31
               have he0 : s1.e = 0 := by omega
               have hq9 : isQ s1 [93] = false := by simpa using hc31
               rw [takQ_F hq9] at hp
               obtain ⟨k2, rfl⟩ : ∃ k2, k1 = k2 + 1 := ⟨k1 - 1, by have := lstM_pos (n := ks.length) hI.1; omega⟩
               rw [lstQ_step he0 hq9] at hlst
               refine WC.skip (WX.next (WC.block (WC.seq (WC.seq (WC.region (WL.val rfl rfl rfl rfl (r_move rfl (ev_t rfl)) ?_))))))
               refine WL.val rfl rfl rfl rfl (r_lenSlice (ts := #[]) rfl (ev_t rfl) elem_33) ?_
               refine WL.val rfl rfl rfl rfl (r_gtr rfl (ev_t rfl) ev_c) ?_
               refine WL.nil (WX.keep [(0, _), (2, _), (8, _), (105, _)] ⟨rfl, rfl, rfl, rfl, trivial⟩ (WX.next (WC.cond rfl (ev_t rfl) (fun hc32 => ?_) (fun hc32 => ?_))))
               ·try simp only [cS, ne_eq, Decidable.not_not] at hc32
                refine WC.region (WL.val rfl rfl rfl rfl (r_move rfl (ev_t rfl)) ?_)
                refine WL.cons (SO.call (must_ok (u := [59]) hp) rfl body_84 ⟨(ev_t rfl), ev_c, trivial⟩ rfl rfl rfl rfl ?_)
                rintro v9 w39 ⟨hp2, hu39⟩
                have hs39 := hu39.size
                replace hU := hU.trans hu39 (by exact (fun _ _ h => h))
                replace hac := hac.upd hu39 (fun k hk hl hS => by (simp only [At] at hS; omega))
                replace hB1 := hB1.upd hu39 (by (simp only [At]; omega))
                have hp := hp2
                have hs9 : (if ks.length = 0 then s1 else musQ s1 [59]) = musQ s1 [59] := if_neg (by omega)
                have hs9d : (musQ s1 [59]).d = s.d := by rw [musQ_d]; exact hd1
                rw [← hs9] at hp hs9d
                refine WL.nil (WX.keep [(0, _), (2, _), (8, _)] ⟨rfl, rfl, rfl, trivial⟩ (WX.next (WC.region (WL.val rfl rfl rfl rfl (r_move rfl (ev_t rfl)) ?_))))
                refine WL.val rfl rfl rfl rfl (r_move rfl (ev_t rfl)) ?_
                refine WL.cons (SO.call (ih _ _ _ _ _ hp (by (try simp only [tlQ_d, musQ_d, takQ_d, txtQ_d]); omega) (by (try simp only [tlQ_d, musQ_d, takQ_d, txtQ_d]); omega)) rfl body_125 ⟨(ev_t rfl), trivial⟩ rfl rfl rfl rfl ?_)
                rintro v9 w40 ⟨c9, rfl, ht, hp2, hst, hu40⟩
                have hs40 := hu40.size
                replace hU := hU.trans hu40 (by exact (fun _ _ h => h))
                replace hac := hac.upd hu40 (fun k hk hl hS => by (simp only [At] at hS; omega))
                replace hB1 := hB1.upd hu40 (by (simp only [At]; omega))
                have hp := hp2
                have hsd := hst.1
                try simp only [tlQ_d, musQ_d, takQ_d, txtQ_d] at hsd
                rw [← hg] at ht hp hst
                obtain ⟨tk, ts, tn, tks, tA, tp, txs, het, rfl, _⟩ := ht.mk4
                refine WL.cons (SO.alloc rfl rfl rfl rfl (r_buildSlice (cs := #[_, _, _, _]) (vs := [(0, _)]) rfl ⟨⟨rfl, (ev_t rfl)⟩, trivial⟩ row_33 rfl rfl) ?_)
                intro w41 hu41 hB41 hz41
                have hs41 := hu41.size
                replace hU := hU.trans hu41 (by exact (fun _ _ h => h.elim))
                replace hac := hac.upd hu41 (fun k hk hl hS => by exact (show False from hS).elim)
                replace hB1 := hB1.upd hu41 (by exact (fun h => h))
                replace hp := hp.upd hu41 (by exact (fun _ _ h => h))
                replace ht := ht.upd hu41 (fun k hk hl hS => by exact (show False from hS).elim)
                refine WL.cons (SO.appendA hac ht (fun k hk => ⟨fun hG9 => by have := hG _ hG9; simp only [Bt] at hk; omega, by simp only [Bt] at hk; omega⟩) (Rd.of_blk (F := At _) (n := 1) (sz := 4) hB41 rfl rfl (by omega)) row_33 (by omega) rfl rfl (ev_t rfl) (ev_t rfl) rfl rfl rfl rfl ?_ (by omega))
                intro v5 w42 hac2 hu42 hBw
                have hs42 := hu42.size
                replace hU := hU.trans hu42 (by (intro k hl hk; first | exact hk | exact (show False from hk).elim | (have := hG k hk; omega) | (simp only [At] at *; exfalso; omega)))
                replace hB1 := hB1.upd hu42 (by (intro hS; have := hG _ hS; omega))
                replace hp := hp.upd hu42 (by (intro k hk hS; first | (simp only [At] at hS; omega) | (have := hG k hS; omega)))
                refine WL.val rfl rfl rfl rfl (r_assign rfl (ev_t rfl)) ?_
                refine WL.nil (WX.keep [(0, _), (2, _), (8, _)] ⟨rfl, rfl, rfl, trivial⟩ (WX.blockNormal (WX.meet [(0, _), (2, _), (8, _)] ⟨rfl, rfl, rfl, trivial⟩ ?_)))
                have hM := lstM_step (n := ks.length) he0 hI.1 hst
                have hP9 : Pst s1 (if ks.length = 0 then s1 else musQ s1 [59]) := by rw [hs9]; first | exact Pst.refl _ | exact Pst.mus _ _
                refine ⟨_, ?_, _, _, _, _, k2, rfl, ?_, hU, hp, hPst.trans (hP9.trans hst), hac2, ?_, hlst, hB1, rfl⟩
                ·rw [List.length_append, List.length_singleton]
                 omega
                ·rw [List.length_append, List.length_singleton]
                 omega
                ·rw [List.length_append, List.length_singleton]
                 omega
               ·try simp only [cS, ne_eq, Decidable.not_not] at hc32
                have hs9 : (if ks.length = 0 then s1 else musQ s1 [59]) = s1 := if_pos (by omega)
                have hs9d : s1.d = s.d := hd1
                rw [← hs9] at hp hs9d
                refine WC.skip (WX.next (WC.region (WL.val rfl rfl rfl rfl (r_move rfl (ev_t rfl)) ?_)))
                refine WL.val rfl rfl rfl rfl (r_move rfl (ev_t rfl)) ?_
                refine WL.cons (SO.call (ih _ _ _ _ _ hp (by (try simp only [tlQ_d, musQ_d, takQ_d, txtQ_d]); omega) (by (try simp only [tlQ_d, musQ_d, takQ_d, txtQ_d]); omega)) rfl body_125 ⟨(ev_t rfl), trivial⟩ rfl rfl rfl rfl ?_)
                rintro v9 w43 ⟨c9, rfl, ht, hp2, hst, hu43⟩
                have hs43 := hu43.size
                replace hU := hU.trans hu43 (by exact (fun _ _ h => h))
                replace hac := hac.upd hu43 (fun k hk hl hS => by (simp only [At] at hS; omega))
                replace hB1 := hB1.upd hu43 (by (simp only [At]; omega))
                have hp := hp2
                have hsd := hst.1
                try simp only [tlQ_d, musQ_d, takQ_d, txtQ_d] at hsd
                rw [← hg] at ht hp hst
                obtain ⟨tk, ts, tn, tks, tA, tp, txs, het, rfl, _⟩ := ht.mk4
                refine WL.cons (SO.alloc rfl rfl rfl rfl (r_buildSlice (cs := #[_, _, _, _]) (vs := [(0, _)]) rfl ⟨⟨rfl, (ev_t rfl)⟩, trivial⟩ row_33 rfl rfl) ?_)
                intro w44 hu44 hB44 hz44
                have hs44 := hu44.size
                replace hU := hU.trans hu44 (by exact (fun _ _ h => h.elim))
                replace hac := hac.upd hu44 (fun k hk hl hS => by exact (show False from hS).elim)
                replace hB1 := hB1.upd hu44 (by exact (fun h => h))
                replace hp := hp.upd hu44 (by exact (fun _ _ h => h))
                replace ht := ht.upd hu44 (fun k hk hl hS => by exact (show False from hS).elim)
                refine WL.cons (SO.appendA hac ht (fun k hk => ⟨fun hG9 => by have := hG _ hG9; simp only [Bt] at hk; omega, by simp only [Bt] at hk; omega⟩) (Rd.of_blk (F := At _) (n := 1) (sz := 4) hB44 rfl rfl (by omega)) row_33 (by omega) rfl rfl (ev_t rfl) (ev_t rfl) rfl rfl rfl rfl ?_ (by omega))
                intro v5 w45 hac2 hu45 hBw
                have hs45 := hu45.size
                replace hU := hU.trans hu45 (by (intro k hl hk; first | exact hk | exact (show False from hk).elim | (have := hG k hk; omega) | (simp only [At] at *; exfalso; omega)))
                replace hB1 := hB1.upd hu45 (by (intro hS; have := hG _ hS; omega))
                replace hp := hp.upd hu45 (by (intro k hk hS; first | (simp only [At] at hS; omega) | (have := hG k hS; omega)))
                refine WL.val rfl rfl rfl rfl (r_assign rfl (ev_t rfl)) ?_
                refine WL.nil (WX.keep [(0, _), (2, _), (8, _)] ⟨rfl, rfl, rfl, trivial⟩ (WX.blockNormal (WX.meet [(0, _), (2, _), (8, _)] ⟨rfl, rfl, rfl, trivial⟩ ?_)))
                have hM := lstM_step (n := ks.length) he0 hI.1 hst
                have hP9 : Pst s1 (if ks.length = 0 then s1 else musQ s1 [59]) := by rw [hs9]; first | exact Pst.refl _ | exact Pst.mus _ _
                refine ⟨_, ?_, _, _, _, _, k2, rfl, ?_, hU, hp, hPst.trans (hP9.trans hst), hac2, ?_, hlst, hB1, rfl⟩
                ·rw [List.length_append, List.length_singleton]
                 omega
                ·rw [List.length_append, List.length_singleton]
                 omega
                ·rw [List.length_append, List.length_singleton]
                 omega
              ·try simp only [cS, ne_eq, Decidable.not_not] at hc31
               refine WC.exit (WX.thenExit (WX.thenExit (WX.blockHere (WX.meet [(2, _), (8, _)] ⟨rfl, rfl, trivial⟩ ?_))))
               first
                | (have he0 : s1.e = 0 := by omega
                   have hq9 : isQ s1 [93] = true := by simpa using hc31
                   rw [takQ_T hq9] at hp
                   obtain ⟨k2, rfl⟩ : ∃ k2, k1 = k2 + 1 := ⟨k1 - 1, by have := lstM_pos (n := ks.length) hI.1; omega⟩
                   rw [lstQ_shut he0 hq9] at hlst
                   exact ⟨_, _, _, _, hlst, hU, hp, hPst.trans (Pst.tl _), hac, hkl9, hB1, rfl⟩)
                | (have he1 : s1.e ≠ 0 := by omega
                   rw [lstQ_stop (s := s1) he1] at hlst
                   exact ⟨_, _, _, _, hlst, hU, hp, hPst, hac, hkl9, hB1, rfl⟩)
             ·try simp only [cS, ne_eq, Decidable.not_not] at hb31_5
              refine WL.skip rfl rfl rfl (WL.skip rfl rfl rfl (WL.skip rfl rfl rfl (WL.val rfl rfl rfl rfl (r_pickF rfl (ev_t rfl) ev_c) ?_)))
              refine WL.nil (WX.keep [(0, _), (2, _), (8, _), (102, _)] ⟨rfl, rfl, rfl, rfl, trivial⟩ (WX.next (WC.cond_false rfl (ev_t rfl) ?_)))
              refine WC.exit (WX.thenExit (WX.thenExit (WX.blockHere (WX.meet [(2, _), (8, _)] ⟨rfl, rfl, trivial⟩ ?_))))
              first
               | (have he0 : s1.e = 0 := by omega
                  have hq9 : isQ s1 [93] = true := by simpa using hc31
                  rw [takQ_T hq9] at hp
                  obtain ⟨k2, rfl⟩ : ∃ k2, k1 = k2 + 1 := ⟨k1 - 1, by have := lstM_pos (n := ks.length) hI.1; omega⟩
                  rw [lstQ_shut he0 hq9] at hlst
                  exact ⟨_, _, _, _, hlst, hU, hp, hPst.trans (Pst.tl _), hac, hkl9, hB1, rfl⟩)
               | (have he1 : s1.e ≠ 0 := by omega
                  rw [lstQ_stop (s := s1) he1] at hlst
                  exact ⟨_, _, _, _, hlst, hU, hp, hPst, hac, hkl9, hB1, rfl⟩)
           ·clear hU hp hac hB1
            rintro E wA ⟨s2, ks, G, v1, hlst, hU, hp, hPst, hac, hkl, hB1, rfl⟩
            obtain ⟨A1, c1, rfl, hcc1⟩ := hac.form
            have hsA := hU.size
            have hlt1 := hB1.lt
            obtain ⟨xs, hrx, hmx⟩ := hac.done (by omega)
            have he9 : pthB (pq n) s = (ks.foldr (fun a x => .mk 9 [] 0 [a, x]) (.mk 8 [] 0 []), s2) := by
             unfold pthB
             rw [if_neg (by simp [hc1]), if_neg (by simp [hc4]), if_neg (by simp [hc7]), if_neg (by simp [hc9]), if_neg (by simp [hc11]), if_neg (by simp [hc13]), if_neg (by simp [hc15]), if_neg (by simp [hc17]), if_neg (by simp [hc19]), if_pos hc29, ← hg]
             simp only
             rw [hlst]
            refine WC.seq (WC.region (WL.val rfl rfl rfl rfl (r_build (cs := #[_, _, _, _]) (vs := [(0, _)]) rfl ⟨⟨rfl, ev_c⟩, trivial⟩ plc_72 zero_72 rfl) ?_))
            refine WL.cons (SO.alloc rfl rfl rfl rfl (r_alloc rfl zero_72) ?_)
            intro w46 hu46 hB46 hz46
            have hs46 := hu46.size
            replace hU := hU.trans hu46 (by exact (fun _ _ h => h.elim))
            replace hp := hp.upd hu46 (by exact (fun _ _ h => h))
            replace hrx := hrx.upd hu46 (fun k hk hl hS => by exact (show False from hS).elim)
            replace hmx := hmx.upd hu46 (fun k hk hl hS => by exact (show False from hS).elim)
            replace hB1 := hB1.upd hu46 (by exact (fun h => h))
            refine WL.cons (SO.storeAll (us := [_, _, _, _]) rfl (ev_t rfl) (ev_t rfl) size_72 hB46 rfl rfl rfl rfl rfl ?_)
            intro w47 hu47 hB46 hz47
            have hs47 := hu47.size
            replace hU := hU.trans hu47 (by (intro k hl hk; (try simp only [At, New, Grow, From, No] at hk ⊢); omega))
            replace hp := hp.upd hu47 (by (intro k hk hS; first | (simp only [At] at hS; omega) | (have := hG k hS; omega)))
            replace hrx := hrx.upd hu47 (fun k hk hl hS => by (simp only [At, Bt] at hS hk; omega))
            replace hmx := hmx.upd hu47 (fun k hk hl hS => by (simp only [At, Bt] at hS hk; omega))
            replace hB1 := hB1.upd hu47 (by (simp only [At]; omega))
            refine WL.nil (WX.keep [(2, _), (8, _), (9, _)] ⟨rfl, rfl, rfl, trivial⟩ ?_)
            have hb9 := hB46
            change Blk _ _ #[.int .u8 8, .string ⟨#[]⟩, .int .i64 0, .slice none 0 0] _ at hb9
            have hz9 : wA.heap.size < w47.heap.size := hb9.lt
            refine WX.next (WC.seq (WC.seq (WC.region (WL.val rfl rfl rfl rfl (r_move rfl (ev_t rfl)) ?_))))
            refine WL.val rfl rfl rfl rfl (r_lenSlice (ts := #[]) rfl (ev_t rfl) elem_33) ?_
            refine WL.val rfl rfl rfl rfl (r_subN rfl (ev_t rfl) ev_c (by simp only [inK]; omega)) ?_
            refine WL.val rfl rfl rfl rfl (r_assign rfl (ev_t rfl)) ?_
            refine WL.nil (WX.keep [(2, _), (8, _), (9, _), (10, _)] ⟨rfl, rfl, rfl, rfl, trivial⟩ (WX.next (WC.block ?_)))
            -- loop 3: live [2, 8, 9, 10]
            refine WC.keep [(2, _), (8, _), (9, _), (10, _)] ⟨rfl, rfl, rfl, rfl, trivial⟩ (WC.loop (fun qq E wB => ∃ (j : Nat) (y0 y1 y2 y3 : Value), j ≤ ks.length ∧ qq = j ∧ Upd (At r) w wB ∧ PS wB r B0 A s2 ∧ Rd wB (Bt (w.heap.size + 1) wA.heap.size) (.slice A1 ks.length c1) ks.length 4 (xs.flatMap id) ∧ Ms wB (Bt (w.heap.size + 1) wA.heap.size) xs ks ∧ TM wB (fun k => Bt (w.heap.size + 1) wB.heap.size k ∧ k ≠ wA.heap.size) [y0, y1, y2, y3] ((ks.drop j).foldr (fun a x => Pt.mk 9 [] 0 [a, x]) (Pt.mk 8 [] 0 [])) ∧ Blk wB w.heap.size #[.int .u8 0, .string ⟨#[]⟩, .int .i64 0, .slice none 0 0] 72 ∧ Blk wB wA.heap.size #[y0, y1, y2, y3] 72 ∧ E = [(2, .pointer (some ⟨w.heap.size, 0, none⟩)), (8, .slice A1 ks.length c1), (9, .pointer (some ⟨wA.heap.size, 0, none⟩)), (10, .int .i64 ((j : Int) - 1))]) (ks.length) ?_ ?_)
            ·exact ⟨ks.length, _, _, _, _, Nat.le_refl _, rfl, hU, hp, hrx, hmx, by rw [List.drop_length]; exact TM.pt0 (by simp [inK]), hB1, hb9, rfl⟩
            ·clear hU hp hrx hmx hB1 hb9
             rintro qq E wB ⟨j, y0, y1, y2, y3, hj, rfl, hU, hp, hrx, hmx, ht, hB1, hb9, rfl⟩
             have hsB := hU.size
             have hlt9 := hb9.lt
             obtain ⟨tk, ts, tn, tks, tA, tp, txs, het, hcs9, _⟩ := ht.mk4
             obtain ⟨rfl, rfl, rfl, rfl⟩ : y0 = _ ∧ y1 = _ ∧ y2 = _ ∧ y3 = _ := by simpa using hcs9
             refine WC.seq (WC.seq (WC.region (WL.val rfl rfl rfl rfl (r_move rfl (ev_t rfl)) ?_)))
             refine WL.val rfl rfl rfl rfl (r_geq rfl (ev_t rfl) ev_c) ?_
             refine WL.nil (WX.keep [(2, _), (8, _), (9, _), (10, _), (118, _)] ⟨rfl, rfl, rfl, rfl, rfl, trivial⟩ (WX.next (WC.cond rfl (ev_t rfl) (fun hc37 => ?_) (fun hc37 => ?_))))
             ·try simp only [cS, ne_eq, Decidable.not_not] at hc37
              obtain ⟨i, rfl⟩ : ∃ i, qq = i + 1 := ⟨qq - 1, by omega⟩
              have hi : i < ks.length := by omega
              obtain ⟨b1, o1, rfl, _⟩ := hrx.open (by omega)
              have hki : ks[i]? = some ks[i] := List.getElem?_eq_getElem hi
              have hdr := List.drop_eq_getElem_cons hi
              generalize ks[i] = k0 at hki hdr
              obtain ⟨c0, hx0, ht0⟩ := hmx.get hki
              obtain ⟨uk, us, un, uks, uA, up, uxs, het2, rfl, _⟩ := ht0.mk4
              refine WC.skip (WX.next (WC.seq (WC.block (WC.draws' (fun u0_ u1_ => Upd (At wA.heap.size) u0_ u1_) (fun j => [0, 0, 0, 0, 1, 2, 0, 2].getD j 0) (.calm 0 (.calm 1 (.calm 2 (.held 3 (.one 4 (.one 5 (.calm 6 (.one 7 (.done))))))))) mixed (by kernel_rfl) (by repeat (first | with_reducible exact Deaf.body | with_reducible apply Deaf.then | with_reducible apply Deaf.block)) ?_))))
              intro w48 hu48
              have hz48 := congrArg Array.size hu48.2.2.2
              replace hu48 := Upd.of_draw hu48
              have hs48 := hu48.size
              replace hU := hU.trans hu48 (by exact (fun _ _ h => h.elim))
              replace hp := hp.upd hu48 (by exact (fun _ _ h => h))
              replace hrx := hrx.upd hu48 (fun k hk hl hS => by exact (show False from hS).elim)
              replace hmx := hmx.upd hu48 (fun k hk hl hS => by exact (show False from hS).elim)
              replace ht := ht.upd hu48 (fun k hk hl hS => by exact (show False from hS).elim)
              replace hB1 := hB1.upd hu48 (by exact (fun h => h))
              replace hb9 := hb9.upd hu48 (by exact (fun h => h))
              replace ht0 := ht0.upd hu48 (fun k hk hl hS => by exact (show False from hS).elim)
              have hS39 := Upd.refl (At wA.heap.size) w48
              refine WN.calm _ rfl rfl rfl rfl rfl (fun _ => r_move rfl (ev_t rfl)) ?_
              refine WN.calm _ rfl rfl rfl rfl rfl (fun _ => r_move rfl (ev_t rfl)) ?_
              refine WN.calm _ rfl rfl rfl rfl rfl (fun _ => r_indexAddr rfl (ev_t rfl) (ev_t rfl) elem_33 size_72 (by omega) (by omega)) ?_
              refine WN.held _ rfl rfl rfl rfl rfl hS39 (fun w' hS => r_loadAgg (vs := [_, _, _, _]) rfl (ev_t rfl) agg_72 size_72 (Rd.cellsL (us := [_, _, _, _]) (hrx.upd hS (by intro k hk hl hS'; (try simp only [At, From, No, Grow, New, Bt] at hk hS'); omega)) (i := i * 4) (by omega) (fun q v hv => flat_getN hmx.one_len hx0 hv))) ?_
              refine WN.step _ rfl (SO.val rfl rfl rfl rfl (r_loadAgg (vs := [_, _, _, _]) rfl (ev_t rfl) agg_72 size_72 (Blk.cellsL hb9)) ?_)
              refine ⟨hS39, ?_⟩
              refine WN.step _ rfl (SO.alloc rfl rfl rfl rfl (r_buildSlice44 rfl (ev_t rfl) (ev_t rfl) row_33) ?_)
              intro w49 hu49 hrow hz9
              have hs49 := hu49.size
              try replace hS39 := Upd.trans hS39 hu49 (by intro k hl hk; exact (show False from hk).elim)
              replace hU := hU.trans hu49 (by exact (fun _ _ h => h.elim))
              replace hp := hp.upd hu49 (by exact (fun _ _ h => h))
              replace hrx := hrx.upd hu49 (fun k hk hl hS => by exact (show False from hS).elim)
              replace hmx := hmx.upd hu49 (fun k hk hl hS => by exact (show False from hS).elim)
              replace ht := ht.upd hu49 (fun k hk hl hS => by exact (show False from hS).elim)
              replace hB1 := hB1.upd hu49 (by exact (fun h => h))
              replace hb9 := hb9.upd hu49 (by exact (fun h => h))
              replace ht0 := ht0.upd hu49 (fun k hk hl hS => by exact (show False from hS).elim)
              refine ⟨trivial, ?_⟩
              refine WN.calm _ rfl rfl rfl rfl rfl (fun _ => r_build (cs := #[_, _, _, _]) (vs := [(0, _), (3, _)]) rfl ⟨⟨rfl, ev_c⟩, ⟨rfl, (ev_t rfl)⟩, trivial⟩ plc_72 zero_72 rfl) ?_
              refine WN.step _ rfl (SO.storeAll (us := [_, _, _, _]) rfl (ev_t rfl) (ev_t rfl) size_72 hb9 rfl rfl rfl rfl rfl ?_)
              intro w50 hu50 hb9 hz50
              have hs50 := hu50.size
              try replace hS39 := Upd.trans hS39 hu50 (by intro k hl hk; exact hk)
              replace hU := hU.trans hu50 (by (intro k hl hk; (try simp only [At, New, Grow, From, No] at hk ⊢); omega))
              replace hp := hp.upd hu50 (by (intro k hk hS; first | (simp only [At] at hS; omega) | (have := hG k hS; omega)))
              replace hrx := hrx.upd hu50 (fun k hk hl hS => by (simp only [At, Bt] at hS hk; omega))
              replace hmx := hmx.upd hu50 (fun k hk hl hS => by (simp only [At, Bt] at hS hk; omega))
              replace ht := ht.upd hu50 (fun k hk hl hS => by (simp only [At, Bt] at hS hk; omega))
              replace hB1 := hB1.upd hu50 (by (simp only [At]; omega))
              replace ht0 := ht0.upd hu50 (fun k hk hl hS => by (simp only [At, Bt] at hS hk; omega))
              replace hrow := hrow.updA hu50
              refine ⟨trivial, ?_⟩
              refine WN.done ?_
              refine WX.keep [(2, _), (8, _), (9, _), (10, _)] ⟨rfl, rfl, rfl, rfl, trivial⟩ (WX.blockNormal (WX.next (WC.region (WL.val rfl rfl rfl rfl (r_move rfl (ev_t rfl)) ?_))))
              refine WL.val rfl rfl rfl rfl (r_subN rfl (ev_t rfl) ev_c (by simp only [inK]; omega)) ?_
              refine WL.val rfl rfl rfl rfl (r_assign rfl (ev_t rfl)) ?_
              refine WL.nil (WX.keep [(2, _), (8, _), (9, _), (10, _)] ⟨rfl, rfl, rfl, rfl, trivial⟩ (WX.meet [(2, _), (8, _), (9, _), (10, _)] ⟨rfl, rfl, rfl, rfl, trivial⟩ ?_))
              have hrl := hrow.lt
              refine ⟨i, by omega, i, _, _, _, _, by omega, rfl, hU, hp, hrx, hmx, ?_, hB1, hb9, by simp⟩
              rw [hdr]
              exact TM.pt (xs := [[_, _, _, _], [_, _, _, _]]) (Rd.of_blk (n := 2) (sz := 4) hrow (by simp only [Bt]; omega) rfl (by omega)) (Ms.cons (ht0.mono fun k hk => by simp only [Bt] at *; omega) (Ms.cons (ht.mono fun k hk => by simp only [Bt] at *; omega) (Ms.nil _ _))) (by simp [inK])
             ·try simp only [cS, ne_eq, Decidable.not_not] at hc37
              obtain rfl : qq = 0 := by omega
              rw [List.drop_zero] at ht
              refine WC.exit (WX.thenExit (WX.thenExit (WX.blockHere (WX.next (WC.seq (WC.region (WL.val rfl rfl rfl rfl (r_loadAgg (vs := [_, _, _, _]) rfl (ev_t rfl) agg_72 size_72 (Blk.cellsL hb9)) ?_)))))))
              refine WL.cons (SO.storeAll (us := [_, _, _, _]) rfl (ev_t rfl) (ev_t rfl) size_72 hB1 rfl rfl rfl rfl rfl ?_)
              intro w51 hu51 hB1 hz51
              have hs51 := hu51.size
              replace hU := hU.trans hu51 (by (intro k hl hk; (try simp only [At, New, Grow, From, No] at hk ⊢); omega))
              replace hp := hp.upd hu51 (by (intro k hk hS; first | (simp only [At] at hS; omega) | (have := hG k hS; omega)))
              replace hrx := hrx.upd hu51 (fun k hk hl hS => by (simp only [At, Bt] at hS hk; omega))
              replace hmx := hmx.upd hu51 (fun k hk hl hS => by (simp only [At, Bt] at hS hk; omega))
              replace ht := ht.upd hu51 (fun k hk hl hS => by (simp only [At, Bt] at hS hk; omega))
              replace hb9 := hb9.upd hu51 (by (simp only [At]; omega))
              refine WL.nil (WX.keep [(2, _)] ⟨rfl, trivial⟩ (WX.next (WC.ret (WX.blockRet (WX.thenRet (WX.retC (vs := [_, _, _, _]) rfl rfl agg_72 size_72 (Blk.cellsL hB1) ?_))))))
              rw [he9]
              exact ⟨_, rfl, ht.mono fun k hk => by simp only [Bt] at *; omega, hp, hPst, hU⟩
          ·rw [takQ_F hc29] at hp
           refine WC.skip (WX.blockNormal (WX.next (WC.seq (WC.region ?_))))
           obtain ⟨FD, bD, offD, cD, zD, badD, hbD, hzD, hrD, hFD, hID⟩ := hp.open
           refine WL.val rfl rfl rfl rfl (r_move rfl (ev_t rfl)) ?_
           refine WL.val rfl rfl rfl rfl (r_move rfl (ev_t rfl)) ?_
           refine WL.val rfl rfl rfl rfl (r_nilCheck rfl (ev_t rfl)) ?_
           refine WL.val rfl rfl rfl rfl (r_field0 rfl (ev_t rfl) fld_58_1) ?_
           refine WL.val rfl rfl rfl rfl (r_load rfl (ev_t rfl) flat_3 (Blk.cell hbD rfl)) ?_
           refine WL.cons (SO.call (fault_ok (e := 4) hp (by omega) (by decide)) rfl body_35 ⟨(ev_t rfl), (ev_t rfl), ev_c, trivial⟩ rfl rfl rfl rfl ?_)
           rintro v9 w52 ⟨hp2, hu52⟩
           have hs52 := hu52.size
           replace hU := hU.trans hu52 (by exact (fun _ _ h => h))
           replace hB1 := hB1.upd hu52 (by (simp only [At]; omega))
           have hp := hp2
           refine WL.nil (WX.keep [(2, _)] ⟨rfl, trivial⟩ (WX.next (WC.seq (WC.region (WL.val rfl rfl rfl rfl (r_build (cs := #[_, _, _, _]) (vs := []) rfl trivial plc_72 zero_72 rfl) ?_)))))
           refine WL.cons (SO.storeAll (us := [_, _, _, _]) rfl (ev_t rfl) (ev_t rfl) size_72 hB1 rfl rfl rfl rfl rfl ?_)
           intro w53 hu53 hB1 hz53
           have hs53 := hu53.size
           replace hU := hU.trans hu53 (by (intro k hl hk; (try simp only [At, New, Grow, From, No] at hk ⊢); omega))
           replace hp := hp.upd hu53 (by (intro k hk hS; first | (simp only [At] at hS; omega) | (have := hG k hS; omega)))
           refine WL.nil (WX.keep [(2, _)] ⟨rfl, trivial⟩ (WX.next (WC.ret (WX.retC (vs := [_, _, _, _]) rfl rfl agg_72 size_72 (Blk.cellsL hB1) ?_))))
           have he9 : pthB (pq n) s = (Pt.z, fauQ s 4) := by unfold pthB; rw [if_neg (by simp [hc1]), if_neg (by simp [hc4]), if_neg (by simp [hc7]), if_neg (by simp [hc9]), if_neg (by simp [hc11]), if_neg (by simp [hc13]), if_neg (by simp [hc15]), if_neg (by simp [hc17]), if_neg (by simp [hc19]), if_neg (by simp [hc29])]
           rw [he9]
           exact ⟨_, rfl, TM.pt0 (by simp [inK]), hp, Pst.fau _ _, hU⟩
end Go.Proofs.YtomkdhkkggbioaaGreatDoor

/-
  The reference's parser: a pattern's names, a pattern whose names are different ones.
-/
namespace Go.Proofs.YtomkdhkkggbioaaGreatDoor
open Go
set_option linter.unusedSimpArgs false
set_option linter.unusedVariables false

theorem namesPs_append : ∀ (a b : List Pt), namesPs (a ++ b) = namesPs a ++ namesPs b
  | [], b => rfl
  | x :: a, b => by rw [List.cons_append, namesPs, namesPs, namesPs_append a b, List.append_assoc]
theorem namesPs_one (x : Pt) : namesPs [x] = namesP x := by rw [namesPs, namesPs, List.append_nil]
theorem namesPs_take {ks : List Pt} {i : Nat} {p : Pt} (h : ks[i]? = some p) : namesPs (ks.take (i + 1)) = namesPs (ks.take i) ++ namesP p := by
  rw [List.take_add_one, h, namesPs_append]
  show _ ++ namesPs [p] = _
  rw [namesPs_one]
theorem namesPs_le {ks : List Pt} {i : Nat} {p : Pt} (h : ks[i]? = some p) : (namesPs (ks.take i)).length + (namesP p).length ≤ (namesPs ks).length := by
  have h1 : namesPs ks = namesPs (ks.take (i + 1)) ++ namesPs (ks.drop (i + 1)) := by rw [← namesPs_append, List.take_append_drop]
  rw [h1, namesPs_take h]
  simp only [List.length_append]
  omega
def NamC (w : World) (c : List Value) (p : Pt) : Prop := (namesP p).length ≤ 100000 → ∀ w', Upd No w w' → Ret Tryz.prog 126 #[.agg c.toArray] w' fun v w'' => Own w'' (Bt w'.heap.size w''.heap.size) 9 1 v (namesP p).length ((namesP p).map Sv) ∧ Upd No w' w''
theorem sv_one (l : List (List UInt8)) : ∀ u ∈ l.map Sv, u.oneCell' = true := fun u hu => by
  obtain ⟨x, _, rfl⟩ := List.mem_map.1 hu
  rfl
set_option maxHeartbeats 1000000 in
theorem names_ok {w0 : World} {F0 : Nat → Prop} {c : List Value} {p : Pt} (h : PtM w0 F0 c p) : NamC w0 c p := by
  induction h with
  | mk hr0 hl hv hk ih =>
  rename_i k s n ks kv xs
  intro hlen w hw0
  have hr := hr0.upd hw0 (fun _ _ _ h => h)
  have hnm : namesP (.mk k s n ks) = (if k = 2 then [s] else []) ++ namesPs ks := by rw [namesP]
  have hm : Ms w0 F0 xs ks := ⟨hl, hk⟩
  obtain ⟨A, kc, rfl, hcc⟩ := hr.slice_form
  rw [hnm] at hlen ⊢
  rw [List.length_append] at hlen
  have hks : ks.length ≤ 140737488355328 := hr.le
  refine enterRet (vs := [_]) (N := 29) Tryz.func126 rfl rfl rfl ?_
  have hU := Upd.refl No w
  refine WC.keep [(0, _)] ⟨rfl, trivial⟩ (WC.seq (WC.region (WL.cons (SO.alloc rfl rfl rfl rfl (r_boxAgg rfl (ev_t rfl)) ?_))))
  intro w1 hu1 hB1 hz1
  have hs1 := hu1.size
  replace hU := hU.trans hu1 (by exact (fun _ _ h => h))
  refine WL.val rfl rfl rfl rfl (r_assign rfl ev_c) ?_
  refine WL.nil (WX.keep [(1, _)] ⟨rfl, trivial⟩ ?_)
  have hb := hB1
  change Blk _ _ #[.int .u8 (k : Int), Sv s, .int .i64 n, .slice A ks.length kc] _ at hb
  refine WX.next (WC.seq (WC.region (WL.val rfl rfl rfl rfl (r_assign rfl ev_c) ?_)))
  refine WL.nil (WX.keep [(1, _), (3, _)] ⟨rfl, rfl, trivial⟩ (WX.next ?_))
  -- cut 2: live [1, 3]
  refine WC.cut (fun E wA => ∃ (G : Nat → Prop) (v1 : Value), Upd No w wA ∧ Blk wA w.heap.size #[.int .u8 (k : Int), Sv s, .int .i64 n, .slice A ks.length kc] 72 ∧ Own wA G 9 1 v1 (if k = 2 then [s] else []).length ((if k = 2 then [s] else []).map Sv) ∧ (∀ k, G k → w.heap.size + 1 ≤ k ∧ k < wA.heap.size) ∧ E = [(1, .pointer (some ⟨w.heap.size, 0, none⟩)), (3, v1)]) ?_ ?_
  · refine WC.seq (WC.region (WL.val rfl rfl rfl rfl (r_field0 rfl (ev_t rfl) fld_72_0) ?_))
    refine WL.val rfl rfl rfl rfl (r_load rfl (ev_t rfl) flat_5 (Blk.cell hb rfl)) ?_
    refine WL.val rfl rfl rfl rfl (r_eql rfl (ev_t rfl) ev_c) ?_
    refine WL.nil (WX.keep [(1, _), (3, _), (7, _)] ⟨rfl, rfl, rfl, trivial⟩ (WX.next (WC.cond rfl (ev_t rfl) (fun hc2 => ?_) (fun hc2 => ?_))))
    · try simp only [cS, ne_eq, Decidable.not_not] at hc2
      have ho : Own w1 No 9 1 (.slice none 0 0) 0 ([] : List Value) := Own.nil _ _ _ _
      have hlb := hb.lt
      have hG : ∀ k, No k → w.heap.size + 1 ≤ k := fun k h => h.elim
      refine WC.region (WL.val rfl rfl rfl rfl (r_move rfl (ev_t rfl)) ?_)
      refine WL.val rfl rfl rfl rfl (r_field0 rfl (ev_t rfl) fld_72_1) ?_
      refine WL.val rfl rfl rfl rfl (r_load rfl (ev_t rfl) flat_9 (Blk.cell hb rfl)) ?_
      refine WL.cons (SO.alloc rfl rfl rfl rfl (r_buildSlice1 (vs := [_]) rfl ⟨(ev_t rfl), trivial⟩ rfl row_66 rfl rfl) ?_)
      intro w2 hu2 hB2 hz2
      have hs2 := hu2.size
      replace hU := hU.trans hu2 (by exact (fun _ _ h => h))
      replace hb := hb.upd hu2 (by exact (fun h => h))
      replace ho := ho.upd hu2 (fun _ _ _ h => h)
      refine WL.cons (SO.append ho (show Rd _ (At _) _ 1 1 [Sv s] from Rd.of_blk (F := At _) (n := 1) (sz := 1) hB2 rfl rfl (by omega)) row_66 (by intro u hu; simp at hu; subst hu; rfl) (le_maxLen (by omega)) (by omega) rfl (ev_t rfl) (ev_t rfl) rfl rfl rfl rfl ?_)
      intro v3 w3 ho hu3
      have hs3 := hu3.size
      replace hU := hU.trans hu3 (by exact (fun _ _ h => h))
      replace hb := hb.upd hu3 (by exact (fun h => h))
      obtain ⟨A3, c3, rfl, hc3⟩ := Own.form ho
      refine WL.val rfl rfl rfl rfl (r_assign rfl (ev_t rfl)) ?_
      refine WL.nil (WX.keep [(1, _), (3, _)] ⟨rfl, rfl, trivial⟩ (WX.meet [(1, _), (3, _)] ⟨rfl, rfl, trivial⟩ ?_))
      first
        | (have hk2 : k = 2 := by omega
           rw [if_pos hk2]
           refine ⟨_, _, hU, hb, ho, fun q hq => ?_, rfl⟩
           rcases hq with hq | hq
           · exact hq.elim
           · omega)
        | (rw [if_neg (by omega)]
           exact ⟨No, _, hU, hb, Own.nil _ _ _ _, fun q hq => hq.elim, rfl⟩)
    · try simp only [cS, ne_eq, Decidable.not_not] at hc2
      refine WC.skip (WX.meet [(1, _), (3, _)] ⟨rfl, rfl, trivial⟩ ?_)
      first
        | (have hk2 : k = 2 := by omega
           rw [if_pos hk2]
           refine ⟨_, _, hU, hb, ho, fun q hq => ?_, rfl⟩
           rcases hq with hq | hq
           · exact hq.elim
           · omega)
        | (rw [if_neg (by omega)]
           exact ⟨No, _, hU, hb, Own.nil _ _ _ _, fun q hq => hq.elim, rfl⟩)
  · clear hU hb
    rintro E wA ⟨G, v1, hU, hb, ho, hG, rfl⟩
    generalize (if k = 2 then [s] else []) = l0 at *
    refine WC.seq (WC.seq (WC.region (WL.val rfl rfl rfl rfl (r_assign rfl ev_c) ?_)))
    refine WL.nil (WX.keep [(1, _), (3, _), (4, _)] ⟨rfl, rfl, rfl, trivial⟩ (WX.next (WC.block ?_)))
    -- loop 1: live [1, 3, 4]
    refine WC.keep [(1, _), (3, _), (4, _)] ⟨rfl, rfl, rfl, trivial⟩ (WC.loop (fun qq E wA => ∃ (j : Nat) (G : Nat → Prop) (v1 : Value), j ≤ ks.length ∧ qq = ks.length - j ∧ Upd No w wA ∧ Blk wA w.heap.size #[.int .u8 (k : Int), Sv s, .int .i64 n, .slice A ks.length kc] 72 ∧ Own wA G 9 1 v1 (l0 ++ namesPs (ks.take j)).length ((l0 ++ namesPs (ks.take j)).map Sv) ∧ (∀ k, G k → w.heap.size + 1 ≤ k ∧ k < wA.heap.size) ∧ E = [(1, .pointer (some ⟨w.heap.size, 0, none⟩)), (3, v1), (4, .int .i64 (j : Int))]) (ks.length) ?_ ?_)
    · exact ⟨0, G, v1, by omega, by omega, hU, hb, by rw [List.take_zero]; simpa [namesPs] using ho, hG, rfl⟩
    · clear hU hb ho hG
      rintro qq E wA ⟨j, G, v1, hj, rfl, hU, hb, ho, hG, rfl⟩
      have hsA := hU.size
      have hlb := hb.lt
      refine WC.seq (WC.seq (WC.region (WL.val rfl rfl rfl rfl (r_move rfl (ev_t rfl)) ?_)))
      refine WL.val rfl rfl rfl rfl (r_field0 rfl (ev_t rfl) fld_72_3) ?_
      refine WL.val rfl rfl rfl rfl (r_load rfl (ev_t rfl) flat_33 (Blk.cell hb rfl)) ?_
      refine WL.val rfl rfl rfl rfl (r_lenSlice (ts := #[]) rfl (ev_t rfl) elem_33) ?_
      refine WL.val rfl rfl rfl rfl (r_lss rfl (ev_t rfl) (ev_t rfl)) ?_
      refine WL.nil (WX.keep [(1, _), (3, _), (4, _), (17, _)] ⟨rfl, rfl, rfl, rfl, trivial⟩ (WX.next (WC.cond rfl (ev_t rfl) (fun hc5 => ?_) (fun hc5 => ?_))))
      · try simp only [cS, ne_eq, Decidable.not_not] at hc5
        have hj2 : j < ks.length := by omega
        have hkj : ks[j]? = some ks[j] := List.getElem?_eq_getElem hj2
        generalize ks[j] = p at hkj
        obtain ⟨c0, hx0, ht0⟩ := hm.get hkj
        have hle := namesPs_le hkj
        have hih := ih j c0 p hx0 hkj (by omega)
        obtain ⟨uk, us, un, uks, uA, up, uxs, heu, rfl, _⟩ := ht0.mk4
        obtain ⟨b1, o1, rfl, _⟩ := hr.open (by omega)
        refine WC.skip (WX.next (WC.seq (WC.block (WC.region (WL.val rfl rfl rfl rfl (r_move rfl (ev_t rfl)) ?_)))))
        refine WL.val rfl rfl rfl rfl (r_field0 rfl (ev_t rfl) fld_72_3) ?_
        refine WL.val rfl rfl rfl rfl (r_load rfl (ev_t rfl) flat_33 (Blk.cell hb rfl)) ?_
        refine WL.val rfl rfl rfl rfl (r_move rfl (ev_t rfl)) ?_
        refine WL.val rfl rfl rfl rfl (r_indexAddr rfl (ev_t rfl) (ev_t rfl) elem_33 size_72 (by omega) (by omega)) ?_
        refine WL.val rfl rfl rfl rfl (r_loadAgg (vs := [_, _, _, _]) rfl (ev_t rfl) agg_72 size_72 (Rd.cellsL (us := [_, _, _, _]) (hr0.upd (hw0.trans_same hU) (fun _ _ _ h => h)) (i := j * 4) (by omega) (fun q v hv => flat_getN hm.one_len hx0 hv))) ?_
        refine WL.cons (SO.call (hih _ (hw0.trans_same hU)) rfl body_126 ⟨(ev_t rfl), trivial⟩ rfl rfl rfl rfl ?_)
        rintro v9 w4 ⟨hn9, hu4⟩
        have hs4 := hu4.size
        replace hU := hU.trans hu4 (by exact (fun _ _ h => h))
        replace hb := hb.upd hu4 (by exact (fun h => h))
        replace ho := ho.upd hu4 (fun _ _ _ h => h)
        have hll : (l0 ++ namesPs (ks.take j)).length + (namesP p).length ≤ 100000 := by rw [List.length_append]; omega
        refine WL.cons (SO.append ho (hn9.rd (by omega)) row_66 (sv_one _) (le_maxLen (by omega)) (by omega) rfl (ev_t rfl) (ev_t rfl) rfl rfl rfl rfl ?_)
        intro v5 w5 ho hu5
        have hs5 := hu5.size
        replace hU := hU.trans hu5 (by (intro k hl hk; first | exact hk | exact (show False from hk).elim | (have := hG k hk; omega)))
        replace hb := hb.upd hu5 (by (intro hS; have := hG _ hS; omega))
        obtain ⟨A5, c5, rfl, hc5⟩ := Own.form ho
        refine WL.val rfl rfl rfl rfl (r_assign rfl (ev_t rfl)) ?_
        refine WL.nil (WX.keep [(1, _), (3, _), (4, _)] ⟨rfl, rfl, rfl, trivial⟩ (WX.blockNormal (WX.next (WC.region (WL.val rfl rfl rfl rfl (r_move rfl (ev_t rfl)) ?_)))))
        refine WL.val rfl rfl rfl rfl (r_addN rfl (ev_t rfl) ev_c (by simp only [inK]; omega)) ?_
        refine WL.val rfl rfl rfl rfl (r_assign rfl (ev_t rfl)) ?_
        refine WL.nil (WX.keep [(1, _), (3, _), (4, _)] ⟨rfl, rfl, rfl, trivial⟩ (WX.meet [(1, _), (3, _), (4, _)] ⟨rfl, rfl, rfl, trivial⟩ ?_))
        have e : (l0 ++ namesPs (List.take (j + 1) ks)).length = (l0 ++ namesPs (List.take j ks)).length + (namesP p).length := by rw [namesPs_take hkj]; simp only [List.length_append]; omega
        rw [← List.map_append, List.append_assoc, ← namesPs_take hkj, ← e] at ho
        rw [← e]
        refine ⟨ks.length - (j + 1), by omega, j + 1, _, _, by omega, rfl, hU, hb, ho, fun q hq => ?_, rfl⟩
        rcases hq with hq | hq
        · have := hG q hq; omega
        · omega
      · try simp only [cS, ne_eq, Decidable.not_not] at hc5
        obtain rfl : j = ks.length := by omega
        rw [List.take_length] at ho
        refine WC.exit (WX.thenExit (WX.thenExit (WX.blockHere (WX.next (WC.seq (WC.region (WL.val rfl rfl rfl rfl (r_move rfl (ev_t rfl)) ?_)))))))
        refine WL.val rfl rfl rfl rfl (r_assign rfl (ev_t rfl)) ?_
        refine WL.nil (WX.keep [(2, _)] ⟨rfl, trivial⟩ (WX.next (WC.ret (WX.retE1 rfl rfl ?_))))
        exact ⟨ho.mono fun q hq => by have := hG q hq; simp only [Bt]; omega, hU⟩

/-! no pattern has more names than tokens -/
def NB (g : St → Pt × St) : Prop := ∀ s, (namesP (g s).1).length + (g s).2.ts.length ≤ s.ts.length
theorem NB.sep {g : St → Pt × St} (hg : NB g) (u : List UInt8) : ∀ (k : Nat) (l : List Pt) (s : St), (namesPs (sepQ g u k l s).1).length + (sepQ g u k l s).2.ts.length ≤ (namesPs l).length + s.ts.length
  | 0, l, s => by rw [sepQ]; exact Nat.le_refl _
  | k + 1, l, s => by
    rw [sepQ]
    split
    · have h1 := NB.sep hg u k (l ++ [(g (tlQ s)).1]) (g (tlQ s)).2
      have h2 := hg (tlQ s)
      rw [namesPs_append, List.length_append, namesPs_one] at h1
      rw [tlQ_len] at h2
      omega
    · exact Nat.le_refl _
theorem NB.lst {g : St → Pt × St} (hg : NB g) : ∀ (k : Nat) (l : List Pt) (s : St), (namesPs (lstQ g k l s).1).length + (lstQ g k l s).2.ts.length ≤ (namesPs l).length + s.ts.length
  | 0, l, s => by rw [lstQ]; exact Nat.le_refl _
  | k + 1, l, s => by
    rw [lstQ]
    split
    · split
      · rw [tlQ_len]; simp only; omega
      · generalize hs : (if l.length = 0 then s else musQ s [59]) = s'
        have h0 : s'.ts.length ≤ s.ts.length := by subst hs; split; exact Nat.le_refl _; exact musQ_len _ _
        have h1 := NB.lst hg k (l ++ [(g s').1]) (g s').2
        have h2 := hg s'
        rw [namesPs_append, List.length_append, namesPs_one] at h1
        omega
    · exact Nat.le_refl _
theorem namesPs_fold (l : List Pt) : (namesP (l.foldr (fun a x => .mk 9 [] 0 [a, x]) (.mk 8 [] 0 []))).length = (namesPs l).length := by
  induction l with
  | nil => simp [namesP, namesPs]
  | cons a l ih => simp only [List.foldr_cons, namesP, namesPs, List.length_append, ih]; simp
theorem namesP_tup (l : List Pt) : (namesP (ptupQ l)).length = (namesPs l).length := by
  by_cases h : l.length = 1
  · obtain ⟨a, rfl⟩ := List.length_eq_one_iff.1 h
    rw [ptupQ_one, namesPs_one]
  · rw [ptupQ_more h, namesP]
    simp
theorem NB.thing {f : PQ} (h : NB f.pcons) : NB (pthB f) := by
  intro s
  have htl := tlQ_len s
  have hk : ∀ k, kdQ s k = true → k ≠ 0 → 0 < s.ts.length := fun k hq h0 => by
    rcases Nat.eq_zero_or_pos s.ts.length with h | h
    · exfalso
      have h1 := (kdQ_kind hq).2
      unfold St.hd at h1
      rw [List.eq_nil_of_length_eq_zero h] at h1
      exact h0 h1.symm
    · exact h
  unfold pthB
  by_cases c1 : isQ s [45] = true
  · rw [if_pos c1]
    have := txtQ_len (tlQ s) 4
    simp [namesP, namesPs]
    omega
  rw [if_neg c1]
  by_cases c2 : kdQ s 4 = true
  · rw [if_pos c2]
    simp [namesP, namesPs]; omega
  rw [if_neg c2]
  by_cases c3 : kdQ s 5 = true
  · rw [if_pos c3]
    simp [namesP, namesPs]; omega
  rw [if_neg c3]
  by_cases c4 : kdQ s 1 = true
  · rw [if_pos c4]
    have := hk 1 c4 (by decide)
    simp [namesP, namesPs]; omega
  rw [if_neg c4]
  by_cases c5 : kdQ s 2 = true
  · rw [if_pos c5]
    simp [namesP, namesPs]; omega
  rw [if_neg c5]
  by_cases c6 : isQ s [95] = true
  · rw [if_pos c6]
    simp [namesP, namesPs]; omega
  rw [if_neg c6]
  by_cases c7 : isQ s [116, 114, 117, 101] = true
  · rw [if_pos c7]
    simp [namesP, namesPs]; omega
  rw [if_neg c7]
  by_cases c8 : isQ s [102, 97, 108, 115, 101] = true
  · rw [if_pos c8]
    simp [namesP, namesPs]; omega
  rw [if_neg c8]
  by_cases c9 : isQ s [40] = true
  · rw [if_pos c9]
    by_cases c10 : isQ (tlQ s) [41] = true
    · rw [if_pos c10]
      have := tlQ_len (tlQ s)
      simp [namesP, namesPs]; omega
    · rw [if_neg c10]
      have h1 := h (tlQ s)
      have h2 := NB.sep h [44] (f.pcons (tlQ s)).2.ts.length [(f.pcons (tlQ s)).1] (f.pcons (tlQ s)).2
      rw [namesPs_one] at h2
      have h3 := musQ_len (sepQ f.pcons [44] (f.pcons (tlQ s)).2.ts.length [(f.pcons (tlQ s)).1] (f.pcons (tlQ s)).2).2 [41]
      simp only [namesP_tup]
      omega
  rw [if_neg c9]
  by_cases c11 : isQ s [91] = true
  · rw [if_pos c11]
    have h2 := NB.lst h ((tlQ s).ts.length + 2) [] (tlQ s)
    simp only [namesPs_fold]
    simp only [namesPs, List.length_nil] at h2
    omega
  rw [if_neg c11, fauQ_ts]
  simp [Pt.z, namesP, namesPs]
theorem NB.both : ∀ n, NB (pq n).pcons ∧ NB (pq n).patom
  | 0 => ⟨fun s => by simp [pq, Pt.z, namesP, namesPs], fun s => by simp [pq, Pt.z, namesP, namesPs]⟩
  | n + 1 => by
    obtain ⟨h1, h2⟩ := NB.both n
    have hth := NB.thing h1
    have hk : ∀ s k, kdQ s k = true → k ≠ 0 → 0 < s.ts.length := fun s k hq h0 => by
      rcases Nat.eq_zero_or_pos s.ts.length with h | h
      · exfalso
        have h1 := (kdQ_kind hq).2
        unfold St.hd at h1
        rw [List.eq_nil_of_length_eq_zero h] at h1
        exact h0 h1.symm
      · exact h
    refine ⟨fun s => ?_, fun s => ?_⟩
    · show (namesP (pcoB (pq n) s).1).length + (pcoB (pq n) s).2.ts.length ≤ _
      have hol := opnQ_len s
      unfold pcoB
      split
      · generalize hp9 : (if kdQ (opnQ s) 2 = true then if pbegQ (tlQ (opnQ s)) = true then (Pt.mk 10 (opnQ s).hd.s 0 [((pq n).patom (tlQ (opnQ s))).1], ((pq n).patom (tlQ (opnQ s))).2) else (Pt.mk 10 (opnQ s).hd.s 0 [], tlQ (opnQ s)) else (pq n).patom (opnQ s)) = p9
        have hb : (namesP p9.1).length + p9.2.ts.length ≤ s.ts.length := by
          subst hp9
          have ht := tlQ_len (opnQ s)
          split
          · split
            · have := h2 (tlQ (opnQ s))
              simp only [namesP, namesPs, List.append_nil]
              simp only [show ¬ (10 : Nat) = 2 by decide, if_false, List.nil_append]
              omega
            · simp [namesP, namesPs]; omega
          · have := h2 (opnQ s)
            omega
        simp only
        split
        · have := h1 (tlQ p9.2)
          have ht := tlQ_len p9.2
          simp only [namesP, namesPs, List.append_nil, clsQ_ts, List.length_append]
          simp only [show ¬ (9 : Nat) = 2 by decide, if_false, List.length_nil]
          omega
        · simpa only [clsQ_ts] using hb
      · simp only [clsQ_ts]; simp [Pt.z, namesP, namesPs]; omega
    · show (namesP (patB (pq n) s).1).length + (patB (pq n) s).2.ts.length ≤ _
      have hol := opnQ_len s
      unfold patB
      split
      · have := hth (opnQ s)
        simp only [clsQ_ts]
        omega
      · simp only [clsQ_ts]; simp [Pt.z, namesP, namesPs]; omega
/-- a pattern's contracts, with so many opens left -/
theorem pats_ok : ∀ n, PC 125 (pq n).pcons n ∧ PC 139 (pq n).patom n
  | 0 => ⟨fun w r B0 A s hp hd hn => absurd hn (by omega), fun w r B0 A s hp hd hn => absurd hn (by omega)⟩
  | n + 1 => ⟨pcons_ok (pats_ok n).2 (pats_ok n).1, patom_ok (pthing_ok (pats_ok n).1)⟩
theorem typs_ok : ∀ n, ArrC n ∧ AppC n
  | 0 => ⟨fun w r B0 A s Fv vA vc vs hp hd hn => absurd hn (by omega), fun w r B0 A s Fv vA vc vs hp hd hn => absurd hn (by omega)⟩
  | n + 1 => ⟨arrow_ok (typs_ok n).1 (typs_ok n).2, applied_ok (typs_ok n).1⟩
end Go.Proofs.YtomkdhkkggbioaaGreatDoor

/-
  The reference's parser: a pattern whose names are different ones.
-/
namespace Go.Proofs.YtomkdhkkggbioaaGreatDoor
open Go
set_option linter.unusedSimpArgs false
set_option linter.unusedVariables false

theorem nodup_snoc {l : List (List UInt8)} {i : Nat} {x : List UInt8} (h : l[i]? = some x) : (l.take (i + 1)).Nodup ↔ (l.take i).Nodup ∧ x ∉ l.take i := by
  rw [List.take_add_one, h, Option.toList_some, List.nodup_append]
  constructor
  · rintro ⟨h1, h2, h3⟩
    exact ⟨h1, fun hx => h3 x hx x (by simp) rfl⟩
  · rintro ⟨h1, h2⟩
    exact ⟨h1, by simp, fun a ha b hb => by simp at hb; subst hb; exact fun e => h2 (e ▸ ha)⟩
theorem fau7_ne (s : St) : (fauQ s 7).e ≠ 0 := by unfold fauQ; split; (intro h; cases h); assumption
/-- the state while names are compared -/
def dupS (c : Bool) (s : St) : St := if c = true then s else fauQ s 7
theorem Pst.dup (c : Bool) (s : St) : Pst s (dupS c s) := by unfold dupS; split; exact Pst.refl _; exact Pst.fau _ _
theorem dupS_step {c : Bool} {s : St} (h : (dupS c s).e = 0) : fauQ (dupS c s) 7 = dupS false s := by
  unfold dupS at *
  split at h
  · rw [if_pos (by assumption), if_neg (by simp)]
  · exact absurd h (fau7_ne s)
theorem dupS_keep {c c' : Bool} {s : St} (h : (dupS c s).e ≠ 0) (hc : c' = true → c = true) : dupS c' s = dupS c s := by
  cases c with
  | true =>
    have h9 : s.e ≠ 0 := h
    unfold dupS
    split <;> simp [fauQ_e h9]
  | false =>
    have : c' = false := by cases c' with | false => rfl | true => exact absurd (hc rfl) (by simp)
    rw [this]
set_option maxHeartbeats 2000000 in
theorem pattern_ok {w : World} {r B0 : Nat} {A : List Tok} {s : St} (hp : PS w r B0 A s) (hd : s.d ≤ 50) : Ret Tryz.prog 114 #[.pointer (some ⟨r, 0, none⟩)] w fun v w' => ∃ c, v = .agg c.toArray ∧ TM w' (Bt w.heap.size w'.heap.size) c (patQ s).1 ∧ PS w' r B0 A (patQ s).2 ∧ Pst s (patQ s).2 ∧ Upd (At r) w w' := by
  obtain ⟨hI1, hI2, hI3, hI4, hI5⟩ := hp.I
  obtain ⟨p9, hp9⟩ : ∃ p9, p9 = (pq 51).pcons s := ⟨_, rfl⟩
  have hnb := (NB.both 51).1 s
  rw [← hp9] at hnb
  obtain ⟨l, hl9⟩ : ∃ l, l = namesP p9.1 := ⟨_, rfl⟩
  rw [← hl9] at hnb
  have hpq : patQ s = (p9.1, dupS (decide l.Nodup) p9.2) := by
    unfold patQ dupS
    rw [← hp9]
    simp only [hl9, decide_eq_true_eq]
  rw [hpq]
  refine enterRet (vs := [_]) (N := 47) Tryz.func114 rfl rfl rfl ?_
  have hU := Upd.refl (At r) w
  refine WC.keep [(0, _)] ⟨rfl, trivial⟩ (WC.seq (WC.region (WL.cons (SO.alloc rfl rfl rfl rfl (r_alloc rfl zero_72) ?_))))
  intro w1 hu1 hB1 hz1
  have hs1 := hu1.size
  replace hU := hU.trans hu1 (by exact (fun _ _ h => h.elim))
  replace hp := hp.upd hu1 (by exact (fun _ _ h => h))
  refine WL.nil (WX.keep [(0, _), (2, _)] ⟨rfl, rfl, trivial⟩ (WX.next (WC.seq (WC.region ?_))))
  obtain ⟨FE, bE, offE, cE, zE, badE, hbE, hzE, hrE, hFE, hIE⟩ := hp.open
  refine WL.val rfl rfl rfl rfl (r_move rfl (ev_t rfl)) ?_
  refine WL.val rfl rfl rfl rfl (r_nilCheck rfl (ev_t rfl)) ?_
  refine WL.val rfl rfl rfl rfl (r_field0 rfl (ev_t rfl) fld_58_1) ?_
  refine WL.val rfl rfl rfl rfl (r_load rfl (ev_t rfl) flat_3 (Blk.cell hbE rfl)) ?_
  refine WL.val rfl rfl rfl rfl (r_assign rfl (ev_t rfl)) ?_
  refine WL.nil (WX.keep [(0, _), (2, _), (3, _)] ⟨rfl, rfl, rfl, trivial⟩ (WX.next (WC.seq (WC.region (WL.val rfl rfl rfl rfl (r_move rfl (ev_t rfl)) ?_)))))
  refine WL.cons (SO.call ((pats_ok 51).1 _ _ _ _ _ hp (by (try simp only [tlQ_d, musQ_d, takQ_d, txtQ_d]); omega) (by (try simp only [tlQ_d, musQ_d, takQ_d, txtQ_d]); omega)) rfl body_125 ⟨(ev_t rfl), trivial⟩ rfl rfl rfl rfl ?_)
  rintro v9 w2 ⟨c9, rfl, ht, hp2, hst, hu2⟩
  have hs2 := hu2.size
  replace hU := hU.trans hu2 (by exact (fun _ _ h => h))
  replace hB1 := hB1.upd hu2 (by (simp only [At]; omega))
  have hp := hp2
  have hsd := hst.1
  try simp only [tlQ_d, musQ_d, takQ_d, txtQ_d] at hsd
  rw [← hp9] at ht hp hst
  obtain ⟨tk, ts, tn, tks, tA, tp, txs, het, rfl, _⟩ := ht.mk4
  refine WL.cons (SO.alloc rfl rfl rfl rfl (r_alloc rfl zero_72) ?_)
  intro w3 hu3 hB3 hz3
  have hs3 := hu3.size
  replace hU := hU.trans hu3 (by exact (fun _ _ h => h.elim))
  replace hB1 := hB1.upd hu3 (by exact (fun h => h))
  replace hp := hp.upd hu3 (by exact (fun _ _ h => h))
  replace ht := ht.upd hu3 (fun k hk hl hS => by exact (show False from hS).elim)
  refine WL.cons (SO.storeAll (us := [_, _, _, _]) rfl (ev_t rfl) (ev_t rfl) size_72 hB3 rfl rfl rfl rfl rfl ?_)
  intro w4 hu4 hB3 hz4
  have hs4 := hu4.size
  replace hU := hU.trans hu4 (by (intro k hl hk; (try simp only [At, New, Grow, From, No] at hk ⊢); omega))
  replace hB1 := hB1.upd hu4 (by (simp only [At]; omega))
  replace hp := hp.upd hu4 (by (intro k hk hS; first | (simp only [At] at hS; omega) | (have := hG k hS; omega)))
  replace ht := ht.upd hu4 (fun k hk hl hS => by (simp only [At, Bt] at hS hk; omega))
  refine WL.nil (WX.keep [(0, _), (2, _), (3, _), (4, _)] ⟨rfl, rfl, rfl, rfl, trivial⟩ ?_)
  have hb4 := hB3
  change Blk _ _ #[.int .u8 (tk : Int), Sv ts, .int .i64 tn, .slice tA tks.length tp] _ at hb4
  refine WX.next (WC.seq (WC.region (WL.val rfl rfl rfl rfl (r_loadAgg (vs := [_, _, _, _]) rfl (ev_t rfl) agg_72 size_72 (Blk.cellsL hb4)) ?_)))
  refine WL.cons (SO.call ((names_ok ht) (by rw [← hl9]; omega) _ (Upd.refl _ _)) rfl body_126 ⟨(ev_t rfl), trivial⟩ rfl rfl rfl rfl ?_)
  rintro v9 w5 ⟨ho, hu5⟩
  have hs5 := hu5.size
  replace hU := hU.trans hu5 (by exact (fun _ _ h => h.elim))
  replace hB1 := hB1.upd hu5 (by exact (fun h => h))
  replace hp := hp.upd hu5 (by exact (fun _ _ h => h))
  replace ht := ht.upd hu5 (fun k hk hl hS => by exact (show False from hS).elim)
  replace hb4 := hb4.upd hu5 (by exact (fun h => h))
  rw [← hl9] at ho
  have hrn := ho.rd (by omega)
  obtain ⟨nA, nc, rfl, hnc⟩ := hrn.slice_form
  refine WL.val rfl rfl rfl rfl (r_assign rfl (ev_t rfl)) ?_
  refine WL.nil (WX.keep [(0, _), (2, _), (3, _), (4, _), (5, _)] ⟨rfl, rfl, rfl, rfl, rfl, trivial⟩ (WX.next (WC.seq (WC.seq (WC.region (WL.val rfl rfl rfl rfl (r_assign rfl ev_c) ?_))))))
  refine WL.nil (WX.keep [(0, _), (2, _), (3, _), (4, _), (5, _), (6, _)] ⟨rfl, rfl, rfl, rfl, rfl, rfl, trivial⟩ (WX.next (WC.block ?_)))
  -- loop 1: live [0, 2, 3, 4, 5, 6]
  refine WC.keep [(0, _), (2, _), (3, _), (4, _), (5, _), (6, _)] ⟨rfl, rfl, rfl, rfl, rfl, rfl, trivial⟩ (WC.loop (fun qq E wA => ∃ (i : Nat), i ≤ l.length ∧ qq = l.length - i ∧ Upd (At r) w wA ∧ PS wA r B0 A (dupS (decide (l.take i).Nodup) p9.2) ∧ Rd wA (fun k => w.heap.size + 1 ≤ k) (.slice nA l.length nc) l.length 1 (l.map Sv) ∧ TM wA (fun k => Bt (w.heap.size + 1) w4.heap.size k ∧ k ≠ w2.heap.size) [.int .u8 (tk : Int), Sv ts, .int .i64 tn, .slice tA tks.length tp] p9.1 ∧ Blk wA w2.heap.size #[.int .u8 (tk : Int), Sv ts, .int .i64 tn, .slice tA tks.length tp] 72 ∧ Blk wA w.heap.size #[.int .u8 0, .string ⟨#[]⟩, .int .i64 0, .slice none 0 0] 72 ∧ E = [(0, (.pointer (some ⟨r, 0, none⟩))), (2, .pointer (some ⟨w.heap.size, 0, none⟩)), (3, .int .i64 ((A.length : Int) - (s.ts.length : Int))), (4, .pointer (some ⟨w2.heap.size, 0, none⟩)), (5, .slice nA l.length nc), (6, .int .i64 (i : Int))]) (l.length) ?_ ?_)
  · have hd0 : dupS (decide (l.take 0).Nodup) p9.2 = p9.2 := by unfold dupS; rw [if_pos (by simp)]
    exact ⟨0, by omega, by omega, hU, by rw [hd0]; exact hp, hrn.mono fun k hk => by simp only [Bt] at hk; omega, ht.mono fun k hk => by simp only [Bt] at *; omega, hb4, hB1, rfl⟩
  · clear hU hp hrn ht hb4 hB1 ho
    rintro qq E wA ⟨i, hi, rfl, hU, hp, hrn, ht, hb4, hB1, rfl⟩
    have hsA := hU.size
    have hlt1 := hB1.lt
    have hlt4 := hb4.lt
    refine WC.seq (WC.seq (WC.region (WL.val rfl rfl rfl rfl (r_move rfl (ev_t rfl)) ?_)))
    refine WL.val rfl rfl rfl rfl (r_move rfl (ev_t rfl)) ?_
    refine WL.val rfl rfl rfl rfl (r_lenSlice (ts := #[]) rfl (ev_t rfl) elem_66) ?_
    refine WL.val rfl rfl rfl rfl (r_lss rfl (ev_t rfl) (ev_t rfl)) ?_
    refine WL.nil (WX.keep [(0, _), (2, _), (3, _), (4, _), (5, _), (6, _), (19, _)] ⟨rfl, rfl, rfl, rfl, rfl, rfl, rfl, trivial⟩ (WX.next (WC.cond rfl (ev_t rfl) (fun hc5 => ?_) (fun hc5 => ?_))))
    · try simp only [cS, ne_eq, Decidable.not_not] at hc5
      refine WC.skip (WX.next (WC.seq (WC.block (WC.seq (WC.region (WL.val rfl rfl rfl rfl (r_assign rfl ev_c) ?_))))))
      refine WL.nil (WX.keep [(0, _), (2, _), (3, _), (4, _), (5, _), (6, _), (7, _)] ⟨rfl, rfl, rfl, rfl, rfl, rfl, rfl, trivial⟩ (WX.next (WC.block ?_)))
      -- loop 2: live [0, 2, 3, 4, 5, 6, 7]
      refine WC.keep [(0, _), (2, _), (3, _), (4, _), (5, _), (6, _), (7, _)] ⟨rfl, rfl, rfl, rfl, rfl, rfl, rfl, trivial⟩ (WC.loop (fun qq E wB => ∃ (k : Nat) (x : List UInt8), k ≤ i ∧ i < l.length ∧ l[i]? = some x ∧ qq = i - k ∧ Upd (At r) w wB ∧ PS wB r B0 A (dupS (decide ((l.take i).Nodup ∧ x ∉ l.take k)) p9.2) ∧ Rd wB (fun k => w.heap.size + 1 ≤ k) (.slice nA l.length nc) l.length 1 (l.map Sv) ∧ TM wB (fun k => Bt (w.heap.size + 1) w4.heap.size k ∧ k ≠ w2.heap.size) [.int .u8 (tk : Int), Sv ts, .int .i64 tn, .slice tA tks.length tp] p9.1 ∧ Blk wB w2.heap.size #[.int .u8 (tk : Int), Sv ts, .int .i64 tn, .slice tA tks.length tp] 72 ∧ Blk wB w.heap.size #[.int .u8 0, .string ⟨#[]⟩, .int .i64 0, .slice none 0 0] 72 ∧ E = [(0, (.pointer (some ⟨r, 0, none⟩))), (2, .pointer (some ⟨w.heap.size, 0, none⟩)), (3, .int .i64 ((A.length : Int) - (s.ts.length : Int))), (4, .pointer (some ⟨w2.heap.size, 0, none⟩)), (5, .slice nA l.length nc), (6, .int .i64 (i : Int)), (7, .int .i64 (k : Int))]) (i) ?_ ?_)
      · exact ⟨0, _, by omega, by omega, List.getElem?_eq_getElem (by omega), by omega, hU, by simpa using hp, hrn, ht, hb4, hB1, rfl⟩
      · clear hU hp hrn ht hb4 hB1
        rintro qq E wB ⟨k, x, hk, hil, hx, rfl, hU, hp, hrn, ht, hb4, hB1, rfl⟩
        have hsB := hU.size
        have hlt1 := hB1.lt
        have hlt4 := hb4.lt
        refine WC.seq (WC.seq (WC.region (WL.val rfl rfl rfl rfl (r_move rfl (ev_t rfl)) ?_)))
        refine WL.val rfl rfl rfl rfl (r_move rfl (ev_t rfl)) ?_
        refine WL.val rfl rfl rfl rfl (r_lss rfl (ev_t rfl) (ev_t rfl)) ?_
        refine WL.nil (WX.keep [(0, _), (2, _), (3, _), (4, _), (5, _), (6, _), (7, _), (24, _)] ⟨rfl, rfl, rfl, rfl, rfl, rfl, rfl, rfl, trivial⟩ (WX.next (WC.cond rfl (ev_t rfl) (fun hc8 => ?_) (fun hc8 => ?_))))
        · try simp only [cS, ne_eq, Decidable.not_not] at hc8
          have hkl : k < l.length := by omega
          have hy : l[k]? = some l[k] := List.getElem?_eq_getElem hkl
          generalize l[k] = y at hy
          obtain ⟨nb, no, rfl, _⟩ := hrn.open (by omega)
          obtain ⟨cc, hcc⟩ : ∃ c, c = decide ((l.take i).Nodup ∧ x ∉ l.take k) := ⟨_, rfl⟩
          rw [← hcc] at hp
          refine WC.skip (WX.next (WC.seq (WC.block (WC.seq (WC.draws' (fun u0_ u1_ => Upd No u0_ u1_) (fun j => [0, 0, 0, 1, 0, 0, 0, 0, 0, 0, 0, 0, 0, 1, 0, 0].getD j 0) (.calm 0 (.calm 1 (.calm 2 (.one 3 (.calm 4 (.calm 5 (.calm 6 (.calm 7 (.calm 8 (.calm 10 (.calm 11 (.calm 12 (.held 9 (.one 13 (.calm 14 (.calm 15 (.done))))))))))))))))) mixed (by kernel_rfl) (by repeat (first | with_reducible exact Deaf.body | with_reducible apply Deaf.then | with_reducible apply Deaf.block)) ?_)))))
          intro w6 hu6
          have hz6 := congrArg Array.size hu6.2.2.2
          replace hu6 := Upd.of_draw hu6
          have hs6 := hu6.size
          replace hU := hU.trans hu6 (by exact (fun _ _ h => h.elim))
          replace hp := hp.upd hu6 (by exact (fun _ _ h => h))
          replace hrn := hrn.upd hu6 (fun k hk hl hS => by exact (show False from hS).elim)
          replace ht := ht.upd hu6 (fun k hk hl hS => by exact (show False from hS).elim)
          replace hb4 := hb4.upd hu6 (by exact (fun h => h))
          replace hB1 := hB1.upd hu6 (by exact (fun h => h))
          have hS10 := Upd.refl No w6
          obtain ⟨FD, bD, offD, cD, zD, badD, hbD, hzD, hrD, hFD, hID⟩ := hp.open
          refine WN.calm _ rfl rfl rfl rfl rfl (fun _ => r_move rfl (ev_t rfl)) ?_
          refine WN.calm _ rfl rfl rfl rfl rfl (fun _ => r_nilCheck rfl (ev_t rfl)) ?_
          refine WN.calm _ rfl rfl rfl rfl rfl (fun _ => r_field0 rfl (ev_t rfl) fld_58_4) ?_
          refine WN.step _ rfl (SO.val rfl rfl rfl rfl (r_load rfl (ev_t rfl) flat_3 (Blk.cell hbD rfl)) ?_)
          refine ⟨hS10, ?_⟩
          refine WN.calm _ rfl rfl rfl rfl rfl (fun _ => r_eql rfl (ev_t rfl) ev_c) ?_
          refine WN.calm _ rfl rfl rfl rfl rfl (fun _ => r_move rfl (ev_t rfl)) ?_
          refine WN.cases 32 rfl (fun hb10_5 => ?_) (fun hb10_5 => ?_)
          · try simp only [cS, ne_eq, Decidable.not_not] at hb10_5
            refine WN.calm _ rfl rfl rfl rfl rfl (fun _ => r_move rfl (ev_t rfl)) ?_
            refine WN.calm _ rfl rfl rfl rfl rfl (fun _ => r_move rfl (ev_t rfl)) ?_
            refine WN.calm _ rfl rfl rfl rfl rfl (fun _ => r_indexAddr rfl (ev_t rfl) (ev_t rfl) elem_66 size_9 (by omega) (by omega)) ?_
            refine WN.calm _ rfl rfl rfl rfl rfl (fun _ => r_move rfl (ev_t rfl)) ?_
            refine WN.calm _ rfl rfl rfl rfl rfl (fun _ => r_move rfl (ev_t rfl)) ?_
            refine WN.calm _ rfl rfl rfl rfl rfl (fun _ => r_indexAddr rfl (ev_t rfl) (ev_t rfl) elem_66 size_9 (by omega) (by omega)) ?_
            refine WN.held _ rfl rfl rfl rfl rfl hS10 (fun w' hS => r_load rfl (ev_t rfl) flat_9 ((hrn.upd hS (fun _ _ _ h => h)).cell (j := i) (u := Sv x) (by omega) (by rw [List.getElem?_map, hx]; rfl))) ?_
            refine WN.step _ rfl (SO.val rfl rfl rfl rfl (r_load rfl (ev_t rfl) flat_9 (hrn.cell (j := k) (u := Sv y) (by omega) (by rw [List.getElem?_map, hy]; rfl))) ?_)
            refine ⟨hS10, ?_⟩
            refine WN.calm _ rfl rfl rfl rfl rfl (fun _ => r_eqlStr rfl (ev_t rfl) (ev_t rfl)) ?_
            refine WN.calm _ rfl rfl rfl rfl rfl (fun _ => r_pickT rfl (ev_t rfl) (ev_t rfl)) ?_
            refine WN.done ?_
            refine WX.keep [(0, _), (2, _), (3, _), (4, _), (5, _), (6, _), (7, _), (42, _)] ⟨rfl, rfl, rfl, rfl, rfl, rfl, rfl, rfl, trivial⟩ (WX.next (WC.cond rfl (ev_t rfl) (fun hc10 => ?_) (fun hc10 => ?_)))
            · try simp only [cS, ne_eq, Decidable.not_not] at hc10
              refine WC.region (WL.val rfl rfl rfl rfl (r_move rfl (ev_t rfl)) ?_)
              refine WL.val rfl rfl rfl rfl (r_move rfl (ev_t rfl)) ?_
              refine WL.cons (SO.call (fault_ok (e := 7) hp (by omega) (by decide)) rfl body_35 ⟨(ev_t rfl), (ev_t rfl), ev_c, trivial⟩ rfl rfl rfl rfl ?_)
              rintro v9 w7 ⟨hp2, hu7⟩
              have hs7 := hu7.size
              replace hU := hU.trans hu7 (by exact (fun _ _ h => h))
              replace hrn := hrn.upd hu7 (fun k hk hl hS => by (simp only [At, Bt] at hS hk; omega))
              replace ht := ht.upd hu7 (fun k hk hl hS => by (simp only [At, Bt] at hS hk; omega))
              replace hb4 := hb4.upd hu7 (by (simp only [At]; omega))
              replace hB1 := hB1.upd hu7 (by (simp only [At]; omega))
              have hp := hp2
              refine WL.nil (WX.keep [(0, _), (2, _), (3, _), (4, _), (5, _), (6, _), (7, _)] ⟨rfl, rfl, rfl, rfl, rfl, rfl, rfl, trivial⟩ (WX.blockNormal (WX.next (WC.region (WL.val rfl rfl rfl rfl (r_move rfl (ev_t rfl)) ?_)))))
              refine WL.val rfl rfl rfl rfl (r_addN rfl (ev_t rfl) ev_c (by simp only [inK]; omega)) ?_
              refine WL.val rfl rfl rfl rfl (r_assign rfl (ev_t rfl)) ?_
              refine WL.nil (WX.keep [(0, _), (2, _), (3, _), (4, _), (5, _), (6, _), (7, _)] ⟨rfl, rfl, rfl, rfl, rfl, rfl, rfl, trivial⟩ (WX.meet [(0, _), (2, _), (3, _), (4, _), (5, _), (6, _), (7, _)] ⟨rfl, rfl, rfl, rfl, rfl, rfl, rfl, trivial⟩ ?_))
              have hk1 : l.take (k + 1) = l.take k ++ [y] := by rw [List.take_add_one, hy]; rfl
              refine ⟨i - (k + 1), by omega, k + 1, x, by omega, hil, hx, rfl, hU, ?_, hrn, ht, hb4, hB1, by simp⟩
              rw [hk1]
              first
                | (have hxy : x = y := by simpa using hc10
                   rw [dupS_step (by omega)] at hp
                   rw [decide_eq_false (by rw [hxy]; simp)]
                   exact hp)
                | (have hxy : x ≠ y := by simpa using hc10
                   have e : decide ((l.take i).Nodup ∧ x ∉ l.take k ++ [y]) = cc := by rw [hcc, decide_eq_decide]; simp [hxy]
                   rw [e]
                   exact hp)
                | (rw [dupS_keep (c := cc) (by omega) (by rw [hcc]; simp only [decide_eq_true_eq]; rintro ⟨h1, h2⟩; exact ⟨h1, fun h => h2 (List.mem_append.2 (.inl h))⟩)]
                   exact hp)
            · try simp only [cS, ne_eq, Decidable.not_not] at hc10
              refine WC.skip (WX.blockNormal (WX.next (WC.region (WL.val rfl rfl rfl rfl (r_move rfl (ev_t rfl)) ?_))))
              refine WL.val rfl rfl rfl rfl (r_addN rfl (ev_t rfl) ev_c (by simp only [inK]; omega)) ?_
              refine WL.val rfl rfl rfl rfl (r_assign rfl (ev_t rfl)) ?_
              refine WL.nil (WX.keep [(0, _), (2, _), (3, _), (4, _), (5, _), (6, _), (7, _)] ⟨rfl, rfl, rfl, rfl, rfl, rfl, rfl, trivial⟩ (WX.meet [(0, _), (2, _), (3, _), (4, _), (5, _), (6, _), (7, _)] ⟨rfl, rfl, rfl, rfl, rfl, rfl, rfl, trivial⟩ ?_))
              have hk1 : l.take (k + 1) = l.take k ++ [y] := by rw [List.take_add_one, hy]; rfl
              refine ⟨i - (k + 1), by omega, k + 1, x, by omega, hil, hx, rfl, hU, ?_, hrn, ht, hb4, hB1, by simp⟩
              rw [hk1]
              first
                | (have hxy : x = y := by simpa using hc10
                   rw [dupS_step (by omega)] at hp
                   rw [decide_eq_false (by rw [hxy]; simp)]
                   exact hp)
                | (have hxy : x ≠ y := by simpa using hc10
                   have e : decide ((l.take i).Nodup ∧ x ∉ l.take k ++ [y]) = cc := by rw [hcc, decide_eq_decide]; simp [hxy]
                   rw [e]
                   exact hp)
                | (rw [dupS_keep (c := cc) (by omega) (by rw [hcc]; simp only [decide_eq_true_eq]; rintro ⟨h1, h2⟩; exact ⟨h1, fun h => h2 (List.mem_append.2 (.inl h))⟩)]
                   exact hp)
          · try simp only [cS, ne_eq, Decidable.not_not] at hb10_5
            refine WN.skip _ rfl rfl rfl rfl ?_
            refine WN.skip _ rfl rfl rfl rfl ?_
            refine WN.skip _ rfl rfl rfl rfl ?_
            refine WN.skip _ rfl rfl rfl rfl ?_
            refine WN.skip _ rfl rfl rfl rfl ?_
            refine WN.skip _ rfl rfl rfl rfl ?_
            refine WN.heldSkip _ rfl rfl rfl rfl hS10 ?_
            refine WN.step _ rfl (SO.skip rfl rfl rfl ?_)
            refine ⟨hS10, ?_⟩
            refine WN.skip _ rfl rfl rfl rfl ?_
            refine WN.calm _ rfl rfl rfl rfl rfl (fun _ => r_pickF rfl (ev_t rfl) ev_c) ?_
            refine WN.done ?_
            refine WX.keep [(0, _), (2, _), (3, _), (4, _), (5, _), (6, _), (7, _), (42, _)] ⟨rfl, rfl, rfl, rfl, rfl, rfl, rfl, rfl, trivial⟩ (WX.next (WC.cond_false rfl (ev_t rfl) ?_))
            refine WC.skip (WX.blockNormal (WX.next (WC.region (WL.val rfl rfl rfl rfl (r_move rfl (ev_t rfl)) ?_))))
            refine WL.val rfl rfl rfl rfl (r_addN rfl (ev_t rfl) ev_c (by simp only [inK]; omega)) ?_
            refine WL.val rfl rfl rfl rfl (r_assign rfl (ev_t rfl)) ?_
            refine WL.nil (WX.keep [(0, _), (2, _), (3, _), (4, _), (5, _), (6, _), (7, _)] ⟨rfl, rfl, rfl, rfl, rfl, rfl, rfl, trivial⟩ (WX.meet [(0, _), (2, _), (3, _), (4, _), (5, _), (6, _), (7, _)] ⟨rfl, rfl, rfl, rfl, rfl, rfl, rfl, trivial⟩ ?_))
            have hk1 : l.take (k + 1) = l.take k ++ [y] := by rw [List.take_add_one, hy]; rfl
            refine ⟨i - (k + 1), by omega, k + 1, x, by omega, hil, hx, rfl, hU, ?_, hrn, ht, hb4, hB1, by simp⟩
            rw [hk1]
            first
              | (have hxy : x = y := by simpa using hc10
                 rw [dupS_step (by omega)] at hp
                 rw [decide_eq_false (by rw [hxy]; simp)]
                 exact hp)
              | (have hxy : x ≠ y := by simpa using hc10
                 have e : decide ((l.take i).Nodup ∧ x ∉ l.take k ++ [y]) = cc := by rw [hcc, decide_eq_decide]; simp [hxy]
                 rw [e]
                 exact hp)
              | (rw [dupS_keep (c := cc) (by omega) (by rw [hcc]; simp only [decide_eq_true_eq]; rintro ⟨h1, h2⟩; exact ⟨h1, fun h => h2 (List.mem_append.2 (.inl h))⟩)]
                 exact hp)
        · try simp only [cS, ne_eq, Decidable.not_not] at hc8
          obtain rfl : i = k := by omega
          refine WC.exit (WX.thenExit (WX.thenExit (WX.blockHere (WX.blockNormal (WX.next (WC.region (WL.val rfl rfl rfl rfl (r_move rfl (ev_t rfl)) ?_)))))))
          refine WL.val rfl rfl rfl rfl (r_addN rfl (ev_t rfl) ev_c (by simp only [inK]; omega)) ?_
          refine WL.val rfl rfl rfl rfl (r_assign rfl (ev_t rfl)) ?_
          refine WL.nil (WX.keep [(0, _), (2, _), (3, _), (4, _), (5, _), (6, _)] ⟨rfl, rfl, rfl, rfl, rfl, rfl, trivial⟩ (WX.meet [(0, _), (2, _), (3, _), (4, _), (5, _), (6, _)] ⟨rfl, rfl, rfl, rfl, rfl, rfl, trivial⟩ ?_))
          refine ⟨l.length - (i + 1), by omega, i + 1, by omega, rfl, hU, ?_, hrn, ht, hb4, hB1, by simp⟩
          have e : decide (l.take (i + 1)).Nodup = decide ((l.take i).Nodup ∧ x ∉ l.take i) := decide_eq_decide.2 (nodup_snoc hx)
          rw [e]
          exact hp
    · try simp only [cS, ne_eq, Decidable.not_not] at hc5
      obtain rfl : i = l.length := by omega
      rw [List.take_length] at hp
      refine WC.exit (WX.thenExit (WX.thenExit (WX.blockHere (WX.next (WC.seq (WC.region (WL.val rfl rfl rfl rfl (r_loadAgg (vs := [_, _, _, _]) rfl (ev_t rfl) agg_72 size_72 (Blk.cellsL hb4)) ?_)))))))
      refine WL.cons (SO.storeAll (us := [_, _, _, _]) rfl (ev_t rfl) (ev_t rfl) size_72 hB1 rfl rfl rfl rfl rfl ?_)
      intro w8 hu8 hB1 hz8
      have hs8 := hu8.size
      replace hU := hU.trans hu8 (by (intro k hl hk; (try simp only [At, New, Grow, From, No] at hk ⊢); omega))
      replace hp := hp.upd hu8 (by (intro k hk hS; first | (simp only [At] at hS; omega) | (have := hG k hS; omega)))
      replace hrn := hrn.upd hu8 (fun k hk hl hS => by (simp only [At, Bt] at hS hk; omega))
      replace ht := ht.upd hu8 (fun k hk hl hS => by (simp only [At, Bt] at hS hk; omega))
      replace hb4 := hb4.upd hu8 (by (simp only [At]; omega))
      refine WL.nil (WX.keep [(2, _)] ⟨rfl, trivial⟩ (WX.next (WC.ret (WX.retC (vs := [_, _, _, _]) rfl rfl agg_72 size_72 (Blk.cellsL hB1) ?_))))
      exact ⟨_, rfl, ht.mono fun k hk => by simp only [Bt] at *; omega, hp, hst.trans (Pst.dup _ _), hU⟩
end Go.Proofs.YtomkdhkkggbioaaGreatDoor
