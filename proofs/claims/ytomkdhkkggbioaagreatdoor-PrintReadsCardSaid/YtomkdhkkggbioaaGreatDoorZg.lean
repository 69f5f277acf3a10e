/-
  Several texts put together: Rtb, RtO.
-/
import Derived.ChangeMaps5
import Derived.Test.YtomkdhkkggbioaaGreatDoorZf
/-
 Law 05: PrintReads.
-/
namespace Go.Proofs.YtomkdhkkggbioaaGreatDoor
open Go
set_option linter.unusedSimpArgs false
set_option linter.unusedVariables false

/-- what is told of a cell, opened -/
theorem celV_form {w w' : World} {x : Except Nat (List Dc)} {v : Value} (h : celV w w' x v) : ∃ (A : Option Addr) (n p : Nat) (k e : Int), v = .tuple #[.slice A n p, .int .i64 k, .int .i64 e] ∧ ((∃ e' : Nat, x = .error e' ∧ e = e' ∧ e' ≠ 0) ∨ ∃ l xs, x = .ok l ∧ e = 0 ∧ n = l.length ∧ Rd w' (Bt w.heap.size w'.heap.size) (.slice A n p) l.length 11 (xs.flatMap id) ∧ Ms w' (Bt w.heap.size w'.heap.size) xs l ∧ l.length ≤ 2100) := by
 cases x with
 | error e =>
  obtain ⟨k, h1, h2, rfl⟩ := h
  exact ⟨_, _, _, _, _, rfl, .inl ⟨e, rfl, rfl, h1⟩⟩
 | ok l =>
  obtain ⟨A, p, xs, rfl, h1, h2, h3⟩ := h
  exact ⟨_, _, _, _, _, rfl, .inr ⟨l, xs, rfl, rfl, rfl, h1, h2, h3⟩⟩
theorem dc_at {a b c n v : Value} {e : List Value} (h : e.length = 6) : ([a, b, c] ++ e ++ [n, v])[9]? = some n ∧ ([a, b, c] ++ e ++ [n, v])[10]? = some v := by
 match e, h with
 | [_, _, _, _, _, _], _ => exact ⟨rfl, rfl⟩
theorem Type8_ok {W : World} {x0 x1 x2 : Value} {s : List UInt8} (h : TPr W [x0, x1, x2] 0 s) (hx : [x0, x1, x2].all Value.oneCell' = true) : Ret Tryz.prog 13 #[.agg #[x0, x1, x2]] W fun u w' => u = Sv s ∧ Upd No W w' := Type_ok h hx
set_option maxHeartbeats 4000000 in
theorem printReads.walk {w : World} {s : List UInt8} (hs : s.length ≤ 9223372036854775807) (hP : Pow10 w) : Ret Tryz.prog 4 #[Sv s] w fun v w' => v = .bool true ∧ Upd No w w' := by
 refine enterRet (vs := [_]) (N := 98) Tryz.func4 rfl rfl rfl ?_
 have hU := Upd.refl No w
 refine WC.keep [(0, _)] ⟨rfl, trivial⟩ (WC.seq (WC.region (WL.val rfl rfl rfl rfl (r_assign rfl ev_c) ?_)))
 refine WL.nil (WX.keep [(0, _)] ⟨rfl, trivial⟩ (WX.next (WC.seq (WC.seq (WC.region (WL.cons (SO.call (awake05_ok _ (hP.upd hU (fun k _ h => h))) rfl body_12 trivial rfl rfl rfl rfl ?_)))))))
 rintro v9 w1 ⟨rfl, hu1⟩
 have hs1 := hu1.size
 replace hU := hU.transA hu1
 refine WL.val rfl rfl rfl rfl (r_not rfl (ev_t rfl)) ?_
 refine WL.val rfl rfl rfl rfl (r_move rfl (ev_t rfl)) ?_
 refine WL.cases 14 rfl (fun hb1_2 => ?_) (fun hb1_2 => ?_)
 ·exfalso; (simp at hb1_2; done)
 ·try simp only [cS, ne_eq, Decidable.not_not] at hb1_2
  refine WL.val rfl rfl rfl rfl (r_move rfl (ev_t rfl)) ?_
  refine WL.val rfl rfl rfl rfl (r_lenStrL rfl (ev_t rfl) str_9) ?_
  refine WL.val rfl rfl rfl rfl (r_gtr rfl (ev_t rfl) ev_c) ?_
  refine WL.val rfl rfl rfl rfl (r_pickF rfl (ev_t rfl) (ev_t rfl)) ?_
  refine WL.nil (WX.keep [(0, _), (18, _)] ⟨rfl, rfl, trivial⟩ (WX.next (WC.cond rfl (ev_t rfl) (fun hc1 => ?_) (fun hc1 => ?_))))
  ·try simp only [cS, ne_eq, Decidable.not_not] at hc1
   refine WC.seq (WC.region (WL.cons (SO.call (awake05_ok _ (hP.upd hU (fun k _ h => h))) rfl body_12 trivial rfl rfl rfl rfl ?_)))
   rintro v9 w3 ⟨rfl, hu3⟩
   have hs3 := hu3.size
   replace hU := hU.transA hu3
   refine WL.val rfl rfl rfl rfl (r_assign rfl (ev_t rfl)) ?_
   refine WL.nil (WX.keep [(2, _)] ⟨rfl, trivial⟩ (WX.next (WC.ret (WX.thenRet (WX.retE1 rfl rfl ?_)))))
   exact ⟨rfl, hU⟩
  ·try simp only [cS, ne_eq, Decidable.not_not] at hc1
   refine WC.skip (WX.next (WC.seq (WC.region (WL.val rfl rfl rfl rfl (r_move rfl (ev_t rfl)) ?_))))
   refine WL.cons (SO.call (cell_ok (by omega)) rfl body_15 ⟨(ev_t rfl), trivial⟩ rfl rfl rfl rfl ?_)
   rintro v9 w4 ⟨hcv, hu4⟩
   have hs4 := hu4.size
   replace hU := hU.transA hu4
   obtain ⟨A1, n1, p1, k1, e1, rfl, hcw⟩ := celV_form hcv
   clear hcv
   refine WL.val rfl rfl rfl rfl (r_move rfl (ev_t rfl)) ?_
   refine WL.val rfl rfl rfl rfl (r_extract rfl (ev_t rfl) rfl) ?_
   refine WL.val rfl rfl rfl rfl (r_extract rfl (ev_t rfl) rfl) ?_
   refine WL.val rfl rfl rfl rfl (r_extract rfl (ev_t rfl) rfl) ?_
   refine WL.val rfl rfl rfl rfl (r_assign rfl (ev_t rfl)) ?_
   refine WL.val rfl rfl rfl rfl (r_assign rfl (ev_t rfl)) ?_
   refine WL.val rfl rfl rfl rfl (r_assign rfl (ev_t rfl)) ?_
   refine WL.nil (WX.keep [(3, _), (5, _)] ⟨rfl, rfl, trivial⟩ (WX.next (WC.seq (WC.seq (WC.region (WL.val rfl rfl rfl rfl (r_move rfl (ev_t rfl)) ?_))))))
   refine WL.val rfl rfl rfl rfl (r_neq rfl (ev_t rfl) ev_c) ?_
   refine WL.nil (WX.keep [(3, _), (27, _)] ⟨rfl, rfl, trivial⟩ (WX.next (WC.cond rfl (ev_t rfl) (fun hc4 => ?_) (fun hc4 => ?_))))
   ·try simp only [cS, ne_eq, Decidable.not_not] at hc4
    refine WC.seq (WC.region (WL.val rfl rfl rfl rfl (r_assign rfl ev_c) ?_))
    refine WL.nil (WX.keep [(2, _)] ⟨rfl, trivial⟩ (WX.next (WC.ret (WX.thenRet (WX.retE1 rfl rfl ?_)))))
    exact ⟨rfl, hU⟩
   ·try simp only [cS, ne_eq, Decidable.not_not] at hc4
    obtain ⟨l, xs, F, hcl, rfl, rfl, hrl, hml, hll, hFb⟩ : ∃ (l : List Dc) (xs : List (List Value)) (F : Nat → Prop), celF s = .ok l ∧ e1 = 0 ∧ n1 = l.length ∧ Rd w4 F (.slice A1 n1 p1) l.length 11 (xs.flatMap id) ∧ Ms w4 F xs l ∧ l.length ≤ 2100 ∧ ∀ k, F k → k < w4.heap.size := by
     rcases hcw with ⟨e', h1, h2, h3⟩ | h
     ·omega
     ·obtain ⟨l, xs, h1, h2, h3, h4, h5, h6⟩ := h
      exact ⟨l, xs, _, h1, h2, h3, h4, h5, h6, fun k hk => hk.2⟩
    have hgood := cel_good hcl
    obtain ⟨B9, hB9⟩ : ∃ B9, B9 = w4.heap.size := ⟨_, rfl⟩
    rw [← hB9] at hFb
    refine WC.skip (WX.next (WC.seq (WC.seq (WC.region (WL.val rfl rfl rfl rfl (r_assign rfl ev_c) ?_)))))
    refine WL.nil (WX.keep [(3, _), (6, _)] ⟨rfl, rfl, trivial⟩ (WX.next (WC.block ?_)))
    -- loop 1: live [3, 6]
    refine WC.keep [(3, _), (6, _)] ⟨rfl, rfl, trivial⟩ (WC.loop (fun qq E wA => ∃ i : Nat, i ≤ l.length ∧ qq = l.length - i ∧ Upd No w wA ∧ B9 ≤ wA.heap.size ∧ Rd wA F (.slice A1 l.length p1) l.length 11 (xs.flatMap id) ∧ Ms wA F xs l ∧ E = [(3, .slice A1 l.length p1), (6, .int .i64 (i : Int))]) (l.length) ?_ ?_)
    ·exact ⟨0, by omega, by omega, hU, by omega, hrl, hml, rfl⟩
    ·clear hU hrl hml
     rintro qq E wA ⟨i, hi, rfl, hU, hBA, hrl, hml, rfl⟩
     have hsA := hU.size
     refine WC.seq (WC.seq (WC.region (WL.val rfl rfl rfl rfl (r_move rfl (ev_t rfl)) ?_)))
     refine WL.val rfl rfl rfl rfl (r_move rfl (ev_t rfl)) ?_
     refine WL.val rfl rfl rfl rfl (r_lenSlice (ts := #[]) rfl (ev_t rfl) elem_30) ?_
     refine WL.val rfl rfl rfl rfl (r_lss rfl (ev_t rfl) (ev_t rfl)) ?_
     refine WL.nil (WX.keep [(3, _), (6, _), (31, _)] ⟨rfl, rfl, rfl, trivial⟩ (WX.next (WC.cond rfl (ev_t rfl) (fun hc7 => ?_) (fun hc7 => ?_))))
     ·try simp only [cS, ne_eq, Decidable.not_not] at hc7
      have hil : i < l.length := by omega
      obtain ⟨b1, o1, rfl, _⟩ := hrl.open (by omega)
      have hdi : l[i]? = some l[i] := List.getElem?_eq_getElem hil
      have hgd := hgood l[i] (List.getElem_mem hil)
      generalize l[i] = di at hdi hgd
      obtain ⟨xi, hxi, hti⟩ := hml.get hdi
      obtain ⟨ei, cv, xc, hxe, hei, hrc0, hmc0, hdn⟩ : DcM wA F xi di := hti
      have hel := (TM.len (show TM wA F ei di.e from hei))
      obtain ⟨B1, m1, rfl, hcc⟩ := hrc0.slice_form
      obtain ⟨h9, h10⟩ := dc_at (a := .int .u8 (di.k : Int)) (b := Sv di.s) (c := .bool di.rc) (n := .int .i64 (di.n : Int)) (v := .slice B1 di.cs.length m1) hel
      rw [← hxe] at h9 h10
      clear hei hxe
      refine WC.skip (WX.next (WC.seq (WC.block (WC.seq (WC.region (WL.val rfl rfl rfl rfl (r_assign rfl ev_c) ?_))))))
      refine WL.nil (WX.keep [(3, _), (6, _), (7, _)] ⟨rfl, rfl, rfl, trivial⟩ (WX.next (WC.block ?_)))
      -- loop 2: live [3, 6, 7]
      refine WC.keep [(3, _), (6, _), (7, _)] ⟨rfl, rfl, rfl, trivial⟩ (WC.loop (fun qq E wB => ∃ k : Nat, k ≤ di.cs.length ∧ qq = di.cs.length - k ∧ Upd No w wB ∧ B9 ≤ wB.heap.size ∧ Rd wB F (.slice (some ⟨b1, o1, none⟩) l.length p1) l.length 11 (xs.flatMap id) ∧ Ms wB F xs l ∧ Rd wB F (.slice B1 di.cs.length m1) di.cs.length 5 (xc.flatMap id) ∧ Ms wB F xc di.cs ∧ E = [(3, .slice (some ⟨b1, o1, none⟩) l.length p1), (6, .int .i64 (i : Int)), (7, .int .i64 (k : Int))]) (di.cs.length) ?_ ?_)
      ·exact ⟨0, by omega, by omega, hU, by omega, hrl, hml, hrc0, hmc0, rfl⟩
      ·clear hU hrl hml hrc0 hmc0
       rintro qq E wB ⟨k, hk, rfl, hU, hBB, hrl, hml, hrc, hmc, rfl⟩
       have hsB := hU.size
       have hcl9 := hrc.le
       refine WC.seq (WC.seq (WC.region (WL.val rfl rfl rfl rfl (r_move rfl (ev_t rfl)) ?_)))
       refine WL.val rfl rfl rfl rfl (r_move rfl (ev_t rfl)) ?_
       refine WL.val rfl rfl rfl rfl (r_move rfl (ev_t rfl)) ?_
       refine WL.val rfl rfl rfl rfl (r_indexAddr rfl (ev_t rfl) (ev_t rfl) elem_30 size_39 (by omega) (by omega)) ?_
       refine WL.val rfl rfl rfl rfl (r_fieldAt rfl (ev_t rfl) fld_39_5) ?_
       refine WL.val rfl rfl rfl rfl (r_load rfl (ev_t rfl) flat_37 (hrl.cell (j := i * 11 + 10) (by omega) (flat_getN hml.one_len hxi h10))) ?_
       refine WL.val rfl rfl rfl rfl (r_lenSlice (ts := #[]) rfl (ev_t rfl) elem_37) ?_
       refine WL.val rfl rfl rfl rfl (r_lss rfl (ev_t rfl) (ev_t rfl)) ?_
       refine WL.nil (WX.keep [(3, _), (6, _), (7, _), (41, _)] ⟨rfl, rfl, rfl, rfl, trivial⟩ (WX.next (WC.cond rfl (ev_t rfl) (fun hc10 => ?_) (fun hc10 => ?_))))
       ·try simp only [cS, ne_eq, Decidable.not_not] at hc10
        have hkl : k < di.cs.length := by omega
        obtain ⟨b2, o2, rfl, _⟩ := hrc.open (by omega)
        have hck : di.cs[k]? = some di.cs[k] := List.getElem?_eq_getElem hkl
        have hgc := hgd di.cs[k] (List.getElem_mem hkl)
        generalize di.cs[k] = ck at hck hgc
        obtain ⟨xk, hxk, htk⟩ := hmc.get hck
        obtain ⟨t3, hxke, ht3⟩ : CtM wB F xk ck := htk
        obtain ⟨y0, y1, y2, rfl⟩ := cells3 ht3.len
        have hy1 := ht3.one
        have ht : TM wB F [y0, y1, y2] ck.t := ht3
        subst hxke
        obtain ⟨tn, tv, tks, tA, tp, txs, het, hcs9, _⟩ := ht.mk3
        obtain ⟨rfl, rfl, rfl⟩ : y0 = _ ∧ y1 = _ ∧ y2 = _ := by simpa using hcs9
        refine WC.skip (WX.next (WC.seq (WC.block (WC.seq (WC.region (WL.val rfl rfl rfl rfl (r_move rfl (ev_t rfl)) ?_))))))
        refine WL.val rfl rfl rfl rfl (r_move rfl (ev_t rfl)) ?_
        refine WL.val rfl rfl rfl rfl (r_indexAddr rfl (ev_t rfl) (ev_t rfl) elem_30 size_39 (by omega) (by omega)) ?_
        refine WL.val rfl rfl rfl rfl (r_fieldAt rfl (ev_t rfl) fld_39_5) ?_
        refine WL.val rfl rfl rfl rfl (r_load rfl (ev_t rfl) flat_37 (hrl.cell (j := i * 11 + 10) (by omega) (flat_getN hml.one_len hxi h10))) ?_
        refine WL.val rfl rfl rfl rfl (r_move rfl (ev_t rfl)) ?_
        refine WL.val rfl rfl rfl rfl (r_indexAddr rfl (ev_t rfl) (ev_t rfl) elem_37 size_41 (by omega) (by omega)) ?_
        refine WL.val rfl rfl rfl rfl (r_loadAgg (vs := [_, _, _, _, _]) rfl (ev_t rfl) agg_41 size_41 (Rd.cellsL (us := [Sv ck.s, .bool ck.h, _, _, _]) hrc (i := k * 5) (by omega) (fun q v hv => flat_getN hmc.one_len hxk hv))) ?_
        refine WL.cons (SO.alloc rfl rfl rfl rfl (r_alloc rfl zero_41) ?_)
        intro w5 hu5 hB5 hz5
        have hs5 := hu5.size
        replace hU := hU.transA hu5
        replace hrl := hrl.upd hu5 (fun k hk hl hS => by exact hS)
        replace hml := hml.upd hu5 (fun k hk hl hS => by exact hS)
        replace hrc := hrc.upd hu5 (fun k hk hl hS => by exact hS)
        replace hmc := hmc.upd hu5 (fun k hk hl hS => by exact hS)
        replace ht := ht.upd hu5 (fun k hk hl hS => by exact hS)
        refine WL.cons (SO.storeAll (us := [_, _, _, _, _]) rfl (ev_t rfl) (ev_t rfl) size_41 hB5 rfl rfl rfl rfl rfl ?_)
        intro w6 hu6 hB5 hz6
        have hs6 := hu6.size
        replace hU := hU.transA hu6
        replace hrl := hrl.upd hu6 (fun k hk hl hS => by (simp only [At] at hS; have := hFb k hk; omega))
        replace hml := hml.upd hu6 (fun k hk hl hS => by (simp only [At] at hS; have := hFb k hk; omega))
        replace hrc := hrc.upd hu6 (fun k hk hl hS => by (simp only [At] at hS; have := hFb k hk; omega))
        replace hmc := hmc.upd hu6 (fun k hk hl hS => by (simp only [At] at hS; have := hFb k hk; omega))
        replace ht := ht.upd hu6 (fun k hk hl hS => by (simp only [At] at hS; have := hFb k hk; omega))
        refine WL.nil (WX.keep [(3, _), (6, _), (7, _), (8, _)] ⟨rfl, rfl, rfl, rfl, trivial⟩ ?_)
        have hb8 := hB5
        change Blk _ _ #[Sv ck.s, .bool ck.h, Sv tn, .int .i64 tv, .slice tA tks.length tp] _ at hb8
        refine WX.next (WC.seq (WC.seq (WC.region (WL.val rfl rfl rfl rfl (r_field0 rfl (ev_t rfl) fld_41_1) ?_))))
        refine WL.val rfl rfl rfl rfl (r_load rfl (ev_t rfl) flat_4 (Blk.cell hb8 rfl)) ?_
        refine WL.val rfl rfl rfl rfl (r_not rfl (ev_t rfl)) ?_
        refine WL.val rfl rfl rfl rfl (r_move rfl (ev_t rfl)) ?_
        refine WL.cases 55 rfl (fun hb13_3 => ?_) (fun hb13_3 => ?_)
        ·try simp only [cS, ne_eq, Decidable.not_not] at hb13_3
         refine WL.skip rfl rfl rfl (WL.skip rfl rfl rfl (WL.skip rfl rfl rfl (WL.skip rfl rfl rfl (WL.skip rfl rfl rfl (WL.skip rfl rfl rfl (WL.val rfl rfl rfl rfl (r_pickT rfl (ev_t rfl) ev_c) ?_))))))
         refine WL.nil (WX.keep [(3, _), (6, _), (7, _), (8, _), (62, _)] ⟨rfl, rfl, rfl, rfl, rfl, trivial⟩ (WX.next (WC.cond_true rfl (ev_t rfl) ?_)))
         refine WC.exit (WX.thenExit (WX.blockHere (WX.next (WC.region (WL.val rfl rfl rfl rfl (r_move rfl (ev_t rfl)) ?_)))))
         refine WL.val rfl rfl rfl rfl (r_addN rfl (ev_t rfl) ev_c (by simp only [inK]; omega)) ?_
         refine WL.val rfl rfl rfl rfl (r_assign rfl (ev_t rfl)) ?_
         refine WL.nil (WX.keep [(3, _), (6, _), (7, _)] ⟨rfl, rfl, rfl, trivial⟩ (WX.meet [(3, _), (6, _), (7, _)] ⟨rfl, rfl, rfl, trivial⟩ ?_))
         first
          | exact ⟨di.cs.length - (k + 1), by omega, k + 1, by omega, rfl, hU, by omega, hrl, hml, hrc, hmc, by simp⟩
          | fail
        ·try simp only [cS, ne_eq, Decidable.not_not] at hb13_3
         refine WL.val rfl rfl rfl rfl (r_move rfl (ev_t rfl)) ?_
         refine WL.val rfl rfl rfl rfl (r_move rfl (ev_t rfl)) ?_
         refine WL.val rfl rfl rfl rfl (r_indexAddr rfl (ev_t rfl) (ev_t rfl) elem_30 size_39 (by omega) (by omega)) ?_
         refine WL.val rfl rfl rfl rfl (r_fieldAt rfl (ev_t rfl) fld_39_4) ?_
         refine WL.val rfl rfl rfl rfl (r_load rfl (ev_t rfl) flat_3 (hrl.cell (j := i * 11 + 9) (by omega) (flat_getN hml.one_len hxi h9))) ?_
         refine WL.val rfl rfl rfl rfl (r_gtr rfl (ev_t rfl) ev_c) ?_
         refine WL.val rfl rfl rfl rfl (r_pickF rfl (ev_t rfl) (ev_t rfl)) ?_
         refine WL.nil (WX.keep [(3, _), (6, _), (7, _), (8, _), (62, _)] ⟨rfl, rfl, rfl, rfl, rfl, trivial⟩ (WX.next (WC.cond rfl (ev_t rfl) (fun hc13 => ?_) (fun hc13 => ?_))))
         ·try simp only [cS, ne_eq, Decidable.not_not] at hc13
          refine WC.exit (WX.thenExit (WX.blockHere (WX.next (WC.region (WL.val rfl rfl rfl rfl (r_move rfl (ev_t rfl)) ?_)))))
          refine WL.val rfl rfl rfl rfl (r_addN rfl (ev_t rfl) ev_c (by simp only [inK]; omega)) ?_
          refine WL.val rfl rfl rfl rfl (r_assign rfl (ev_t rfl)) ?_
          refine WL.nil (WX.keep [(3, _), (6, _), (7, _)] ⟨rfl, rfl, rfl, trivial⟩ (WX.meet [(3, _), (6, _), (7, _)] ⟨rfl, rfl, rfl, trivial⟩ ?_))
          first
           | exact ⟨di.cs.length - (k + 1), by omega, k + 1, by omega, rfl, hU, by omega, hrl, hml, hrc, hmc, by simp⟩
           | fail
         ·try simp only [cS, ne_eq, Decidable.not_not] at hc13
          have hck9 : ck.h = true := by first | (simpa using hb13_3) | (simp_all; done)
          have hN4 : di.n ≤ 4 := by omega
          obtain ⟨hgt, hsz⟩ := hgc hck9
          have hg4 := gT_mono hN4 _ hgt
          have htl := typ_len (N := 4) (by decide) 4003 ck.t 0 hsz hg4
          have hb4 := cel_back hsz hg4
          refine WC.skip (WX.next (WC.seq (WC.region (WL.val rfl rfl rfl rfl (r_field0 rfl (ev_t rfl) fld_41_2) ?_))))
          refine WL.val rfl rfl rfl rfl (r_loadAgg (vs := [_, _, _]) rfl (ev_t rfl) agg_24 size_24 (Blk.cellsP hb8 (us := [Sv tn, .int .i64 tv, .slice tA tks.length tp]) (fun j v hv => by match j, hv with | 0, h => exact h | 1, h => exact h | 2, h => exact h))) ?_
          refine WL.cons (SO.call (Type8_ok (TPr.good (N := 4) (by decide) 4003 ck.t _ _ (by decide) hsz hg4 ht (hP.upd hU (fun k _ h => h)) 0) hy1) rfl body_13 ⟨(ev_t rfl), trivial⟩ rfl rfl rfl rfl ?_)
          rintro v9 w7 ⟨rfl, hu7⟩
          have hs7 := hu7.size
          replace hU := hU.transA hu7
          replace hrl := hrl.upd hu7 (fun k hk hl hS => by exact hS)
          replace hml := hml.upd hu7 (fun k hk hl hS => by exact hS)
          replace hrc := hrc.upd hu7 (fun k hk hl hS => by exact hS)
          replace hmc := hmc.upd hu7 (fun k hk hl hS => by exact hS)
          replace ht := ht.upd hu7 (fun k hk hl hS => by exact hS)
          replace hb8 := hb8.upd hu7 (fun h => h)
          refine WL.val rfl rfl rfl rfl (r_addStrL (s := preS) (s' := typS 4003 ck.t 0) rfl ev_c (ev_t rfl) (by have : preS.length = 31 := rfl; omega)) ?_
          refine WL.cons (SO.call (cell_ok (s := preS ++ typS 4003 ck.t 0) (by have : preS.length = 31 := rfl; rw [List.length_append]; omega)) rfl body_15 ⟨(ev_t rfl), trivial⟩ rfl rfl rfl rfl ?_)
          rintro v9 w8 ⟨hcv, hu8⟩
          have hs8 := hu8.size
          replace hU := hU.transA hu8
          replace hrl := hrl.upd hu8 (fun k hk hl hS => by exact hS)
          replace hml := hml.upd hu8 (fun k hk hl hS => by exact hS)
          replace hrc := hrc.upd hu8 (fun k hk hl hS => by exact hS)
          replace hmc := hmc.upd hu8 (fun k hk hl hS => by exact hS)
          replace ht := ht.upd hu8 (fun k hk hl hS => by exact hS)
          replace hb8 := hb8.upd hu8 (fun h => h)
          obtain ⟨A3, n3, p3, k3, e3, rfl, hcx⟩ := celV_form hcv
          clear hcv
          obtain ⟨M, hM⟩ : ∃ M : Prop, M = (e3 = 2 ∨ e3 = 5 ∨ (e3 = 0 ∧ n3 = 1 ∧ ∃ (G : Nat → Prop) (zs : List (List Value)), Rd w8 G (.slice A3 n3 p3) 1 11 (zs.flatMap id) ∧ Ms w8 G zs [dc9 ck.t])) := ⟨_, rfl⟩
          have hMt : M := by
           rw [hM]
           rcases hcx with ⟨e', h1, h2, h3⟩ | ⟨l', zs, h1, h2, h3, h4, h5, h6⟩
           ·rcases hb4 with h | h | h
            ·rw [h1] at h; injection h with h; left; omega
            ·rw [h1] at h; injection h with h; right; left; omega
            ·rw [h1] at h; cases h
           ·rcases hb4 with h | h | h
            ·rw [h1] at h; cases h
            ·rw [h1] at h; cases h
            ·rw [h1] at h; injection h with h; subst h; exact .inr (.inr ⟨h2, h3, _, zs, h4, h5⟩)
          rw [hM] at hMt
          clear hM hcx
          refine WL.val rfl rfl rfl rfl (r_move rfl (ev_t rfl)) ?_
          refine WL.val rfl rfl rfl rfl (r_extract rfl (ev_t rfl) rfl) ?_
          refine WL.val rfl rfl rfl rfl (r_extract rfl (ev_t rfl) rfl) ?_
          refine WL.val rfl rfl rfl rfl (r_extract rfl (ev_t rfl) rfl) ?_
          refine WL.val rfl rfl rfl rfl (r_assign rfl (ev_t rfl)) ?_
          refine WL.val rfl rfl rfl rfl (r_assign rfl (ev_t rfl)) ?_
          refine WL.val rfl rfl rfl rfl (r_assign rfl (ev_t rfl)) ?_
          refine WL.nil (WX.keep [(3, _), (6, _), (7, _), (8, _), (9, _), (11, _)] ⟨rfl, rfl, rfl, rfl, rfl, rfl, trivial⟩ (WX.next (WC.seq (WC.seq (WC.region (WL.val rfl rfl rfl rfl (r_move rfl (ev_t rfl)) ?_))))))
          refine WL.val rfl rfl rfl rfl (r_eql rfl (ev_t rfl) ev_c) ?_
          refine WL.val rfl rfl rfl rfl (r_move rfl (ev_t rfl)) ?_
          refine WL.cases 74 rfl (fun hb15_2 => ?_) (fun hb15_2 => ?_)
          ·try simp only [cS, ne_eq, Decidable.not_not] at hb15_2
           refine WL.skip rfl rfl rfl (WL.skip rfl rfl rfl (WL.val rfl rfl rfl rfl (r_pickT rfl (ev_t rfl) ev_c) ?_))
           refine WL.nil (WX.keep [(3, _), (6, _), (7, _), (8, _), (9, _), (11, _), (77, _)] ⟨rfl, rfl, rfl, rfl, rfl, rfl, rfl, trivial⟩ (WX.next (WC.cond_true rfl (ev_t rfl) ?_)))
           refine WC.exit (WX.thenExit (WX.blockHere (WX.next (WC.region (WL.val rfl rfl rfl rfl (r_move rfl (ev_t rfl)) ?_)))))
           refine WL.val rfl rfl rfl rfl (r_addN rfl (ev_t rfl) ev_c (by simp only [inK]; omega)) ?_
           refine WL.val rfl rfl rfl rfl (r_assign rfl (ev_t rfl)) ?_
           refine WL.nil (WX.keep [(3, _), (6, _), (7, _)] ⟨rfl, rfl, rfl, trivial⟩ (WX.meet [(3, _), (6, _), (7, _)] ⟨rfl, rfl, rfl, trivial⟩ ?_))
           first
            | exact ⟨di.cs.length - (k + 1), by omega, k + 1, by omega, rfl, hU, by omega, hrl, hml, hrc, hmc, by simp⟩
            | fail
          ·try simp only [cS, ne_eq, Decidable.not_not] at hb15_2
           refine WL.val rfl rfl rfl rfl (r_move rfl (ev_t rfl)) ?_
           refine WL.val rfl rfl rfl rfl (r_eql rfl (ev_t rfl) ev_c) ?_
           refine WL.val rfl rfl rfl rfl (r_pickF rfl (ev_t rfl) (ev_t rfl)) ?_
           refine WL.nil (WX.keep [(3, _), (6, _), (7, _), (8, _), (9, _), (11, _), (77, _)] ⟨rfl, rfl, rfl, rfl, rfl, rfl, rfl, trivial⟩ (WX.next (WC.cond rfl (ev_t rfl) (fun hc15 => ?_) (fun hc15 => ?_))))
           ·try simp only [cS, ne_eq, Decidable.not_not] at hc15
            refine WC.exit (WX.thenExit (WX.blockHere (WX.next (WC.region (WL.val rfl rfl rfl rfl (r_move rfl (ev_t rfl)) ?_)))))
            refine WL.val rfl rfl rfl rfl (r_addN rfl (ev_t rfl) ev_c (by simp only [inK]; omega)) ?_
            refine WL.val rfl rfl rfl rfl (r_assign rfl (ev_t rfl)) ?_
            refine WL.nil (WX.keep [(3, _), (6, _), (7, _)] ⟨rfl, rfl, rfl, trivial⟩ (WX.meet [(3, _), (6, _), (7, _)] ⟨rfl, rfl, rfl, trivial⟩ ?_))
            first
             | exact ⟨di.cs.length - (k + 1), by omega, k + 1, by omega, rfl, hU, by omega, hrl, hml, hrc, hmc, by simp⟩
             | fail
           ·try simp only [cS, ne_eq, Decidable.not_not] at hc15
            refine WC.skip (WX.next (WC.seq ?_))
            obtain ⟨rfl, rfl, G, zs, hrm, hmm⟩ : e3 = 0 ∧ n3 = 1 ∧ ∃ (G : Nat → Prop) (zs : List (List Value)), Rd w8 G (.slice A3 n3 p3) 1 11 (zs.flatMap id) ∧ Ms w8 G zs [dc9 ck.t] := by
             rcases hMt with h | h | h
             ·omega
             ·omega
             ·exact h
            obtain ⟨b3, o3, rfl, _⟩ := hrm.open (by omega)
            obtain ⟨z0, hz0, htz⟩ := hmm.get (i := 0) (k := dc9 ck.t) rfl
            obtain ⟨e9, cv9, xc9, hze, hee, hrq, hmq, hdn9⟩ : DcM w8 G z0 (dc9 ck.t) := htz
            have hel9 := (TM.len (show TM w8 G e9 (dc9 ck.t).e from hee))
            obtain ⟨B4, m4, rfl, hcc4⟩ := hrq.slice_form
            replace hrq : Rd w8 G (.slice B4 1 m4) 1 5 (xc9.flatMap id) := hrq
            obtain ⟨b4, o4, rfl, _⟩ := hrq.open (by omega)
            have h10q : z0[10]? = some (.slice (some ⟨b4, o4, none⟩) 1 m4) := by rw [hze]; exact (dc_at hel9).2
            obtain ⟨u0, hu0, htu⟩ := hmq.get (i := 0) (k := (⟨[67], true, ck.t⟩ : Ct)) rfl
            obtain ⟨u3, hue, htr⟩ : CtM w8 G u0 ⟨[67], true, ck.t⟩ := htu
            obtain ⟨v0, v1, v2, rfl⟩ := cells3 htr.len
            have htm : TM w8 G [v0, v1, v2] ck.t := htr
            have hz1 := hmm.one_len
            have hu1 := hmq.one_len
            subst hue
            refine WC.draws' (fun u0_ u1_ => Upd No u0_ u1_) (fun j => [0, 0, 0, 0, 0, 0, 0, 0, 0, 0, 0, 0, 0, 0, 0, 0, 1, 2, 0, 0].getD j 0) (.calm 0 (.calm 1 (.calm 2 (.calm 3 (.calm 4 (.calm 5 (.calm 6 (.calm 7 (.calm 8 (.calm 9 (.calm 10 (.calm 15 (.held 11 (.calm 12 (.calm 13 (.held 14 (.one 16 (.one 17 (.calm 18 (.calm 19 (.done))))))))))))))))))))) mixed (by kernel_rfl) (by repeat (first | with_reducible exact Deaf.body | with_reducible apply Deaf.then | with_reducible apply Deaf.block)) ?_
            intro w9 hu9
            have hz9 := congrArg Array.size hu9.2.2.2
            replace hu9 := Upd.of_draw hu9
            have hs9 := hu9.size
            replace hU := hU.transA hu9
            replace hrl := hrl.upd hu9 (fun k hk hl hS => by exact hS)
            replace hml := hml.upd hu9 (fun k hk hl hS => by exact hS)
            replace hrc := hrc.upd hu9 (fun k hk hl hS => by exact hS)
            replace hmc := hmc.upd hu9 (fun k hk hl hS => by exact hS)
            replace ht := ht.upd hu9 (fun k hk hl hS => by exact hS)
            replace hb8 := hb8.upd hu9 (fun h => h)
            replace hrm := hrm.upd hu9 (fun _ _ _ h => h)
            replace hrq := hrq.upd hu9 (fun _ _ _ h => h)
            replace htm := htm.upd hu9 (fun _ _ _ h => h)
            have hS16 := Upd.refl No w9
            refine WN.calm _ rfl rfl rfl rfl rfl (fun _ => r_move rfl (ev_t rfl)) ?_
            refine WN.calm _ rfl rfl rfl rfl rfl (fun _ => r_neq rfl (ev_t rfl) ev_c) ?_
            refine WN.calm _ rfl rfl rfl rfl rfl (fun _ => r_move rfl (ev_t rfl)) ?_
            refine WN.cases 80 rfl (fun hb16_2 => ?_) (fun hb16_2 => ?_)
            ·exfalso; (simp at hb16_2; done)
            ·try simp only [cS, ne_eq, Decidable.not_not] at hb16_2
             refine WN.calm _ rfl rfl rfl rfl rfl (fun _ => r_move rfl (ev_t rfl)) ?_
             refine WN.calm _ rfl rfl rfl rfl rfl (fun _ => r_lenSlice (ts := #[]) rfl (ev_t rfl) elem_30) ?_
             refine WN.calm _ rfl rfl rfl rfl rfl (fun _ => r_neq rfl (ev_t rfl) ev_c) ?_
             refine WN.calm _ rfl rfl rfl rfl rfl (fun _ => r_pickF rfl (ev_t rfl) (ev_t rfl)) ?_
             refine WN.calm _ rfl rfl rfl rfl rfl (fun _ => r_move rfl (ev_t rfl)) ?_
             refine WN.cases 85 rfl (fun hb16_7 => ?_) (fun hb16_7 => ?_)
             ·exfalso; (simp at hb16_7; done)
             ·try simp only [cS, ne_eq, Decidable.not_not] at hb16_7
              refine WN.calm _ rfl rfl rfl rfl rfl (fun _ => r_move rfl (ev_t rfl)) ?_
              refine WN.calm _ rfl rfl rfl rfl rfl (fun _ => r_indexAddr rfl (ev_t rfl) ev_c elem_30 size_39 (by omega) (by omega)) ?_
              refine WN.calm _ rfl rfl rfl rfl rfl (fun _ => r_fieldAt rfl (ev_t rfl) fld_39_5) ?_
              refine WN.calm _ rfl rfl rfl rfl rfl (fun _ => r_field0 rfl (ev_t rfl) fld_41_2) ?_
              refine WN.held _ rfl rfl rfl rfl rfl hS16 (fun w' hS => r_load rfl (ev_t rfl) flat_37 ((hrm.upd hS (fun _ _ _ h => h)).cell (j := 0 * 11 + 10) (by omega) (flat_getN hz1 hz0 h10q))) ?_
              refine WN.calm _ rfl rfl rfl rfl rfl (fun _ => r_indexAddr rfl (ev_t rfl) ev_c elem_37 size_41 (by omega) (by omega)) ?_
              refine WN.calm _ rfl rfl rfl rfl rfl (fun _ => r_fieldAt rfl (ev_t rfl) fld_41_2) ?_
              refine WN.held _ rfl rfl rfl rfl rfl hS16 (fun w' hS => r_loadAgg (vs := [_, _, _]) rfl (ev_t rfl) agg_24 size_24 (Rd.cellsL (us := [v0, v1, v2]) (hrq.upd hS (fun _ _ _ h => h)) (i := 0 * 5 + 2) (by omega) (fun q v hv => by rw [Nat.add_assoc]; exact flat_getN hu1 hu0 (by rw [List.getElem?_append_right (by simp)]; simpa using hv)))) ?_
              refine WN.step _ rfl (SO.val rfl rfl rfl rfl (r_loadAgg (vs := [_, _, _]) rfl (ev_t rfl) agg_24 size_24 (Blk.cellsP hb8 (us := [Sv tn, .int .i64 tv, .slice tA tks.length tp]) (fun j v hv => by match j, hv with | 0, h => exact h | 1, h => exact h | 2, h => exact h))) ?_)
              refine ⟨hS16, ?_⟩
              refine WN.step _ rfl (SO.call (sameT9_ok 4003 _ [v0, v1, v2] [Sv tn, .int .i64 tv, .slice tA tks.length tp] ck.t hsz htm ht) rfl body_16 ⟨(ev_t rfl), (ev_t rfl), trivial⟩ rfl rfl rfl rfl ?_)
              rintro v9 w10 ⟨rfl, hu10⟩
              have hs10 := hu10.size
              try replace hS16 := Upd.transA hS16 hu10
              replace hU := hU.transA hu10
              replace hrl := hrl.upd hu10 (fun k hk hl hS => by exact hS)
              replace hml := hml.upd hu10 (fun k hk hl hS => by exact hS)
              replace hrc := hrc.upd hu10 (fun k hk hl hS => by exact hS)
              replace hmc := hmc.upd hu10 (fun k hk hl hS => by exact hS)
              replace ht := ht.upd hu10 (fun k hk hl hS => by exact hS)
              replace hb8 := hb8.upd hu10 (fun h => h)
              replace hrm := hrm.upd hu10 (fun _ _ _ h => h)
              replace hrq := hrq.upd hu10 (fun _ _ _ h => h)
              replace htm := htm.upd hu10 (fun _ _ _ h => h)
              refine ⟨trivial, ?_⟩
              refine WN.calm _ rfl rfl rfl rfl rfl (fun _ => r_not rfl (ev_t rfl)) ?_
              refine WN.calm _ rfl rfl rfl rfl rfl (fun _ => r_pickF rfl (ev_t rfl) (ev_t rfl)) ?_
              refine WN.done ?_
              refine WX.keep [(3, _), (6, _), (7, _), (97, _)] ⟨rfl, rfl, rfl, rfl, trivial⟩ (WX.next (WC.cond rfl (ev_t rfl) (fun hc16 => ?_) (fun hc16 => ?_)))
              ·try simp only [cS, ne_eq, Decidable.not_not] at hc16
               exfalso
               simp at hc16
              ·try simp only [cS, ne_eq, Decidable.not_not] at hc16
               refine WC.skip (WX.blockNormal (WX.next (WC.region (WL.val rfl rfl rfl rfl (r_move rfl (ev_t rfl)) ?_))))
               refine WL.val rfl rfl rfl rfl (r_addN rfl (ev_t rfl) ev_c (by simp only [inK]; omega)) ?_
               refine WL.val rfl rfl rfl rfl (r_assign rfl (ev_t rfl)) ?_
               refine WL.nil (WX.keep [(3, _), (6, _), (7, _)] ⟨rfl, rfl, rfl, trivial⟩ (WX.meet [(3, _), (6, _), (7, _)] ⟨rfl, rfl, rfl, trivial⟩ ?_))
               first
                | exact ⟨di.cs.length - (k + 1), by omega, k + 1, by omega, rfl, hU, by omega, hrl, hml, hrc, hmc, by simp⟩
                | fail
       ·try simp only [cS, ne_eq, Decidable.not_not] at hc10
        refine WC.exit (WX.thenExit (WX.thenExit (WX.blockHere (WX.blockNormal (WX.next (WC.region (WL.val rfl rfl rfl rfl (r_move rfl (ev_t rfl)) ?_)))))))
        refine WL.val rfl rfl rfl rfl (r_addN rfl (ev_t rfl) ev_c (by simp only [inK]; omega)) ?_
        refine WL.val rfl rfl rfl rfl (r_assign rfl (ev_t rfl)) ?_
        refine WL.nil (WX.keep [(3, _), (6, _)] ⟨rfl, rfl, trivial⟩ (WX.meet [(3, _), (6, _)] ⟨rfl, rfl, trivial⟩ ?_))
        exact ⟨l.length - (i + 1), by omega, i + 1, by omega, rfl, hU, by omega, hrl, hml, by simp⟩
     ·try simp only [cS, ne_eq, Decidable.not_not] at hc7
      refine WC.exit (WX.thenExit (WX.thenExit (WX.blockHere (WX.next (WC.seq (WC.region (WL.val rfl rfl rfl rfl (r_assign rfl ev_c) ?_)))))))
      refine WL.nil (WX.keep [(2, _)] ⟨rfl, trivial⟩ (WX.next (WC.ret (WX.retE1 rfl rfl ?_))))
      exact ⟨rfl, hU⟩
end Go.Proofs.YtomkdhkkggbioaaGreatDoor

/-
  Opening an argument that is a string.
-/
namespace Go.Proofs.YtomkdhkkggbioaaGreatDoor
open Go Go.ChangeShapes Go.WideShapes
set_option linter.unusedSimpArgs false
set_option linter.unusedVariables false

theorem open_str9 {H : Type} {enc : TypeId × Value → H} {P : Program} {w : World} {base : Nat} {sp : Nat → Bool} {held : Bool} {r : Reach} {b0 : Nat} {t : TypeId} {v : Value} {d : DataW H} {ps : List MemPlace} {X : Prop} (ht : P.underlying t = some .string) (hval : Value.okWide P w r b0 t v) (hd : DataW.Trod enc P w base sp held t v d ps) (_ : X) :
    ∃ s : List UInt8, v = .string ⟨s.toArray⟩ ∧ s.length ≤ 9223372036854775807 := by
  obtain ⟨s, rfl, _, _, hm⟩ := Go.ChangeMaps.open_string ht hval hd
  refine ⟨s.data.toList, ?_, ?_⟩
  · cases s; simp
  · have h9 : s.size ≤ 9223372036854775807 := by unfold maxLen at hm; omega
    simpa using h9
end Go.Proofs.YtomkdhkkggbioaaGreatDoor
