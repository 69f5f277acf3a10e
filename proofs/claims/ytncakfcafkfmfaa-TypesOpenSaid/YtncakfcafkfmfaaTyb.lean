/-
  types: Fresh, Size, Apply.
-/
import Derived.Test.YtncakfcafkfmfaaTya
namespace Go.Proofs.Ytncakfcafkfmfaa
open Go
set_option linter.unusedSimpArgs false
set_option linter.unusedVariables false

theorem fresh_ok {w : World} {F : Nat → Prop} {p m1 m2 : Nat} {σ : Sg} {D : Dn} {nn : Int} {xs : List C3} (hI : IsS w F p m1 m2 σ D nn xs) (hF : ∀ k, F k → ¬ Mut p m1 m2 k) (hn : inK .i64 (nn + 1)) :
    Ret Try.prog 28 #[.pointer (some ⟨p, 0, none⟩)] w fun v w' => v = .agg #[.string ⟨#[]⟩, .int .i64 (nn + 1), .slice none 0 0] ∧ IsS w' F p m1 m2 σ D (nn + 1) xs ∧ Upd (At p) w w' := by
  have hhd := hI.hd
  have hlt := hI.lt
  have hn1 := hI.ne1
  have hn2 := hI.ne2
  have hn' : inK .i64 (nn + 1) := hn
  simp only [inK] at hn'
  refine enterRet (vs := [_]) (N := 15) Try.func28 rfl rfl rfl ?_
  have hU := Upd.refl (At p) w
  refine WC.keep [(0, _)] ⟨rfl, trivial⟩ ?_
  refine WC.seq ?_
  refine WC.region ?_
  refine WL.cons (SO.alloc rfl rfl rfl rfl (r_alloc rfl zero_28) ?_)
  intro w1 hu1 hB1 hz1
  have hs1 := hu1.size
  replace hU := hU.transA hu1
  replace hhd := hhd.updA hu1
  refine WL.nil ?_
  refine WX.keep [(0, _), (2, _)] ⟨rfl, rfl, trivial⟩ ?_
  refine WX.next ?_
  refine WC.seq ?_
  refine WC.region ?_
  refine WL.val rfl rfl rfl rfl (r_move rfl (ev_t rfl)) ?_
  refine WL.val rfl rfl rfl rfl (r_nilCheck rfl (ev_t rfl)) ?_
  first | refine WL.val rfl rfl rfl rfl (r_field0 rfl (ev_t rfl) fld_59_1) ?_ | refine WL.val rfl rfl rfl rfl (r_fieldAt rfl (ev_t rfl) fld_59_1) ?_
  first | refine WL.val rfl rfl rfl rfl (r_load rfl (ev_t rfl) flat_3 (Blk.cell hhd rfl)) ?_ | refine WL.val rfl rfl rfl rfl (r_load rfl (ev_t rfl) flat_3 (Blk.cell hB1 rfl)) ?_
  first | refine WL.val rfl rfl rfl rfl (r_addN rfl (ev_t rfl) ev_c (by simp only [inK]; omega)) ?_ | refine WL.val rfl rfl rfl rfl (r_add rfl (ev_t rfl) ev_c) ?_
  refine WL.val rfl rfl rfl rfl (r_nilCheck rfl (ev_t rfl)) ?_
  first | refine WL.val rfl rfl rfl rfl (r_field0 rfl (ev_t rfl) fld_59_1) ?_ | refine WL.val rfl rfl rfl rfl (r_fieldAt rfl (ev_t rfl) fld_59_1) ?_
  refine WL.cons (SO.store rfl (ev_t rfl) (ev_t rfl) size_3 hhd rfl rfl rfl rfl rfl ?_)
  intro w2 hu2 hhd hz2
  have hs2 := hu2.size
  replace hU := hU.transA hu2
  replace hB1 := hB1.updA hu2
  refine WL.nil ?_
  refine WX.keep [(0, _), (2, _)] ⟨rfl, rfl, trivial⟩ ?_
  refine WX.next ?_
  refine WC.seq ?_
  refine WC.region ?_
  refine WL.val rfl rfl rfl rfl (r_move rfl (ev_t rfl)) ?_
  refine WL.val rfl rfl rfl rfl (r_nilCheck rfl (ev_t rfl)) ?_
  first | refine WL.val rfl rfl rfl rfl (r_field0 rfl (ev_t rfl) fld_59_1) ?_ | refine WL.val rfl rfl rfl rfl (r_fieldAt rfl (ev_t rfl) fld_59_1) ?_
  first | refine WL.val rfl rfl rfl rfl (r_load rfl (ev_t rfl) flat_3 (Blk.cell hhd rfl)) ?_ | refine WL.val rfl rfl rfl rfl (r_load rfl (ev_t rfl) flat_3 (Blk.cell hB1 rfl)) ?_
  refine WL.val rfl rfl rfl rfl (r_build (cs := #[_, _, _]) (vs := [(1, _)]) rfl ⟨⟨rfl, (ev_t rfl)⟩, trivial⟩ plc_28 zero_28 rfl) ?_
  refine WL.cons (SO.storeAll (us := [_, _, _]) rfl (ev_t rfl) (ev_t rfl) size_28 hB1 rfl rfl rfl rfl rfl ?_)
  intro w3 hu3 hB1 hz3
  have hs3 := hu3.size
  replace hU := hU.transA hu3
  replace hhd := hhd.updA hu3
  refine WL.nil ?_
  refine WX.keep [(2, _)] ⟨rfl, trivial⟩ ?_
  refine WX.next ?_
  refine WC.ret ?_
  refine WX.retC (vs := [_, _, _]) rfl rfl agg_28 size_28 (Blk.cellsL hB1) ?_
  refine ⟨rfl, ⟨hhd, hI.of_.upd hU (fun h => hn1 h), hI.dn.upd hU (fun h => hn2 h), hI.ne, hI.tv.upd hU fun k hk _ h => ?_⟩, hU⟩
  have hkp : k = p := h
  exact hF k hk (.inl hkp)

theorem head_sz {σ : Sg} {t h : Ty} (hw : WF σ) (i : IsHd σ t h) : sz (ext (th σ) t) = 1 + (h.kids.map fun k => sz (ext (th σ) k)).sum := by
  rw [← i.sol hw.sol]
  cases h with
  | v x => rw [ext_v, hw.unb (i.end_ x rfl), sz_v]; rfl
  | c f ks => rw [ext_c, sz_c, List.map_map]; rfl
theorem head_ext {σ : Sg} {t h : Ty} (hw : WF σ) (i : IsHd σ t h) : (ext (th σ) t).nm = h.nm ∧ (ext (th σ) t).kids = h.kids.map (ext (th σ)) ∧ ∀ x, ext (th σ) t = .v x → h = .v x := by
  rw [← i.sol hw.sol]
  cases h with
  | v x =>
    rw [ext_v, hw.unb (i.end_ x rfl)]
    exact ⟨rfl, rfl, fun y e => e⟩
  | c f ks =>
    rw [ext_c]
    exact ⟨rfl, rfl, fun y e => by cases e⟩
theorem take_sum_succ {l : List Ty} {f : Ty → Nat} {i : Nat} (h : i < l.length) : ((l.take (i + 1)).map f).sum = ((l.take i).map f).sum + f l[i] := by
  rw [List.take_succ_eq_append_getElem h, List.map_append, List.sum_append]
  simp
theorem kid_lt {σ : Sg} {l : List Ty} {i : Nat} (h : i < l.length) : sz (ext (th σ) l[i]) ≤ (l.map fun k => sz (ext (th σ) k)).sum := sum_mem_le (List.mem_map_of_mem (List.getElem_mem h))
theorem take_sum_le {l : List Ty} {f : Ty → Nat} {i : Nat} : ((l.take i).map f).sum ≤ (l.map f).sum := by
  have : l.map f = (l.take i).map f ++ (l.drop i).map f := by rw [← List.map_append, List.take_append_drop]
  rw [this, List.sum_append]
  omega

set_option maxHeartbeats 1000000 in
theorem tsize_ok {p m1 m2 : Nat} {σ : Sg} {D : Dn} {nn : Int} {xs : List C3} (hw : WF σ) : ∀ (N : Nat) (F : Nat → Prop) (w : World) (a b c : Value) (t : Ty) (most : Nat), sz (ext (th σ) t) ≤ N → IsS w F p m1 m2 σ D nn xs → TV w F (a, b, c) t → 1 ≤ most → most ≤ 1000000000 →
    Ret Try.prog 19 #[.pointer (some ⟨p, 0, none⟩), .agg #[a, b, c], .int .i64 (most : Int)] w fun v w' => v = .int .i64 ((min (sz (ext (th σ) t)) most : Nat) : Int) ∧ Upd No w w' := by
  intro N
  induction N with
  | zero =>
    intro F w a b c t most hN
    have := sz_pos (ext (th σ) t)
    omega
  | succ N ih =>
    intro F w a b c t most hN hI ht h1 h2
    replace hI := hI.bound
    replace ht := ht.bound
    obtain ⟨h, hh⟩ := hw.hd t
    obtain ⟨fu, hfu⟩ := hh.fuel
    have hsz := head_sz hw hh
    obtain ⟨m0, A9, k9, xk9, rfl, rfl, rfl, _⟩ := ht.open
    refine enterRet (vs := [_, _, _]) (N := 33) Try.func19 rfl rfl rfl ?_
    have hU := Upd.refl No w
    refine WC.keep [(0, _), (1, _), (2, _)] ⟨rfl, rfl, rfl, trivial⟩ ?_
    refine WC.seq ?_
    refine WC.region ?_
    refine WL.cons (SO.alloc rfl rfl rfl rfl (r_boxAgg rfl (ev_t rfl)) ?_)
    intro w1 hu1 hB1 hz1
    have hs1 := hu1.size
    replace hU := hU.transA hu1
    refine WL.val rfl rfl rfl rfl (r_assign rfl ev_c) ?_
    refine WL.nil ?_
    refine WX.keep [(0, _), (2, _), (4, _)] ⟨rfl, rfl, rfl, trivial⟩ ?_
    refine WX.next ?_
    refine WC.seq ?_
    refine WC.region ?_
    refine WL.val rfl rfl rfl rfl (r_assign rfl ev_c) ?_
    refine WL.nil ?_
    refine WX.keep [(0, _), (2, _), (4, _), (7, _)] ⟨rfl, rfl, rfl, rfl, trivial⟩ ?_
    refine WX.next ?_
    refine WC.seq ?_
    refine WC.seq ?_
    refine WC.region ?_
    refine WL.val rfl rfl rfl rfl (r_move rfl (ev_t rfl)) ?_
    refine WL.val rfl rfl rfl rfl (r_loadAgg (vs := [_, _, _]) rfl (ev_t rfl) agg_28 size_28 (Blk.cellsL hB1)) ?_
    refine WL.cons (SO.call (head_ok (hI.updN hU) (ht.upd hU (fun _ _ _ h => h)) (hfu fu (Nat.le_refl _))) rfl body_31 ⟨(ev_t rfl), (ev_t rfl), trivial⟩ rfl rfl rfl rfl ?_)
    rintro v w2 ⟨a', b', c', rfl, hth, hu2⟩
    obtain ⟨m, A0, k0, xk, rfl, rfl, rfl, hm, hr, hl, hb, hk⟩ := hth.open
    have hks : TVs w1 _ xk h.kids := ⟨hl, hk⟩
    have hs2 := hu2.size
    replace hU := hU.transA hu2
    replace hB1 := hB1.updA hu2
    replace hr := hr.updA hu2
    replace hks := hks.updA hu2
    refine WL.val rfl rfl rfl rfl (r_fieldV (n := 2) rfl (ev_t rfl) (by kernel_rfl) rfl) ?_
    refine WL.val rfl rfl rfl rfl (r_lenSlice (ts := #[]) rfl (ev_t rfl) elem_26) ?_
    refine WL.val rfl rfl rfl rfl (r_move rfl ev_c) ?_
    refine WL.nil ?_
    refine WX.keep [(0, _), (2, _), (7, _), (13, _), (14, _), (15, _)] ⟨rfl, rfl, rfl, rfl, rfl, rfl, trivial⟩ ?_
    refine WX.next ?_
    refine WC.block ?_
    -- loop 1: live [0, 2, 7, 13, 14, 15]
    refine WC.keep [(0, _), (2, _), (7, _), (13, _), (14, _), (15, _)] ⟨rfl, rfl, rfl, rfl, rfl, rfl, trivial⟩ ?_
    refine WC.loop (fun q E w' => ∃ (i n : Nat), i ≤ h.kids.length ∧ q = h.kids.length - i ∧ Upd No w w' ∧ Rd w' (fun k => F k ∧ k < w.heap.size) (.slice A0 h.kids.length k0) h.kids.length 3 (xk.flatMap c3) ∧ TVs w' (fun k => F k ∧ k < w.heap.size) xk h.kids ∧ n = min (1 + ((h.kids.take i).map fun k => sz (ext (th σ) k)).sum) most ∧   E = [(0, .pointer (some ⟨p, 0, none⟩)), (2, .int .i64 (most : Int)), (7, .int .i64 (n : Int)), (13, .slice A0 h.kids.length k0), (14, .int .i64 (h.kids.length : Int)), (15, .int .i64 (i : Int))]) (h.kids.length) ?_ ?_
    · exact ⟨0, 1, by omega, by omega, hU, hr, hks, by simp; omega, rfl⟩
    · rintro q E w' ⟨i, n, hi, rfl, hU, hr, hks, hn, rfl⟩
      have hs0 := hU.size
      refine WC.seq ?_
      refine WC.region ?_
      refine WL.val rfl rfl rfl rfl (r_lss rfl (ev_t rfl) (ev_t rfl)) ?_
      refine WL.nil ?_
      refine WX.keep [(0, _), (2, _), (7, _), (13, _), (14, _), (15, _), (16, _)] ⟨rfl, rfl, rfl, rfl, rfl, rfl, rfl, trivial⟩ ?_
      refine WX.next ?_
      refine WC.seq ?_
      refine WC.cond rfl (ev_t rfl) (fun hc3 => ?_) (fun hc3 => ?_)
      · try (exfalso; first | (simp at hc3; done) | (simp only [decide_eq_true_eq, decide_eq_false_iff_not, Bool.not_eq_true', Bool.not_eq_false', Bool.not_eq_true, Bool.not_eq_false] at hc3; omega) | omega)
        all_goals
         try simp only [decide_eq_true_eq, decide_eq_false_iff_not, Bool.not_eq_true', Bool.not_eq_false', Bool.not_eq_true, Bool.not_eq_false, Option.isNone_none, Option.isNone_some, Option.isSome_none, Option.isSome_some, ne_eq, Decidable.not_not] at hc3
         have hi' : i < h.kids.length := by omega
         obtain ⟨b0, off, rfl, _⟩ := hr.open (by omega)
         have hxi : xk[i]? = some xk[i] := List.getElem?_eq_getElem (by have := hks.1; omega)
         have hki : h.kids[i]? = some h.kids[i] := List.getElem?_eq_getElem hi'
         have htk := hks.2 i _ _ hxi hki
         have hsum := take_sum_succ (f := fun k => sz (ext (th σ) k)) hi'
         have hkl := kid_lt (σ := σ) hi'
         have hle := take_sum_le (l := h.kids) (f := fun k => sz (ext (th σ) k)) (i := i)
         generalize xk[i] = ck at *
         generalize h.kids[i] = kk at *
         obtain ⟨ca, cb, cc⟩ := ck
         have hcel := kid_cells hr hxi rfl
         obtain ⟨m3, A3, k3, xk3, rfl, rfl, rfl, _⟩ := htk.open
         refine WC.skip ?_
         refine WX.next ?_
         refine WC.seq ?_
         refine WC.block ?_
         refine WC.seq ?_
         refine WC.region ?_
         refine WL.val rfl rfl rfl rfl (r_indexAddr rfl (ev_t rfl) (ev_t rfl) elem_26 size_28 (by omega) (by omega)) ?_
         refine WL.val rfl rfl rfl rfl (r_loadAgg (vs := [_, _, _]) rfl (ev_t rfl) agg_28 size_28 hcel) ?_
         skip
         refine WL.cons (SO.alloc rfl rfl rfl rfl (r_alloc rfl zero_28) ?_)
         intro w3 hu3 hB3 hz3
         have hs3 := hu3.size
         replace hU := hU.transA hu3
         replace hr := hr.updA hu3
         replace hks := hks.updA hu3
         replace htk := htk.updA hu3
         refine WL.cons (SO.storeAll (us := [_, _, _]) rfl (ev_t rfl) (ev_t rfl) size_28 hB3 rfl rfl rfl rfl rfl ?_)
         intro w4 hu4 hB3 hz4
         have hs4 := hu4.size
         replace hU := hU.transA hu4
         replace hr := hr.updA hu4
         replace hks := hks.updA hu4
         replace htk := htk.updA hu4
         refine WL.nil ?_
         refine WX.keep [(0, _), (2, _), (7, _), (9, _), (13, _), (14, _), (15, _)] ⟨rfl, rfl, rfl, rfl, rfl, rfl, rfl, trivial⟩ ?_
         refine WX.next ?_
         refine WC.seq ?_
         refine WC.seq ?_
         refine WC.region ?_
         refine WL.val rfl rfl rfl rfl (r_move rfl (ev_t rfl)) ?_
         refine WL.val rfl rfl rfl rfl (r_move rfl (ev_t rfl)) ?_
         refine WL.val rfl rfl rfl rfl (r_geq rfl (ev_t rfl) (ev_t rfl)) ?_
         refine WL.nil ?_
         refine WX.keep [(0, _), (2, _), (7, _), (9, _), (13, _), (14, _), (15, _), (21, _)] ⟨rfl, rfl, rfl, rfl, rfl, rfl, rfl, rfl, trivial⟩ ?_
         refine WX.next ?_
         refine WC.cond rfl (ev_t rfl) (fun hc5 => ?_) (fun hc5 => ?_)
         · try (exfalso; first | (simp at hc5; done) | (simp only [decide_eq_true_eq, decide_eq_false_iff_not, Bool.not_eq_true', Bool.not_eq_false', Bool.not_eq_true, Bool.not_eq_false] at hc5; omega) | omega)
           all_goals
            try simp only [decide_eq_true_eq, decide_eq_false_iff_not, Bool.not_eq_true', Bool.not_eq_false', Bool.not_eq_true, Bool.not_eq_false, Option.isNone_none, Option.isNone_some, Option.isSome_none, Option.isSome_some, ne_eq, Decidable.not_not] at hc5
            refine WC.seq ?_
            refine WC.region ?_
            refine WL.val rfl rfl rfl rfl (r_move rfl (ev_t rfl)) ?_
            refine WL.val rfl rfl rfl rfl (r_assign rfl (ev_t rfl)) ?_
            refine WL.nil ?_
            refine WX.keep [(6, _)] ⟨rfl, trivial⟩ ?_
            refine WX.next ?_
            refine WC.ret ?_
            refine WX.thenRet ?_
            refine WX.blockRet ?_
            refine WX.thenRet ?_
            refine WX.thenRet ?_
            refine WX.blockRet ?_
            refine WX.thenRet ?_
            refine WX.retE1 rfl rfl ?_
            refine ⟨?_, hU⟩
            rw [hsz]
            congr 1
            omega
         · try (exfalso; first | (simp at hc5; done) | (simp only [decide_eq_true_eq, decide_eq_false_iff_not, Bool.not_eq_true', Bool.not_eq_false', Bool.not_eq_true, Bool.not_eq_false] at hc5; omega) | omega)
           all_goals
            try simp only [decide_eq_true_eq, decide_eq_false_iff_not, Bool.not_eq_true', Bool.not_eq_false', Bool.not_eq_true, Bool.not_eq_false, Option.isNone_none, Option.isNone_some, Option.isSome_none, Option.isSome_some, ne_eq, Decidable.not_not] at hc5
            refine WC.skip ?_
            refine WX.next ?_
            refine WC.region ?_
            refine WL.val rfl rfl rfl rfl (r_move rfl (ev_t rfl)) ?_
            refine WL.val rfl rfl rfl rfl (r_move rfl (ev_t rfl)) ?_
            refine WL.val rfl rfl rfl rfl (r_loadAgg (vs := [_, _, _]) rfl (ev_t rfl) agg_28 size_28 (Blk.cellsL hB3)) ?_
            refine WL.val rfl rfl rfl rfl (r_move rfl (ev_t rfl)) ?_
            refine WL.val rfl rfl rfl rfl (r_move rfl (ev_t rfl)) ?_
            first | refine WL.val rfl rfl rfl rfl (r_subN rfl (ev_t rfl) (ev_t rfl) (by simp only [inK]; omega)) ?_ | refine WL.val rfl rfl rfl rfl (r_sub rfl (ev_t rfl) (ev_t rfl)) ?_
            rw [show ((most : Int) - (n : Int)) = ((most - n : Nat) : Int) by omega]
            refine WL.cons (SO.call (ih _ _ _ _ _ kk (most - n) (by omega) (hI.updN hU) htk (by omega) (by omega)) rfl body_19 ⟨(ev_t rfl), (ev_t rfl), (ev_t rfl), trivial⟩ rfl rfl rfl rfl ?_)
            rintro v w5 ⟨rfl, hu5⟩
            have hs5 := hu5.size
            replace hU := hU.transA hu5
            replace hr := hr.updA hu5
            replace hks := hks.updA hu5
            replace htk := htk.updA hu5
            replace hB3 := hB3.updA hu5
            first | refine WL.val rfl rfl rfl rfl (r_addN rfl (ev_t rfl) (ev_t rfl) (by simp only [inK]; omega)) ?_ | refine WL.val rfl rfl rfl rfl (r_add rfl (ev_t rfl) (ev_t rfl)) ?_
            refine WL.val rfl rfl rfl rfl (r_assign rfl (ev_t rfl)) ?_
            refine WL.nil ?_
            refine WX.keep [(0, _), (2, _), (7, _), (13, _), (14, _), (15, _)] ⟨rfl, rfl, rfl, rfl, rfl, rfl, trivial⟩ ?_
            refine WX.blockNormal ?_
            refine WX.next ?_
            refine WC.region ?_
            first | refine WL.val rfl rfl rfl rfl (r_addN rfl (ev_t rfl) ev_c (by simp only [inK]; omega)) ?_ | refine WL.val rfl rfl rfl rfl (r_add rfl (ev_t rfl) ev_c) ?_
            refine WL.val rfl rfl rfl rfl (r_move rfl (ev_t rfl)) ?_
            refine WL.nil ?_
            refine WX.keep [(0, _), (2, _), (7, _), (13, _), (14, _), (15, _)] ⟨rfl, rfl, rfl, rfl, rfl, rfl, trivial⟩ ?_
            refine WX.meet [(0, _), (2, _), (7, _), (13, _), (14, _), (15, _)] ⟨rfl, rfl, rfl, rfl, rfl, rfl, trivial⟩ ?_
            exact ⟨h.kids.length - (i + 1), by omega, i + 1, n + min (sz (ext (th σ) kk)) (most - n), by omega, rfl, hU, hr, hks, by rw [hsum]; omega, by simp⟩
      · try (exfalso; first | (simp at hc3; done) | (simp only [decide_eq_true_eq, decide_eq_false_iff_not, Bool.not_eq_true', Bool.not_eq_false', Bool.not_eq_true, Bool.not_eq_false] at hc3; omega) | omega)
        all_goals
         try simp only [decide_eq_true_eq, decide_eq_false_iff_not, Bool.not_eq_true', Bool.not_eq_false', Bool.not_eq_true, Bool.not_eq_false, Option.isNone_none, Option.isNone_some, Option.isSome_none, Option.isSome_some, ne_eq, Decidable.not_not] at hc3
         refine WC.exit ?_
         refine WX.thenExit ?_
         refine WX.thenExit ?_
         refine WX.blockHere ?_
         refine WX.next ?_
         refine WC.seq ?_
         refine WC.region ?_
         refine WL.val rfl rfl rfl rfl (r_move rfl (ev_t rfl)) ?_
         refine WL.val rfl rfl rfl rfl (r_assign rfl (ev_t rfl)) ?_
         refine WL.nil ?_
         refine WX.keep [(6, _)] ⟨rfl, trivial⟩ ?_
         refine WX.next ?_
         refine WC.ret ?_
         refine WX.retE1 rfl rfl ?_
         refine ⟨?_, hU⟩
         have : h.kids.take i = h.kids := List.take_of_length_le (by omega)
         rw [this] at hn
         rw [hsz, ← hn]
end Go.Proofs.Ytncakfcafkfmfaa
