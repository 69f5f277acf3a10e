/-
  Several texts put together: Waa, Wab, Wac, Wad, Wae, Wb, OrdP, RdrP, WrtP, EncP, Wba, Wbb, DrP.
-/
import Derived.Test.YtnjfhmlfpfkllaaZb
/-
  wal: what is written into a record.
-/
namespace Go.Proofs.Ytnjfhmlfpfkllaa
open Go
set_option linter.unusedSimpArgs false
set_option linter.unusedVariables false

/-- a record's bytes -/
def recB (kind : Nat) (pl : List UInt8) : List UInt8 := encU (sealB (encU kind ++ pl)).length ++ sealB (encU kind ++ pl)

set_option maxHeartbeats 1000000 in
theorem voteC_ok {w : World} {M : Nat → Prop} {g b1 b2 t : Nat} {v : Int} {l : List UInt8} (hI : IsW w M g l) (h1 : Blk w b1 #[.int .u64 (t : Int)] 29) (h2 : Blk w b2 #[.int .i64 v] 3) (hn1 : ¬ M b1) (hn2 : ¬ M b2) (ht : t < 18446744073709551616) (hv : inK .i64 v) (hl : l.length ≤ 1000000) :
    Ret Try.prog 28 #[.pointer (some ⟨g, 0, none⟩), .pointer (some ⟨b1, 0, none⟩), .pointer (some ⟨b2, 0, none⟩)] w fun _ w' => IsW w' (Grow M w w') g (l ++ (encU t ++ encU (zig v))) ∧ Upd M w w' := by
  simp only [inK] at hv
  have hb1 := h1.lt
  have hb2 := h2.lt
  have ht9 : (encU t).length ≤ 9 := by rw [encU_length]; have := blen_le (n := t) (k := 8) (by simpa using ht); omega
  refine enterRet (vs := [_, _, _]) (N := 9) Try.func28 rfl rfl rfl ?_
  have hU := Upd.refl M w
  refine WC.keep [(0, _), (1, _), (2, _)] ⟨rfl, rfl, rfl, trivial⟩ ?_
  refine WC.draws' (fun u0_ u1_ => Upd M u0_ u1_) (fun j => [0, 0, 1, 0, 2].getD j 0) (.calm 0 (.held 1 (.held 3 (.one 2 (.one 4 (.done)))))) mixed (by kernel_rfl) (by repeat (first | with_reducible exact Deaf.body | with_reducible apply Deaf.then | with_reducible apply Deaf.block)) ?_
  intro w1 hu1
  have hz1 := congrArg Array.size hu1.2.2.2
  replace hu1 := Upd.of_draw hu1
  have hs1 := hu1.size
  replace hU := hU.trans hu1 (by first | exact (fun _ _ h => h) | exact (fun _ _ h => h.elim) | (intro k hl hk; (try simp only [At, New, Grow, From, No] at hk ⊢); omega) | (intro k hl hk; first | exact hk | (rcases hk with hk | hk; exact hk; omega)))
  replace hI := hI.upd hu1 (fun _ _ _ h => h)
  replace h1 := h1.upd hu1 (by first | exact (fun h => h) | exact hn1 | exact (fun h => by rcases h with h | h; exact hn1 h; omega))
  replace h2 := h2.upd hu1 (by first | exact (fun h => h) | exact hn2 | exact (fun h => by rcases h with h | h; exact hn2 h; omega))
  have hS0 := Upd.refl M w1
  refine WN.calm _ rfl rfl rfl rfl rfl (fun _ => r_move rfl (ev_t rfl)) ?_
  refine WN.held _ rfl rfl rfl rfl rfl hS0 (fun w' hS => r_load rfl (ev_t rfl) flat_29 (Blk.cell (h1.upd hS (by (try simp only [At, From, No, Grow, New]); omega)) rfl)) ?_
  refine WN.held _ rfl rfl rfl rfl rfl hS0 (fun w' hS => r_load rfl (ev_t rfl) flat_3 (Blk.cell (h2.upd hS (by (try simp only [At, From, No, Grow, New]); omega)) rfl)) ?_
  refine WN.step _ rfl (SO.call (wuint_ok (n := t) hI ht (by omega)) rfl body_29 ⟨(ev_t rfl), (ev_t rfl), trivial⟩ rfl rfl rfl rfl ?_)
  rintro v1 w2 ⟨rfl, hI, hu2⟩
  have hs2 := hu2.size
  replace hS0 := Upd.trans hS0 hu2 (by intro k hl hk; first | exact hk.elim | exact hk | (rcases hk with hk | hk; exact hk; omega))
  replace hU := hU.trans hu2 (by first | exact (fun _ _ h => h) | exact (fun _ _ h => h.elim) | (intro k hl hk; (try simp only [At, New, Grow, From, No] at hk ⊢); omega) | (intro k hl hk; first | exact hk | (rcases hk with hk | hk; exact hk; omega)))
  replace h1 := h1.upd hu2 (by first | exact (fun h => h) | exact hn1 | exact (fun h => by rcases h with h | h; exact hn1 h; omega))
  replace h2 := h2.upd hu2 (by first | exact (fun h => h) | exact hn2 | exact (fun h => by rcases h with h | h; exact hn2 h; omega))
  refine ⟨hS0, ?_⟩
  refine WN.step _ rfl (SO.call (wint_ok hI hv.1 hv.2 (by rw [List.length_append]; omega)) rfl body_30 ⟨(ev_t rfl), (ev_t rfl), trivial⟩ rfl rfl rfl rfl ?_)
  rintro v1 w3 ⟨rfl, hI, hu3⟩
  rw [List.append_assoc] at hI
  have hs3 := hu3.size
  try replace hS0 := Upd.trans hS0 hu3 (by intro k hl hk; first | exact hk.elim | exact hk | (rcases hk with hk | hk; exact hk; omega))
  replace hU := hU.trans hu3 (by first | exact (fun _ _ h => h) | exact (fun _ _ h => h.elim) | (intro k hl hk; (try simp only [At, New, Grow, From, No] at hk ⊢); omega) | (intro k hl hk; first | exact hk | (rcases hk with hk | hk; exact hk; omega)))
  replace h1 := h1.upd hu3 (by first | exact (fun h => h) | exact hn1 | exact (fun h => by rcases h with h | h; exact hn1 h; omega))
  replace h2 := h2.upd hu3 (by first | exact (fun h => h) | exact hn2 | exact (fun h => by rcases h with h | h; exact hn2 h; omega))
  refine ⟨trivial, ?_⟩
  refine WN.done ?_
  refine WX.keep [] trivial ?_
  refine WX.endE (l := []) (vs := []) rfl trivial ?_
  refine ⟨hI.mono fun k hk => ?_, hU⟩
  rcases hk with (hk | hk) | hk
  · exact .inl hk
  · exact .inr ⟨by omega, by omega⟩
  · exact .inr ⟨by omega, by omega⟩
theorem sealB_len (l : List UInt8) : (sealB l).length = l.length + 4 := by
  simp [sealB, le4]
set_option maxHeartbeats 1000000 in
theorem recVote_ok {w : World} {b1 b2 t : Nat} {v : Int} (h1 : Blk w b1 #[.int .u64 (t : Int)] 29) (h2 : Blk w b2 #[.int .i64 v] 3) (ht : t < 18446744073709551616) (hv : inK .i64 v) :
    Ret Try.prog 27 #[.int .u8 1, .func (.func 28) #[] #[.pointer (some ⟨b1, 0, none⟩), .pointer (some ⟨b2, 0, none⟩)]] w fun u w' => Own w' (New w w') 5 1 u (recB 1 (encU t ++ encU (zig v))).length ((recB 1 (encU t ++ encU (zig v))).map U8) ∧ Upd No w w' := by
  simp only [inK] at hv
  have hb1 := h1.lt
  have hb2 := h2.lt
  have ht9 : (encU t).length ≤ 9 := by rw [encU_length]; have := blen_le (n := t) (k := 8) (by simpa using ht); omega
  have hv9 : (encU (zig v)).length ≤ 9 := by rw [encU_length]; have := blen_le (n := zig v) (k := 8) (by simpa using zig_lt hv.1 hv.2); omega
  have h19 : (encU 1).length ≤ 9 := by rw [encU_length]; have := blen_le (n := 1) (k := 8) (by decide); omega
  refine enterRet (vs := [_, _]) (N := 30) Try.func27 rfl rfl rfl ?_
  have hU := Upd.refl No w
  refine WC.keep [(0, _), (1, _)] ⟨rfl, rfl, trivial⟩ ?_
  refine WC.seq ?_
  refine WC.region ?_
  refine WL.val rfl rfl rfl rfl (r_assign rfl ev_c) ?_
  refine WL.nil ?_
  refine WX.keep [(0, _), (1, _)] ⟨rfl, rfl, trivial⟩ ?_
  refine WX.next ?_
  refine WC.seq ?_
  refine WC.region ?_
  refine WL.val rfl rfl rfl rfl (r_build (cs := #[_]) (vs := []) rfl trivial plc_84 zero_84 rfl) ?_
  refine WL.cons (SO.alloc rfl rfl rfl rfl (r_boxAgg rfl (ev_t rfl)) ?_)
  intro w1 hu1 hB1 hz1
  have hs1 := hu1.size
  replace hU := hU.trans hu1 (by first | exact (fun _ _ h => h) | exact (fun _ _ h => h.elim) | (intro k hl hk; (try simp only [At, New, Grow, From, No] at hk ⊢); omega) | (intro k hl hk; (try simp only [At, New, Grow, From, No] at *); omega))
  refine WL.val rfl rfl rfl rfl (r_assign rfl (ev_t rfl)) ?_
  refine WL.nil ?_
  refine WX.keep [(0, _), (1, _), (5, _)] ⟨rfl, rfl, rfl, trivial⟩ ?_
  have hI := IsW.of (M := New w w1) hB1 ⟨Nat.le_refl _, by omega⟩
  refine WX.next ?_
  refine WC.seq ?_
  refine WC.region ?_
  refine WL.val rfl rfl rfl rfl (r_move rfl (ev_t rfl)) ?_
  refine WL.val rfl rfl rfl rfl (r_move rfl (ev_t rfl)) ?_
  first | refine WL.val rfl rfl rfl rfl (r_convN rfl (ev_t rfl) some_5 int_29 (by simp only [inK]; omega)) ?_ | refine WL.val rfl rfl rfl rfl (r_conv rfl (ev_t rfl) some_5 int_29) ?_
  refine WL.cons (SO.call (wuint_ok (n := 1) hI (by omega) (by simp)) rfl body_29 ⟨(ev_t rfl), (ev_t rfl), trivial⟩ rfl rfl rfl rfl ?_)
  rintro v1 w2 ⟨rfl, hI, hu2⟩
  rw [List.nil_append] at hI
  replace hI := hI.mono (M' := New w w2) (fun k hk => by have := hu2.size; simp only [New, Grow] at *; omega)
  have hs2 := hu2.size
  replace hU := hU.trans hu2 (by first | exact (fun _ _ h => h) | exact (fun _ _ h => h.elim) | (intro k hl hk; (try simp only [At, New, Grow, From, No] at hk ⊢); omega) | (intro k hl hk; (try simp only [At, New, Grow, From, No] at *); omega))
  refine WL.nil ?_
  refine WX.keep [(1, _), (5, _)] ⟨rfl, rfl, trivial⟩ ?_
  refine WX.next ?_
  refine WC.seq ?_
  refine WC.region ?_
  refine WL.val rfl rfl rfl rfl (r_move rfl (ev_t rfl)) ?_
  refine WL.val rfl rfl rfl rfl (r_move rfl (ev_t rfl)) ?_
  refine WL.cons (SO.callV (vs := [_]) rfl (ev_t rfl) body_28 ⟨(ev_t rfl), trivial⟩ rfl (voteC_ok hI (h1.upd hU (fun h => h)) (h2.upd hU (fun h => h)) (fun h => by simp only [New] at h; omega) (fun h => by simp only [New] at h; omega) ht (by simp only [inK]; omega) (by omega)) rfl rfl rfl rfl ?_)
  rintro v1 w3 ⟨hI, hu3⟩
  replace hI := hI.mono (M' := New w w3) (fun k hk => by have := hu3.size; simp only [New, Grow] at *; omega)
  have hs3 := hu3.size
  replace hU := hU.trans hu3 (by first | exact (fun _ _ h => h) | exact (fun _ _ h => h.elim) | (intro k hl hk; (try simp only [At, New, Grow, From, No] at hk ⊢); omega) | (intro k hl hk; (try simp only [At, New, Grow, From, No] at *); omega))
  refine WL.nil ?_
  refine WX.keep [(5, _)] ⟨rfl, trivial⟩ ?_
  refine WX.next ?_
  refine WC.seq ?_
  refine WC.region ?_
  refine WL.val rfl rfl rfl rfl (r_move rfl (ev_t rfl)) ?_
  refine WL.cons (SO.call (wdone_ok hI (by simp only [List.length_append]; omega)) rfl body_38 ⟨(ev_t rfl), trivial⟩ rfl rfl rfl rfl ?_)
  rintro v6 w4 ⟨ho, hu4⟩
  have hs4 := hu4.size
  replace hU := hU.trans hu4 (by first | exact (fun _ _ h => h) | exact (fun _ _ h => h.elim) | (intro k hl hk; (try simp only [At, New, Grow, From, No] at hk ⊢); omega) | (intro k hl hk; (try simp only [At, New, Grow, From, No] at *); omega))
  refine WL.cons (SO.call (seal_ok (ho.rd (by simp only [List.length_append]; omega)) (by simp only [List.length_append]; omega)) rfl body_37 ⟨(ev_t rfl), trivial⟩ rfl rfl rfl rfl ?_)
  rintro v7 w5 ⟨hs, hu5⟩
  obtain ⟨As, cs, rfl, hcs⟩ := Own.form hs
  have hsl := sealB_len (encU 1 ++ (encU t ++ encU (zig v)))
  simp only [List.length_append] at hsl
  obtain ⟨S, hS⟩ : ∃ S, sealB (encU 1 ++ (encU t ++ encU (zig v))) = S := ⟨_, rfl⟩
  rw [hS] at hs hsl ⊢
  have hS9 : (encU S.length).length ≤ 9 := by rw [encU_length]; have := blen_le (n := S.length) (k := 8) (by simpa using (show S.length < 18446744073709551616 by omega)); omega
  have hs5 := hu5.size
  replace hU := hU.trans hu5 (by first | exact (fun _ _ h => h) | exact (fun _ _ h => h.elim) | (intro k hl hk; (try simp only [At, New, Grow, From, No] at hk ⊢); omega) | (intro k hl hk; (try simp only [At, New, Grow, From, No] at *); omega))
  refine WL.val rfl rfl rfl rfl (r_assign rfl (ev_t rfl)) ?_
  refine WL.nil ?_
  refine WX.keep [(6, _)] ⟨rfl, trivial⟩ ?_
  refine WX.next ?_
  refine WC.seq ?_
  refine WC.region ?_
  refine WL.val rfl rfl rfl rfl (r_build (cs := #[_]) (vs := []) rfl trivial plc_84 zero_84 rfl) ?_
  refine WL.cons (SO.alloc rfl rfl rfl rfl (r_boxAgg rfl (ev_t rfl)) ?_)
  intro w6 hu6 hB6 hz6
  have hs6 := hu6.size
  replace hU := hU.trans hu6 (by first | exact (fun _ _ h => h) | exact (fun _ _ h => h.elim) | (intro k hl hk; (try simp only [At, New, Grow, From, No] at hk ⊢); omega) | (intro k hl hk; (try simp only [At, New, Grow, From, No] at *); omega))
  replace hs := hs.upd hu6 (by first | exact (fun _ _ _ h => h) | (intro k hk hl hS; simp only [At, New, No, Grow] at *; omega))
  refine WL.val rfl rfl rfl rfl (r_assign rfl (ev_t rfl)) ?_
  refine WL.nil ?_
  refine WX.keep [(6, _), (7, _)] ⟨rfl, rfl, trivial⟩ ?_
  have hI := IsW.of (M := At _) hB6 rfl
  refine WX.next ?_
  refine WC.seq ?_
  refine WC.region ?_
  refine WL.val rfl rfl rfl rfl (r_move rfl (ev_t rfl)) ?_
  refine WL.val rfl rfl rfl rfl (r_move rfl (ev_t rfl)) ?_
  refine WL.val rfl rfl rfl rfl (r_lenSlice (ts := #[]) rfl (ev_t rfl) elem_22) ?_
  first | refine WL.val rfl rfl rfl rfl (r_convN rfl (ev_t rfl) some_3 int_29 (by simp only [inK]; omega)) ?_ | refine WL.val rfl rfl rfl rfl (r_conv rfl (ev_t rfl) some_3 int_29) ?_
  refine WL.cons (SO.call (wuint_ok (n := S.length) hI (by omega) (by simp)) rfl body_29 ⟨(ev_t rfl), (ev_t rfl), trivial⟩ rfl rfl rfl rfl ?_)
  rintro v8 w7 ⟨rfl, hI, hu7⟩
  rw [List.nil_append] at hI
  have hs7 := hu7.size
  replace hU := hU.trans hu7 (by first | exact (fun _ _ h => h) | exact (fun _ _ h => h.elim) | (intro k hl hk; (try simp only [At, New, Grow, From, No] at hk ⊢); omega) | (intro k hl hk; (try simp only [At, New, Grow, From, No] at *); omega))
  replace hs := hs.upd hu7 (by first | exact (fun _ _ _ h => h) | (intro k hk hl hS; simp only [At, New, No, Grow] at *; omega))
  refine WL.cons (SO.call (wdone_ok hI (by have := hS9; omega)) rfl body_38 ⟨(ev_t rfl), trivial⟩ rfl rfl rfl rfl ?_)
  rintro v9 w8 ⟨hd, hu8⟩
  obtain ⟨Ad, cd, rfl, hcd⟩ := Own.form hd
  have hs8 := hu8.size
  replace hU := hU.trans hu8 (by first | exact (fun _ _ h => h) | exact (fun _ _ h => h.elim) | (intro k hl hk; (try simp only [At, New, Grow, From, No] at hk ⊢); omega) | (intro k hl hk; (try simp only [At, New, Grow, From, No] at *); omega))
  replace hs := hs.upd hu8 (by first | exact (fun _ _ _ h => h) | (intro k hk hl hS; simp only [At, New, No, Grow] at *; omega))
  refine WL.val rfl rfl rfl rfl (r_move rfl (ev_t rfl)) ?_
  refine WL.cons (SO.append hd (hs.rd (by omega)) row_22 (U8_one _) (le_maxLen (by omega)) (by omega) rfl (ev_t rfl) (ev_t rfl) rfl rfl rfl rfl ?_)
  intro v9 w9 hd hu9
  have hs9 := hu9.size
  replace hU := hU.trans hu9 (by first | exact (fun _ _ h => h) | exact (fun _ _ h => h.elim) | (intro k hl hk; (try simp only [At, New, Grow, From, No] at hk ⊢); omega) | (intro k hl hk; (try simp only [At, New, Grow, From, No] at *); omega))
  replace hs := hs.upd hu9 (by first | exact (fun _ _ _ h => h) | (intro k hk hl hS; simp only [At, New, No, Grow] at *; omega))
  obtain ⟨A9, c9, rfl, hc9⟩ := Own.form hd
  rw [← List.map_append] at hd
  refine WL.val rfl rfl rfl rfl (r_assign rfl (ev_t rfl)) ?_
  refine WL.nil ?_
  refine WX.keep [(4, _)] ⟨rfl, trivial⟩ ?_
  refine WX.next ?_
  refine WC.ret ?_
  refine WX.retE1 rfl rfl ?_
  refine ⟨?_, hU⟩
  unfold recB
  rw [hS, List.length_append]
  exact hd.mono fun k hk => by simp only [New, Grow] at *; omega
end Go.Proofs.Ytnjfhmlfpfkllaa

/-
  wal: the records base and ready.
-/
namespace Go.Proofs.Ytnjfhmlfpfkllaa
open Go
set_option linter.unusedSimpArgs false
set_option linter.unusedVariables false

set_option maxHeartbeats 1000000 in
theorem baseC_ok {w : World} {M : Nat → Prop} {g b1 t : Nat} {l : List UInt8} (hI : IsW w M g l) (h1 : Blk w b1 #[.int .u64 (t : Int)] 29) (hn1 : ¬ M b1) (ht : t < 18446744073709551616) (hl : l.length ≤ 1000000) :
    Ret Try.prog 49 #[.pointer (some ⟨g, 0, none⟩), .pointer (some ⟨b1, 0, none⟩)] w fun _ w' => IsW w' (Grow M w w') g (l ++ encU t) ∧ Upd M w w' := by
  have hb1 := h1.lt
  have ht9 : (encU t).length ≤ 9 := by rw [encU_length]; have := blen_le (n := t) (k := 8) (by simpa using ht); omega
  refine enterRet (vs := [_, _]) (N := 6) Try.func49 rfl rfl rfl ?_
  have hU := Upd.refl M w
  refine WC.keep [(0, _), (1, _)] ⟨rfl, rfl, trivial⟩ ?_
  refine WC.region ?_
  refine WL.val rfl rfl rfl rfl (r_move rfl (ev_t rfl)) ?_
  refine WL.val rfl rfl rfl rfl (r_load rfl (ev_t rfl) flat_29 (Blk.cell h1 rfl)) ?_
  refine WL.cons (SO.call (wuint_ok (n := t) hI ht (by omega)) rfl body_29 ⟨(ev_t rfl), (ev_t rfl), trivial⟩ rfl rfl rfl rfl ?_)
  rintro v1 w1 ⟨rfl, hI, hu1⟩
  have hs1 := hu1.size
  replace hU := hU.trans hu1 (by first | exact (fun _ _ h => h) | exact (fun _ _ h => h.elim) | (intro k hl hk; (try simp only [At, New, Grow, From, No] at hk ⊢); omega) | (intro k hl hk; first | exact hk | (rcases hk with hk | hk; exact hk; omega)))
  replace h1 := h1.upd hu1 (by first | exact (fun h => h) | exact hn1 | exact (fun h => by rcases h with h | h; exact hn1 h; omega))
  refine WL.nil ?_
  refine WX.keep [] trivial ?_
  refine WX.endE (l := []) (vs := []) rfl trivial ?_
  exact ⟨hI.mono fun k hk => by rcases hk with hk | hk; exact .inl hk; exact .inr ⟨by omega, by omega⟩, hU⟩

set_option maxHeartbeats 1000000 in
theorem recBase_ok {w : World} {b1 t : Nat} (h1 : Blk w b1 #[.int .u64 (t : Int)] 29) (ht : t < 18446744073709551616) :
    Ret Try.prog 27 #[.int .u8 3, .func (.func 49) #[] #[.pointer (some ⟨b1, 0, none⟩)]] w fun u w' => Own w' (New w w') 5 1 u (recB 3 (encU t)).length ((recB 3 (encU t)).map U8) ∧ Upd No w w' := by
  have hb1 := h1.lt
  have ht9 : (encU t).length ≤ 9 := by rw [encU_length]; have := blen_le (n := t) (k := 8) (by simpa using ht); omega
  have h19 : (encU 3).length ≤ 9 := by rw [encU_length]; have := blen_le (n := 3) (k := 8) (by decide); omega
  refine enterRet (vs := [_, _]) (N := 30) Try.func27 rfl rfl rfl ?_
  have hU := Upd.refl No w
  refine WC.keep [(0, _), (1, _)] ⟨rfl, rfl, trivial⟩ ?_
  refine WC.seq ?_
  refine WC.region ?_
  refine WL.val rfl rfl rfl rfl (r_assign rfl ev_c) ?_
  refine WL.nil ?_
  refine WX.keep [(0, _), (1, _)] ⟨rfl, rfl, trivial⟩ ?_
  refine WX.next ?_
  refine WC.seq ?_
  refine WC.region ?_
  refine WL.val rfl rfl rfl rfl (r_build (cs := #[_]) (vs := []) rfl trivial plc_84 zero_84 rfl) ?_
  refine WL.cons (SO.alloc rfl rfl rfl rfl (r_boxAgg rfl (ev_t rfl)) ?_)
  intro w1 hu1 hB1 hz1
  have hs1 := hu1.size
  replace hU := hU.trans hu1 (by first | exact (fun _ _ h => h) | exact (fun _ _ h => h.elim) | (intro k hl hk; (try simp only [At, New, Grow, From, No] at hk ⊢); omega) | (intro k hl hk; (try simp only [At, New, Grow, From, No] at *); omega))
  refine WL.val rfl rfl rfl rfl (r_assign rfl (ev_t rfl)) ?_
  refine WL.nil ?_
  refine WX.keep [(0, _), (1, _), (5, _)] ⟨rfl, rfl, rfl, trivial⟩ ?_
  have hI := IsW.of (M := New w w1) hB1 ⟨Nat.le_refl _, by omega⟩
  refine WX.next ?_
  refine WC.seq ?_
  refine WC.region ?_
  refine WL.val rfl rfl rfl rfl (r_move rfl (ev_t rfl)) ?_
  refine WL.val rfl rfl rfl rfl (r_move rfl (ev_t rfl)) ?_
  first | refine WL.val rfl rfl rfl rfl (r_convN rfl (ev_t rfl) some_5 int_29 (by simp only [inK]; omega)) ?_ | refine WL.val rfl rfl rfl rfl (r_conv rfl (ev_t rfl) some_5 int_29) ?_
  refine WL.cons (SO.call (wuint_ok (n := 3) hI (by omega) (by simp)) rfl body_29 ⟨(ev_t rfl), (ev_t rfl), trivial⟩ rfl rfl rfl rfl ?_)
  rintro v1 w2 ⟨rfl, hI, hu2⟩
  rw [List.nil_append] at hI
  replace hI := hI.mono (M' := New w w2) (fun k hk => by have := hu2.size; simp only [New, Grow] at *; omega)
  have hs2 := hu2.size
  replace hU := hU.trans hu2 (by first | exact (fun _ _ h => h) | exact (fun _ _ h => h.elim) | (intro k hl hk; (try simp only [At, New, Grow, From, No] at hk ⊢); omega) | (intro k hl hk; (try simp only [At, New, Grow, From, No] at *); omega))
  refine WL.nil ?_
  refine WX.keep [(1, _), (5, _)] ⟨rfl, rfl, trivial⟩ ?_
  refine WX.next ?_
  refine WC.seq ?_
  refine WC.region ?_
  refine WL.val rfl rfl rfl rfl (r_move rfl (ev_t rfl)) ?_
  refine WL.val rfl rfl rfl rfl (r_move rfl (ev_t rfl)) ?_
  refine WL.cons (SO.callV (vs := [_]) rfl (ev_t rfl) body_49 ⟨(ev_t rfl), trivial⟩ rfl (baseC_ok hI (h1.upd hU (fun h => h)) (fun h => by simp only [New] at h; omega) ht (by omega)) rfl rfl rfl rfl ?_)
  rintro v1 w3 ⟨hI, hu3⟩
  replace hI := hI.mono (M' := New w w3) (fun k hk => by have := hu3.size; simp only [New, Grow] at *; omega)
  have hs3 := hu3.size
  replace hU := hU.trans hu3 (by first | exact (fun _ _ h => h) | exact (fun _ _ h => h.elim) | (intro k hl hk; (try simp only [At, New, Grow, From, No] at hk ⊢); omega) | (intro k hl hk; (try simp only [At, New, Grow, From, No] at *); omega))
  refine WL.nil ?_
  refine WX.keep [(5, _)] ⟨rfl, trivial⟩ ?_
  refine WX.next ?_
  refine WC.seq ?_
  refine WC.region ?_
  refine WL.val rfl rfl rfl rfl (r_move rfl (ev_t rfl)) ?_
  refine WL.cons (SO.call (wdone_ok hI (by simp only [List.length_append]; omega)) rfl body_38 ⟨(ev_t rfl), trivial⟩ rfl rfl rfl rfl ?_)
  rintro v6 w4 ⟨ho, hu4⟩
  have hs4 := hu4.size
  replace hU := hU.trans hu4 (by first | exact (fun _ _ h => h) | exact (fun _ _ h => h.elim) | (intro k hl hk; (try simp only [At, New, Grow, From, No] at hk ⊢); omega) | (intro k hl hk; (try simp only [At, New, Grow, From, No] at *); omega))
  refine WL.cons (SO.call (seal_ok (ho.rd (by simp only [List.length_append]; omega)) (by simp only [List.length_append]; omega)) rfl body_37 ⟨(ev_t rfl), trivial⟩ rfl rfl rfl rfl ?_)
  rintro v7 w5 ⟨hs, hu5⟩
  obtain ⟨As, cs, rfl, hcs⟩ := Own.form hs
  have hsl := sealB_len (encU 3 ++ (encU t))
  simp only [List.length_append] at hsl
  obtain ⟨S, hS⟩ : ∃ S, sealB (encU 3 ++ (encU t)) = S := ⟨_, rfl⟩
  rw [hS] at hs hsl ⊢
  have hS9 : (encU S.length).length ≤ 9 := by rw [encU_length]; have := blen_le (n := S.length) (k := 8) (by simpa using (show S.length < 18446744073709551616 by omega)); omega
  have hs5 := hu5.size
  replace hU := hU.trans hu5 (by first | exact (fun _ _ h => h) | exact (fun _ _ h => h.elim) | (intro k hl hk; (try simp only [At, New, Grow, From, No] at hk ⊢); omega) | (intro k hl hk; (try simp only [At, New, Grow, From, No] at *); omega))
  refine WL.val rfl rfl rfl rfl (r_assign rfl (ev_t rfl)) ?_
  refine WL.nil ?_
  refine WX.keep [(6, _)] ⟨rfl, trivial⟩ ?_
  refine WX.next ?_
  refine WC.seq ?_
  refine WC.region ?_
  refine WL.val rfl rfl rfl rfl (r_build (cs := #[_]) (vs := []) rfl trivial plc_84 zero_84 rfl) ?_
  refine WL.cons (SO.alloc rfl rfl rfl rfl (r_boxAgg rfl (ev_t rfl)) ?_)
  intro w6 hu6 hB6 hz6
  have hs6 := hu6.size
  replace hU := hU.trans hu6 (by first | exact (fun _ _ h => h) | exact (fun _ _ h => h.elim) | (intro k hl hk; (try simp only [At, New, Grow, From, No] at hk ⊢); omega) | (intro k hl hk; (try simp only [At, New, Grow, From, No] at *); omega))
  replace hs := hs.upd hu6 (by first | exact (fun _ _ _ h => h) | (intro k hk hl hS; simp only [At, New, No, Grow] at *; omega))
  refine WL.val rfl rfl rfl rfl (r_assign rfl (ev_t rfl)) ?_
  refine WL.nil ?_
  refine WX.keep [(6, _), (7, _)] ⟨rfl, rfl, trivial⟩ ?_
  have hI := IsW.of (M := At _) hB6 rfl
  refine WX.next ?_
  refine WC.seq ?_
  refine WC.region ?_
  refine WL.val rfl rfl rfl rfl (r_move rfl (ev_t rfl)) ?_
  refine WL.val rfl rfl rfl rfl (r_move rfl (ev_t rfl)) ?_
  refine WL.val rfl rfl rfl rfl (r_lenSlice (ts := #[]) rfl (ev_t rfl) elem_22) ?_
  first | refine WL.val rfl rfl rfl rfl (r_convN rfl (ev_t rfl) some_3 int_29 (by simp only [inK]; omega)) ?_ | refine WL.val rfl rfl rfl rfl (r_conv rfl (ev_t rfl) some_3 int_29) ?_
  refine WL.cons (SO.call (wuint_ok (n := S.length) hI (by omega) (by simp)) rfl body_29 ⟨(ev_t rfl), (ev_t rfl), trivial⟩ rfl rfl rfl rfl ?_)
  rintro v8 w7 ⟨rfl, hI, hu7⟩
  rw [List.nil_append] at hI
  have hs7 := hu7.size
  replace hU := hU.trans hu7 (by first | exact (fun _ _ h => h) | exact (fun _ _ h => h.elim) | (intro k hl hk; (try simp only [At, New, Grow, From, No] at hk ⊢); omega) | (intro k hl hk; (try simp only [At, New, Grow, From, No] at *); omega))
  replace hs := hs.upd hu7 (by first | exact (fun _ _ _ h => h) | (intro k hk hl hS; simp only [At, New, No, Grow] at *; omega))
  refine WL.cons (SO.call (wdone_ok hI (by have := hS9; omega)) rfl body_38 ⟨(ev_t rfl), trivial⟩ rfl rfl rfl rfl ?_)
  rintro v9 w8 ⟨hd, hu8⟩
  obtain ⟨Ad, cd, rfl, hcd⟩ := Own.form hd
  have hs8 := hu8.size
  replace hU := hU.trans hu8 (by first | exact (fun _ _ h => h) | exact (fun _ _ h => h.elim) | (intro k hl hk; (try simp only [At, New, Grow, From, No] at hk ⊢); omega) | (intro k hl hk; (try simp only [At, New, Grow, From, No] at *); omega))
  replace hs := hs.upd hu8 (by first | exact (fun _ _ _ h => h) | (intro k hk hl hS; simp only [At, New, No, Grow] at *; omega))
  refine WL.val rfl rfl rfl rfl (r_move rfl (ev_t rfl)) ?_
  refine WL.cons (SO.append hd (hs.rd (by omega)) row_22 (U8_one _) (le_maxLen (by omega)) (by omega) rfl (ev_t rfl) (ev_t rfl) rfl rfl rfl rfl ?_)
  intro v9 w9 hd hu9
  have hs9 := hu9.size
  replace hU := hU.trans hu9 (by first | exact (fun _ _ h => h) | exact (fun _ _ h => h.elim) | (intro k hl hk; (try simp only [At, New, Grow, From, No] at hk ⊢); omega) | (intro k hl hk; (try simp only [At, New, Grow, From, No] at *); omega))
  replace hs := hs.upd hu9 (by first | exact (fun _ _ _ h => h) | (intro k hk hl hS; simp only [At, New, No, Grow] at *; omega))
  obtain ⟨A9, c9, rfl, hc9⟩ := Own.form hd
  rw [← List.map_append] at hd
  refine WL.val rfl rfl rfl rfl (r_assign rfl (ev_t rfl)) ?_
  refine WL.nil ?_
  refine WX.keep [(4, _)] ⟨rfl, trivial⟩ ?_
  refine WX.next ?_
  refine WC.ret ?_
  refine WX.retE1 rfl rfl ?_
  refine ⟨?_, hU⟩
  unfold recB
  rw [hS, List.length_append]
  exact hd.mono fun k hk => by simp only [New, Grow] at *; omega

set_option maxHeartbeats 1000000 in
theorem readyC_ok {w : World} {M : Nat → Prop} {g b1 t : Nat} {l : List UInt8} (hI : IsW w M g l) (h1 : Blk w b1 #[.int .u64 (t : Int)] 29) (hn1 : ¬ M b1) (ht : t < 18446744073709551616) (hl : l.length ≤ 1000000) :
    Ret Try.prog 50 #[.pointer (some ⟨g, 0, none⟩), .pointer (some ⟨b1, 0, none⟩)] w fun _ w' => IsW w' (Grow M w w') g (l ++ encU t) ∧ Upd M w w' := by
  have hb1 := h1.lt
  have ht9 : (encU t).length ≤ 9 := by rw [encU_length]; have := blen_le (n := t) (k := 8) (by simpa using ht); omega
  refine enterRet (vs := [_, _]) (N := 6) Try.func50 rfl rfl rfl ?_
  have hU := Upd.refl M w
  refine WC.keep [(0, _), (1, _)] ⟨rfl, rfl, trivial⟩ ?_
  refine WC.region ?_
  refine WL.val rfl rfl rfl rfl (r_move rfl (ev_t rfl)) ?_
  refine WL.val rfl rfl rfl rfl (r_load rfl (ev_t rfl) flat_29 (Blk.cell h1 rfl)) ?_
  refine WL.cons (SO.call (wuint_ok (n := t) hI ht (by omega)) rfl body_29 ⟨(ev_t rfl), (ev_t rfl), trivial⟩ rfl rfl rfl rfl ?_)
  rintro v1 w1 ⟨rfl, hI, hu1⟩
  have hs1 := hu1.size
  replace hU := hU.trans hu1 (by first | exact (fun _ _ h => h) | exact (fun _ _ h => h.elim) | (intro k hl hk; (try simp only [At, New, Grow, From, No] at hk ⊢); omega) | (intro k hl hk; first | exact hk | (rcases hk with hk | hk; exact hk; omega)))
  replace h1 := h1.upd hu1 (by first | exact (fun h => h) | exact hn1 | exact (fun h => by rcases h with h | h; exact hn1 h; omega))
  refine WL.nil ?_
  refine WX.keep [] trivial ?_
  refine WX.endE (l := []) (vs := []) rfl trivial ?_
  exact ⟨hI.mono fun k hk => by rcases hk with hk | hk; exact .inl hk; exact .inr ⟨by omega, by omega⟩, hU⟩

set_option maxHeartbeats 1000000 in
theorem recReady_ok {w : World} {b1 t : Nat} (h1 : Blk w b1 #[.int .u64 (t : Int)] 29) (ht : t < 18446744073709551616) :
    Ret Try.prog 27 #[.int .u8 4, .func (.func 50) #[] #[.pointer (some ⟨b1, 0, none⟩)]] w fun u w' => Own w' (New w w') 5 1 u (recB 4 (encU t)).length ((recB 4 (encU t)).map U8) ∧ Upd No w w' := by
  have hb1 := h1.lt
  have ht9 : (encU t).length ≤ 9 := by rw [encU_length]; have := blen_le (n := t) (k := 8) (by simpa using ht); omega
  have h19 : (encU 4).length ≤ 9 := by rw [encU_length]; have := blen_le (n := 4) (k := 8) (by decide); omega
  refine enterRet (vs := [_, _]) (N := 30) Try.func27 rfl rfl rfl ?_
  have hU := Upd.refl No w
  refine WC.keep [(0, _), (1, _)] ⟨rfl, rfl, trivial⟩ ?_
  refine WC.seq ?_
  refine WC.region ?_
  refine WL.val rfl rfl rfl rfl (r_assign rfl ev_c) ?_
  refine WL.nil ?_
  refine WX.keep [(0, _), (1, _)] ⟨rfl, rfl, trivial⟩ ?_
  refine WX.next ?_
  refine WC.seq ?_
  refine WC.region ?_
  refine WL.val rfl rfl rfl rfl (r_build (cs := #[_]) (vs := []) rfl trivial plc_84 zero_84 rfl) ?_
  refine WL.cons (SO.alloc rfl rfl rfl rfl (r_boxAgg rfl (ev_t rfl)) ?_)
  intro w1 hu1 hB1 hz1
  have hs1 := hu1.size
  replace hU := hU.trans hu1 (by first | exact (fun _ _ h => h) | exact (fun _ _ h => h.elim) | (intro k hl hk; (try simp only [At, New, Grow, From, No] at hk ⊢); omega) | (intro k hl hk; (try simp only [At, New, Grow, From, No] at *); omega))
  refine WL.val rfl rfl rfl rfl (r_assign rfl (ev_t rfl)) ?_
  refine WL.nil ?_
  refine WX.keep [(0, _), (1, _), (5, _)] ⟨rfl, rfl, rfl, trivial⟩ ?_
  have hI := IsW.of (M := New w w1) hB1 ⟨Nat.le_refl _, by omega⟩
  refine WX.next ?_
  refine WC.seq ?_
  refine WC.region ?_
  refine WL.val rfl rfl rfl rfl (r_move rfl (ev_t rfl)) ?_
  refine WL.val rfl rfl rfl rfl (r_move rfl (ev_t rfl)) ?_
  first | refine WL.val rfl rfl rfl rfl (r_convN rfl (ev_t rfl) some_5 int_29 (by simp only [inK]; omega)) ?_ | refine WL.val rfl rfl rfl rfl (r_conv rfl (ev_t rfl) some_5 int_29) ?_
  refine WL.cons (SO.call (wuint_ok (n := 4) hI (by omega) (by simp)) rfl body_29 ⟨(ev_t rfl), (ev_t rfl), trivial⟩ rfl rfl rfl rfl ?_)
  rintro v1 w2 ⟨rfl, hI, hu2⟩
  rw [List.nil_append] at hI
  replace hI := hI.mono (M' := New w w2) (fun k hk => by have := hu2.size; simp only [New, Grow] at *; omega)
  have hs2 := hu2.size
  replace hU := hU.trans hu2 (by first | exact (fun _ _ h => h) | exact (fun _ _ h => h.elim) | (intro k hl hk; (try simp only [At, New, Grow, From, No] at hk ⊢); omega) | (intro k hl hk; (try simp only [At, New, Grow, From, No] at *); omega))
  refine WL.nil ?_
  refine WX.keep [(1, _), (5, _)] ⟨rfl, rfl, trivial⟩ ?_
  refine WX.next ?_
  refine WC.seq ?_
  refine WC.region ?_
  refine WL.val rfl rfl rfl rfl (r_move rfl (ev_t rfl)) ?_
  refine WL.val rfl rfl rfl rfl (r_move rfl (ev_t rfl)) ?_
  refine WL.cons (SO.callV (vs := [_]) rfl (ev_t rfl) body_50 ⟨(ev_t rfl), trivial⟩ rfl (readyC_ok hI (h1.upd hU (fun h => h)) (fun h => by simp only [New] at h; omega) ht (by omega)) rfl rfl rfl rfl ?_)
  rintro v1 w3 ⟨hI, hu3⟩
  replace hI := hI.mono (M' := New w w3) (fun k hk => by have := hu3.size; simp only [New, Grow] at *; omega)
  have hs3 := hu3.size
  replace hU := hU.trans hu3 (by first | exact (fun _ _ h => h) | exact (fun _ _ h => h.elim) | (intro k hl hk; (try simp only [At, New, Grow, From, No] at hk ⊢); omega) | (intro k hl hk; (try simp only [At, New, Grow, From, No] at *); omega))
  refine WL.nil ?_
  refine WX.keep [(5, _)] ⟨rfl, trivial⟩ ?_
  refine WX.next ?_
  refine WC.seq ?_
  refine WC.region ?_
  refine WL.val rfl rfl rfl rfl (r_move rfl (ev_t rfl)) ?_
  refine WL.cons (SO.call (wdone_ok hI (by simp only [List.length_append]; omega)) rfl body_38 ⟨(ev_t rfl), trivial⟩ rfl rfl rfl rfl ?_)
  rintro v6 w4 ⟨ho, hu4⟩
  have hs4 := hu4.size
  replace hU := hU.trans hu4 (by first | exact (fun _ _ h => h) | exact (fun _ _ h => h.elim) | (intro k hl hk; (try simp only [At, New, Grow, From, No] at hk ⊢); omega) | (intro k hl hk; (try simp only [At, New, Grow, From, No] at *); omega))
  refine WL.cons (SO.call (seal_ok (ho.rd (by simp only [List.length_append]; omega)) (by simp only [List.length_append]; omega)) rfl body_37 ⟨(ev_t rfl), trivial⟩ rfl rfl rfl rfl ?_)
  rintro v7 w5 ⟨hs, hu5⟩
  obtain ⟨As, cs, rfl, hcs⟩ := Own.form hs
  have hsl := sealB_len (encU 4 ++ (encU t))
  simp only [List.length_append] at hsl
  obtain ⟨S, hS⟩ : ∃ S, sealB (encU 4 ++ (encU t)) = S := ⟨_, rfl⟩
  rw [hS] at hs hsl ⊢
  have hS9 : (encU S.length).length ≤ 9 := by rw [encU_length]; have := blen_le (n := S.length) (k := 8) (by simpa using (show S.length < 18446744073709551616 by omega)); omega
  have hs5 := hu5.size
  replace hU := hU.trans hu5 (by first | exact (fun _ _ h => h) | exact (fun _ _ h => h.elim) | (intro k hl hk; (try simp only [At, New, Grow, From, No] at hk ⊢); omega) | (intro k hl hk; (try simp only [At, New, Grow, From, No] at *); omega))
  refine WL.val rfl rfl rfl rfl (r_assign rfl (ev_t rfl)) ?_
  refine WL.nil ?_
  refine WX.keep [(6, _)] ⟨rfl, trivial⟩ ?_
  refine WX.next ?_
  refine WC.seq ?_
  refine WC.region ?_
  refine WL.val rfl rfl rfl rfl (r_build (cs := #[_]) (vs := []) rfl trivial plc_84 zero_84 rfl) ?_
  refine WL.cons (SO.alloc rfl rfl rfl rfl (r_boxAgg rfl (ev_t rfl)) ?_)
  intro w6 hu6 hB6 hz6
  have hs6 := hu6.size
  replace hU := hU.trans hu6 (by first | exact (fun _ _ h => h) | exact (fun _ _ h => h.elim) | (intro k hl hk; (try simp only [At, New, Grow, From, No] at hk ⊢); omega) | (intro k hl hk; (try simp only [At, New, Grow, From, No] at *); omega))
  replace hs := hs.upd hu6 (by first | exact (fun _ _ _ h => h) | (intro k hk hl hS; simp only [At, New, No, Grow] at *; omega))
  refine WL.val rfl rfl rfl rfl (r_assign rfl (ev_t rfl)) ?_
  refine WL.nil ?_
  refine WX.keep [(6, _), (7, _)] ⟨rfl, rfl, trivial⟩ ?_
  have hI := IsW.of (M := At _) hB6 rfl
  refine WX.next ?_
  refine WC.seq ?_
  refine WC.region ?_
  refine WL.val rfl rfl rfl rfl (r_move rfl (ev_t rfl)) ?_
  refine WL.val rfl rfl rfl rfl (r_move rfl (ev_t rfl)) ?_
  refine WL.val rfl rfl rfl rfl (r_lenSlice (ts := #[]) rfl (ev_t rfl) elem_22) ?_
  first | refine WL.val rfl rfl rfl rfl (r_convN rfl (ev_t rfl) some_3 int_29 (by simp only [inK]; omega)) ?_ | refine WL.val rfl rfl rfl rfl (r_conv rfl (ev_t rfl) some_3 int_29) ?_
  refine WL.cons (SO.call (wuint_ok (n := S.length) hI (by omega) (by simp)) rfl body_29 ⟨(ev_t rfl), (ev_t rfl), trivial⟩ rfl rfl rfl rfl ?_)
  rintro v8 w7 ⟨rfl, hI, hu7⟩
  rw [List.nil_append] at hI
  have hs7 := hu7.size
  replace hU := hU.trans hu7 (by first | exact (fun _ _ h => h) | exact (fun _ _ h => h.elim) | (intro k hl hk; (try simp only [At, New, Grow, From, No] at hk ⊢); omega) | (intro k hl hk; (try simp only [At, New, Grow, From, No] at *); omega))
  replace hs := hs.upd hu7 (by first | exact (fun _ _ _ h => h) | (intro k hk hl hS; simp only [At, New, No, Grow] at *; omega))
  refine WL.cons (SO.call (wdone_ok hI (by have := hS9; omega)) rfl body_38 ⟨(ev_t rfl), trivial⟩ rfl rfl rfl rfl ?_)
  rintro v9 w8 ⟨hd, hu8⟩
  obtain ⟨Ad, cd, rfl, hcd⟩ := Own.form hd
  have hs8 := hu8.size
  replace hU := hU.trans hu8 (by first | exact (fun _ _ h => h) | exact (fun _ _ h => h.elim) | (intro k hl hk; (try simp only [At, New, Grow, From, No] at hk ⊢); omega) | (intro k hl hk; (try simp only [At, New, Grow, From, No] at *); omega))
  replace hs := hs.upd hu8 (by first | exact (fun _ _ _ h => h) | (intro k hk hl hS; simp only [At, New, No, Grow] at *; omega))
  refine WL.val rfl rfl rfl rfl (r_move rfl (ev_t rfl)) ?_
  refine WL.cons (SO.append hd (hs.rd (by omega)) row_22 (U8_one _) (le_maxLen (by omega)) (by omega) rfl (ev_t rfl) (ev_t rfl) rfl rfl rfl rfl ?_)
  intro v9 w9 hd hu9
  have hs9 := hu9.size
  replace hU := hU.trans hu9 (by first | exact (fun _ _ h => h) | exact (fun _ _ h => h.elim) | (intro k hl hk; (try simp only [At, New, Grow, From, No] at hk ⊢); omega) | (intro k hl hk; (try simp only [At, New, Grow, From, No] at *); omega))
  replace hs := hs.upd hu9 (by first | exact (fun _ _ _ h => h) | (intro k hk hl hS; simp only [At, New, No, Grow] at *; omega))
  obtain ⟨A9, c9, rfl, hc9⟩ := Own.form hd
  rw [← List.map_append] at hd
  refine WL.val rfl rfl rfl rfl (r_assign rfl (ev_t rfl)) ?_
  refine WL.nil ?_
  refine WX.keep [(4, _)] ⟨rfl, trivial⟩ ?_
  refine WX.next ?_
  refine WC.ret ?_
  refine WX.retE1 rfl rfl ?_
  refine ⟨?_, hU⟩
  unfold recB
  rw [hS, List.length_append]
  exact hd.mono fun k hk => by simp only [New, Grow] at *; omega

end Go.Proofs.Ytnjfhmlfpfkllaa

/-
  wal: an entry's record.
-/
namespace Go.Proofs.Ytnjfhmlfpfkllaa
open Go
set_option linter.unusedSimpArgs false
set_option linter.unusedVariables false

/-- an entry -/
structure En where
  term : Nat
  ses : Nat
  num : Nat
  cell : List UInt8
structure En.ok (x : En) : Prop where
  t : x.term < 18446744073709551616
  s : x.ses < 18446744073709551616
  n : x.num < 18446744073709551616
  c : x.cell.length ≤ 100000
def En.pl (i : Nat) (x : En) : List UInt8 := encU i ++ (encU x.term ++ (encU x.ses ++ (encU x.num ++ (encU x.cell.length ++ x.cell))))
theorem encU_len9w {n : Nat} (h : n < 18446744073709551616) : (encU n).length ≤ 9 := by
  rw [encU_length]
  have := blen_le (n := n) (k := 8) (by simpa using h)
  omega

set_option maxHeartbeats 2000000 in
theorem entryC_ok {w : World} {M Hc : Nat → Prop} {g b1 b2 i : Nat} {x : En} {cv : Value} {l : List UInt8} (hI : IsW w M g l) (h1 : Blk w b1 #[.int .u64 (i : Int)] 29) (h2 : Blk w b2 #[.int .u64 (x.term : Int), .int .u64 (x.ses : Int), .int .u64 (x.num : Int), cv] 33) (hc : Rd w Hc cv x.cell.length 1 (x.cell.map U8)) (hn1 : ¬ M b1) (hn2 : ¬ M b2) (hHc : ∀ k, Hc k → ¬ M k ∧ k < w.heap.size) (hi : i < 18446744073709551616) (hx : x.ok) (hl : l.length ≤ 1000000) :
    Ret Try.prog 31 #[.pointer (some ⟨g, 0, none⟩), .pointer (some ⟨b1, 0, none⟩), .pointer (some ⟨b2, 0, none⟩)] w fun _ w' => IsW w' (Grow M w w') g (l ++ En.pl i x) ∧ Upd M w w' := by
  obtain ⟨x1, x2, x3, x4⟩ := hx
  obtain ⟨tm, se, nu, ce⟩ := x
  simp only at x1 x2 x3 x4 h2 hc
  unfold En.pl
  simp only
  have hb1 := h1.lt
  have hb2 := h2.lt
  have e0 := encU_len9w hi
  have e1 := encU_len9w x1
  have e2 := encU_len9w x2
  have e3 := encU_len9w x3
  obtain ⟨N, hNd⟩ : ∃ N : Nat → Prop, ∀ k, N k ↔ M k ∨ w.heap.size ≤ k := ⟨fun k => M k ∨ w.heap.size ≤ k, fun k => Iff.rfl⟩
  replace hI := hI.mono (M' := N) (fun k hk => (hNd k).2 (.inl hk))
  have hm1 : ¬ N b1 := fun h => by rcases (hNd _).1 h with h | h; exact hn1 h; omega
  have hm2 : ¬ N b2 := fun h => by rcases (hNd _).1 h with h | h; exact hn2 h; omega
  have hmc : ∀ k, Hc k → ¬ N k := fun k hk h => by rcases (hNd _).1 h with h | h; exact (hHc k hk).1 h; have := (hHc k hk).2; omega
  refine enterRet (vs := [_, _, _]) (N := 19) Try.func31 rfl rfl rfl ?_
  have hU := Upd.refl M w
  refine WC.keep [(0, _), (1, _), (2, _)] ⟨rfl, rfl, rfl, trivial⟩ ?_
  refine WC.draws' (fun u0_ u1_ => Upd N u0_ u1_) (fun j => [0, 0, 1, 0, 0, 1, 0, 0, 1, 0, 0, 1, 0, 0, 2].getD j 0) (.calm 0 (.calm 3 (.calm 6 (.calm 9 (.calm 12 (.held 1 (.held 4 (.held 7 (.held 10 (.held 13 (.one 2 (.one 5 (.one 8 (.one 11 (.one 14 (.done)))))))))))))))) mixed (by kernel_rfl) (by repeat (first | with_reducible exact Deaf.body | with_reducible apply Deaf.then | with_reducible apply Deaf.block)) ?_
  intro w1 hu1
  have hz1 := congrArg Array.size hu1.2.2.2
  replace hu1 := Upd.of_draw hu1
  have hs1 := hu1.size
  replace hU := hU.trans hu1 (by first | exact (fun _ _ h => h) | exact (fun _ _ h => h.elim) | (intro k hl hk; (try simp only [At, New, Grow, From, No] at hk ⊢); omega) | (intro k hl hk; rcases (hNd _).1 hk with h | h; exact h; omega))
  replace hI := hI.upd hu1 (fun _ _ _ h => h)
  replace h1 := h1.upd hu1 (by first | exact (fun h => h) | exact hm1)
  replace h2 := h2.upd hu1 (by first | exact (fun h => h) | exact hm2)
  replace hc := hc.upd hu1 (by first | exact (fun _ _ _ h => h) | exact (fun k hk _ h => hmc k hk h))
  have hS0 := Upd.refl N w1
  refine WN.calm _ rfl rfl rfl rfl rfl (fun _ => r_move rfl (ev_t rfl)) ?_
  first | refine WN.calm _ rfl rfl rfl rfl rfl (fun _ => r_field0 rfl (ev_t rfl) fld_33_0) ?_ | refine WN.calm _ rfl rfl rfl rfl rfl (fun _ => r_fieldAt rfl (ev_t rfl) fld_33_0) ?_
  first | refine WN.calm _ rfl rfl rfl rfl rfl (fun _ => r_field0 rfl (ev_t rfl) fld_33_1) ?_ | refine WN.calm _ rfl rfl rfl rfl rfl (fun _ => r_fieldAt rfl (ev_t rfl) fld_33_1) ?_
  first | refine WN.calm _ rfl rfl rfl rfl rfl (fun _ => r_field0 rfl (ev_t rfl) fld_33_2) ?_ | refine WN.calm _ rfl rfl rfl rfl rfl (fun _ => r_fieldAt rfl (ev_t rfl) fld_33_2) ?_
  first | refine WN.calm _ rfl rfl rfl rfl rfl (fun _ => r_field0 rfl (ev_t rfl) fld_33_3) ?_ | refine WN.calm _ rfl rfl rfl rfl rfl (fun _ => r_fieldAt rfl (ev_t rfl) fld_33_3) ?_
  refine WN.held _ rfl rfl rfl rfl rfl hS0 (fun w' hS => r_load rfl (ev_t rfl) flat_29 (Blk.cell (h1.upd hS (by (try simp only [At, From, No, Grow, New]); omega)) rfl)) ?_
  refine WN.held _ rfl rfl rfl rfl rfl hS0 (fun w' hS => r_load rfl (ev_t rfl) flat_29 (Blk.cell (h2.upd hS (by (try simp only [At, From, No, Grow, New]); omega)) rfl)) ?_
  refine WN.held _ rfl rfl rfl rfl rfl hS0 (fun w' hS => r_load rfl (ev_t rfl) flat_29 (Blk.cell (h2.upd hS (by (try simp only [At, From, No, Grow, New]); omega)) rfl)) ?_
  refine WN.held _ rfl rfl rfl rfl rfl hS0 (fun w' hS => r_load rfl (ev_t rfl) flat_29 (Blk.cell (h2.upd hS (by (try simp only [At, From, No, Grow, New]); omega)) rfl)) ?_
  refine WN.held _ rfl rfl rfl rfl rfl hS0 (fun w' hS => r_load rfl (ev_t rfl) flat_22 (Blk.cell (h2.upd hS (by (try simp only [At, From, No, Grow, New]); omega)) rfl)) ?_
  refine WN.step _ rfl (SO.call (wuint_ok (n := i) hI hi (by omega)) rfl body_29 ⟨(ev_t rfl), (ev_t rfl), trivial⟩ rfl rfl rfl rfl ?_)
  rintro v1 w2 ⟨rfl, hI, hu2⟩
  have hs8 := hU.size
  replace hI := hI.mono (M' := N) (fun k hk => hk.elim (fun h => h) (fun h => (hNd k).2 (.inr (by have := h.1; omega))))
  have hs2 := hu2.size
  replace hS0 := Upd.trans hS0 hu2 (by intro k hl hk; first | exact hk.elim | exact hk)
  replace hU := hU.trans hu2 (by first | exact (fun _ _ h => h) | exact (fun _ _ h => h.elim) | (intro k hl hk; (try simp only [At, New, Grow, From, No] at hk ⊢); omega) | (intro k hl hk; rcases (hNd _).1 hk with h | h; exact h; omega))
  replace h1 := h1.upd hu2 (by first | exact (fun h => h) | exact hm1)
  replace h2 := h2.upd hu2 (by first | exact (fun h => h) | exact hm2)
  replace hc := hc.upd hu2 (by first | exact (fun _ _ _ h => h) | exact (fun k hk _ h => hmc k hk h))
  refine ⟨hS0, ?_⟩
  refine WN.step _ rfl (SO.call (wuint_ok (n := tm) hI x1 (by simp only [List.length_append]; omega)) rfl body_29 ⟨(ev_t rfl), (ev_t rfl), trivial⟩ rfl rfl rfl rfl ?_)
  rintro v1 w3 ⟨rfl, hI, hu3⟩
  have hs8 := hU.size
  replace hI := hI.mono (M' := N) (fun k hk => hk.elim (fun h => h) (fun h => (hNd k).2 (.inr (by have := h.1; omega))))
  have hs3 := hu3.size
  replace hS0 := Upd.trans hS0 hu3 (by intro k hl hk; first | exact hk.elim | exact hk)
  replace hU := hU.trans hu3 (by first | exact (fun _ _ h => h) | exact (fun _ _ h => h.elim) | (intro k hl hk; (try simp only [At, New, Grow, From, No] at hk ⊢); omega) | (intro k hl hk; rcases (hNd _).1 hk with h | h; exact h; omega))
  replace h1 := h1.upd hu3 (by first | exact (fun h => h) | exact hm1)
  replace h2 := h2.upd hu3 (by first | exact (fun h => h) | exact hm2)
  replace hc := hc.upd hu3 (by first | exact (fun _ _ _ h => h) | exact (fun k hk _ h => hmc k hk h))
  refine ⟨hS0, ?_⟩
  refine WN.step _ rfl (SO.call (wuint_ok (n := se) hI x2 (by simp only [List.length_append]; omega)) rfl body_29 ⟨(ev_t rfl), (ev_t rfl), trivial⟩ rfl rfl rfl rfl ?_)
  rintro v1 w4 ⟨rfl, hI, hu4⟩
  have hs8 := hU.size
  replace hI := hI.mono (M' := N) (fun k hk => hk.elim (fun h => h) (fun h => (hNd k).2 (.inr (by have := h.1; omega))))
  have hs4 := hu4.size
  replace hS0 := Upd.trans hS0 hu4 (by intro k hl hk; first | exact hk.elim | exact hk)
  replace hU := hU.trans hu4 (by first | exact (fun _ _ h => h) | exact (fun _ _ h => h.elim) | (intro k hl hk; (try simp only [At, New, Grow, From, No] at hk ⊢); omega) | (intro k hl hk; rcases (hNd _).1 hk with h | h; exact h; omega))
  replace h1 := h1.upd hu4 (by first | exact (fun h => h) | exact hm1)
  replace h2 := h2.upd hu4 (by first | exact (fun h => h) | exact hm2)
  replace hc := hc.upd hu4 (by first | exact (fun _ _ _ h => h) | exact (fun k hk _ h => hmc k hk h))
  refine ⟨hS0, ?_⟩
  refine WN.step _ rfl (SO.call (wuint_ok (n := nu) hI x3 (by simp only [List.length_append]; omega)) rfl body_29 ⟨(ev_t rfl), (ev_t rfl), trivial⟩ rfl rfl rfl rfl ?_)
  rintro v1 w5 ⟨rfl, hI, hu5⟩
  have hs8 := hU.size
  replace hI := hI.mono (M' := N) (fun k hk => hk.elim (fun h => h) (fun h => (hNd k).2 (.inr (by have := h.1; omega))))
  have hs5 := hu5.size
  replace hS0 := Upd.trans hS0 hu5 (by intro k hl hk; first | exact hk.elim | exact hk)
  replace hU := hU.trans hu5 (by first | exact (fun _ _ h => h) | exact (fun _ _ h => h.elim) | (intro k hl hk; (try simp only [At, New, Grow, From, No] at hk ⊢); omega) | (intro k hl hk; rcases (hNd _).1 hk with h | h; exact h; omega))
  replace h1 := h1.upd hu5 (by first | exact (fun h => h) | exact hm1)
  replace h2 := h2.upd hu5 (by first | exact (fun h => h) | exact hm2)
  replace hc := hc.upd hu5 (by first | exact (fun _ _ _ h => h) | exact (fun k hk _ h => hmc k hk h))
  refine ⟨hS0, ?_⟩
  refine WN.step _ rfl (SO.call (wbytes_ok hI hc hmc (by simp only [List.length_append]; omega)) rfl body_32 ⟨(ev_t rfl), (ev_t rfl), trivial⟩ rfl rfl rfl rfl ?_)
  rintro v1 w6 ⟨rfl, hI, hu6⟩
  have hs8 := hU.size
  replace hI := hI.mono (M' := N) (fun k hk => hk.elim (fun h => h) (fun h => (hNd k).2 (.inr (by have := h.1; omega))))
  have hs6 := hu6.size
  try replace hS0 := Upd.trans hS0 hu6 (by intro k hl hk; first | exact hk.elim | exact hk)
  replace hU := hU.trans hu6 (by first | exact (fun _ _ h => h) | exact (fun _ _ h => h.elim) | (intro k hl hk; (try simp only [At, New, Grow, From, No] at hk ⊢); omega) | (intro k hl hk; rcases (hNd _).1 hk with h | h; exact h; omega))
  replace h1 := h1.upd hu6 (by first | exact (fun h => h) | exact hm1)
  replace h2 := h2.upd hu6 (by first | exact (fun h => h) | exact hm2)
  replace hc := hc.upd hu6 (by first | exact (fun _ _ _ h => h) | exact (fun k hk _ h => hmc k hk h))
  refine ⟨trivial, ?_⟩
  refine WN.done ?_
  refine WX.keep [] trivial ?_
  refine WX.endE (l := []) (vs := []) rfl trivial ?_
  refine ⟨?_, hU⟩
  have hI9 : IsW w6 N g (l ++ (encU i ++ (encU tm ++ (encU se ++ (encU nu ++ (encU ce.length ++ ce)))))) := by simpa only [List.append_assoc] using hI
  exact hI9.bound.mono fun k hk => by
    rcases (hNd _).1 hk.1 with h | h
    · exact .inl h
    · exact .inr ⟨h, hk.2⟩
set_option maxHeartbeats 1000000 in
theorem recEntry_ok {w : World} {Hc : Nat → Prop} {b1 b2 i : Nat} {x : En} {cv : Value} (h1 : Blk w b1 #[.int .u64 (i : Int)] 29) (h2 : Blk w b2 #[.int .u64 (x.term : Int), .int .u64 (x.ses : Int), .int .u64 (x.num : Int), cv] 33) (hc : Rd w Hc cv x.cell.length 1 (x.cell.map U8)) (hHc : ∀ k, Hc k → k < w.heap.size) (hi : i < 18446744073709551616) (hx : x.ok) :
    Ret Try.prog 27 #[.int .u8 2, .func (.func 31) #[] #[.pointer (some ⟨b1, 0, none⟩), .pointer (some ⟨b2, 0, none⟩)]] w fun u w' => Own w' (New w w') 5 1 u (recB 2 (En.pl i x)).length ((recB 2 (En.pl i x)).map U8) ∧ Upd No w w' := by
  have hb1 := h1.lt
  have hb2 := h2.lt
  have h19 : (encU 2).length ≤ 9 := by rw [encU_length]; have := blen_le (n := 2) (k := 8) (by decide); omega
  have hpl : (En.pl i x).length ≤ 100050 := by
    obtain ⟨x1, x2, x3, x4⟩ := hx
    have e0 := encU_len9w hi
    have e1 := encU_len9w x1
    have e2 := encU_len9w x2
    have e3 := encU_len9w x3
    have e4 := encU_len9w (n := x.cell.length) (by omega)
    simp only [En.pl, List.length_append]
    omega
  refine enterRet (vs := [_, _]) (N := 30) Try.func27 rfl rfl rfl ?_
  have hU := Upd.refl No w
  refine WC.keep [(0, _), (1, _)] ⟨rfl, rfl, trivial⟩ ?_
  refine WC.seq ?_
  refine WC.region ?_
  refine WL.val rfl rfl rfl rfl (r_assign rfl ev_c) ?_
  refine WL.nil ?_
  refine WX.keep [(0, _), (1, _)] ⟨rfl, rfl, trivial⟩ ?_
  refine WX.next ?_
  refine WC.seq ?_
  refine WC.region ?_
  refine WL.val rfl rfl rfl rfl (r_build (cs := #[_]) (vs := []) rfl trivial plc_84 zero_84 rfl) ?_
  refine WL.cons (SO.alloc rfl rfl rfl rfl (r_boxAgg rfl (ev_t rfl)) ?_)
  intro w1 hu1 hB1 hz1
  have hs1 := hu1.size
  replace hU := hU.trans hu1 (by first | exact (fun _ _ h => h) | exact (fun _ _ h => h.elim) | (intro k hl hk; (try simp only [At, New, Grow, From, No] at hk ⊢); omega) | (intro k hl hk; (try simp only [At, New, Grow, From, No] at *); omega))
  refine WL.val rfl rfl rfl rfl (r_assign rfl (ev_t rfl)) ?_
  refine WL.nil ?_
  refine WX.keep [(0, _), (1, _), (5, _)] ⟨rfl, rfl, rfl, trivial⟩ ?_
  have hI := IsW.of (M := New w w1) hB1 ⟨Nat.le_refl _, by omega⟩
  refine WX.next ?_
  refine WC.seq ?_
  refine WC.region ?_
  refine WL.val rfl rfl rfl rfl (r_move rfl (ev_t rfl)) ?_
  refine WL.val rfl rfl rfl rfl (r_move rfl (ev_t rfl)) ?_
  first | refine WL.val rfl rfl rfl rfl (r_convN rfl (ev_t rfl) some_5 int_29 (by simp only [inK]; omega)) ?_ | refine WL.val rfl rfl rfl rfl (r_conv rfl (ev_t rfl) some_5 int_29) ?_
  refine WL.cons (SO.call (wuint_ok (n := 2) hI (by omega) (by simp)) rfl body_29 ⟨(ev_t rfl), (ev_t rfl), trivial⟩ rfl rfl rfl rfl ?_)
  rintro v1 w2 ⟨rfl, hI, hu2⟩
  rw [List.nil_append] at hI
  replace hI := hI.mono (M' := New w w2) (fun k hk => by have := hu2.size; simp only [New, Grow] at *; omega)
  have hs2 := hu2.size
  replace hU := hU.trans hu2 (by first | exact (fun _ _ h => h) | exact (fun _ _ h => h.elim) | (intro k hl hk; (try simp only [At, New, Grow, From, No] at hk ⊢); omega) | (intro k hl hk; (try simp only [At, New, Grow, From, No] at *); omega))
  refine WL.nil ?_
  refine WX.keep [(1, _), (5, _)] ⟨rfl, rfl, trivial⟩ ?_
  refine WX.next ?_
  refine WC.seq ?_
  refine WC.region ?_
  refine WL.val rfl rfl rfl rfl (r_move rfl (ev_t rfl)) ?_
  refine WL.val rfl rfl rfl rfl (r_move rfl (ev_t rfl)) ?_
  refine WL.cons (SO.callV (vs := [_]) rfl (ev_t rfl) body_31 ⟨(ev_t rfl), trivial⟩ rfl (entryC_ok hI (h1.upd hU (fun h => h)) (h2.upd hU (fun h => h)) (hc.upd hU (fun _ _ _ h => h)) (fun h => by simp only [New] at h; omega) (fun h => by simp only [New] at h; omega) (fun k hk => by have := hHc k hk; have := hU.size; simp only [New]; omega) hi hx (by omega)) rfl rfl rfl rfl ?_)
  rintro v1 w3 ⟨hI, hu3⟩
  replace hI := hI.mono (M' := New w w3) (fun k hk => by have := hu3.size; simp only [New, Grow] at *; omega)
  have hs3 := hu3.size
  replace hU := hU.trans hu3 (by first | exact (fun _ _ h => h) | exact (fun _ _ h => h.elim) | (intro k hl hk; (try simp only [At, New, Grow, From, No] at hk ⊢); omega) | (intro k hl hk; (try simp only [At, New, Grow, From, No] at *); omega))
  refine WL.nil ?_
  refine WX.keep [(5, _)] ⟨rfl, trivial⟩ ?_
  refine WX.next ?_
  refine WC.seq ?_
  refine WC.region ?_
  refine WL.val rfl rfl rfl rfl (r_move rfl (ev_t rfl)) ?_
  refine WL.cons (SO.call (wdone_ok hI (by simp only [List.length_append]; omega)) rfl body_38 ⟨(ev_t rfl), trivial⟩ rfl rfl rfl rfl ?_)
  rintro v6 w4 ⟨ho, hu4⟩
  have hs4 := hu4.size
  replace hU := hU.trans hu4 (by first | exact (fun _ _ h => h) | exact (fun _ _ h => h.elim) | (intro k hl hk; (try simp only [At, New, Grow, From, No] at hk ⊢); omega) | (intro k hl hk; (try simp only [At, New, Grow, From, No] at *); omega))
  refine WL.cons (SO.call (seal_ok (ho.rd (by simp only [List.length_append]; omega)) (by simp only [List.length_append]; omega)) rfl body_37 ⟨(ev_t rfl), trivial⟩ rfl rfl rfl rfl ?_)
  rintro v7 w5 ⟨hs, hu5⟩
  obtain ⟨As, cs, rfl, hcs⟩ := Own.form hs
  have hsl := sealB_len (encU 2 ++ (En.pl i x))
  simp only [List.length_append] at hsl
  obtain ⟨S, hS⟩ : ∃ S, sealB (encU 2 ++ (En.pl i x)) = S := ⟨_, rfl⟩
  rw [hS] at hs hsl ⊢
  have hS9 : (encU S.length).length ≤ 9 := by rw [encU_length]; have := blen_le (n := S.length) (k := 8) (by simpa using (show S.length < 18446744073709551616 by omega)); omega
  have hs5 := hu5.size
  replace hU := hU.trans hu5 (by first | exact (fun _ _ h => h) | exact (fun _ _ h => h.elim) | (intro k hl hk; (try simp only [At, New, Grow, From, No] at hk ⊢); omega) | (intro k hl hk; (try simp only [At, New, Grow, From, No] at *); omega))
  refine WL.val rfl rfl rfl rfl (r_assign rfl (ev_t rfl)) ?_
  refine WL.nil ?_
  refine WX.keep [(6, _)] ⟨rfl, trivial⟩ ?_
  refine WX.next ?_
  refine WC.seq ?_
  refine WC.region ?_
  refine WL.val rfl rfl rfl rfl (r_build (cs := #[_]) (vs := []) rfl trivial plc_84 zero_84 rfl) ?_
  refine WL.cons (SO.alloc rfl rfl rfl rfl (r_boxAgg rfl (ev_t rfl)) ?_)
  intro w6 hu6 hB6 hz6
  have hs6 := hu6.size
  replace hU := hU.trans hu6 (by first | exact (fun _ _ h => h) | exact (fun _ _ h => h.elim) | (intro k hl hk; (try simp only [At, New, Grow, From, No] at hk ⊢); omega) | (intro k hl hk; (try simp only [At, New, Grow, From, No] at *); omega))
  replace hs := hs.upd hu6 (by first | exact (fun _ _ _ h => h) | (intro k hk hl hS; simp only [At, New, No, Grow] at *; omega))
  refine WL.val rfl rfl rfl rfl (r_assign rfl (ev_t rfl)) ?_
  refine WL.nil ?_
  refine WX.keep [(6, _), (7, _)] ⟨rfl, rfl, trivial⟩ ?_
  have hI := IsW.of (M := At _) hB6 rfl
  refine WX.next ?_
  refine WC.seq ?_
  refine WC.region ?_
  refine WL.val rfl rfl rfl rfl (r_move rfl (ev_t rfl)) ?_
  refine WL.val rfl rfl rfl rfl (r_move rfl (ev_t rfl)) ?_
  refine WL.val rfl rfl rfl rfl (r_lenSlice (ts := #[]) rfl (ev_t rfl) elem_22) ?_
  first | refine WL.val rfl rfl rfl rfl (r_convN rfl (ev_t rfl) some_3 int_29 (by simp only [inK]; omega)) ?_ | refine WL.val rfl rfl rfl rfl (r_conv rfl (ev_t rfl) some_3 int_29) ?_
  refine WL.cons (SO.call (wuint_ok (n := S.length) hI (by omega) (by simp)) rfl body_29 ⟨(ev_t rfl), (ev_t rfl), trivial⟩ rfl rfl rfl rfl ?_)
  rintro v8 w7 ⟨rfl, hI, hu7⟩
  rw [List.nil_append] at hI
  have hs7 := hu7.size
  replace hU := hU.trans hu7 (by first | exact (fun _ _ h => h) | exact (fun _ _ h => h.elim) | (intro k hl hk; (try simp only [At, New, Grow, From, No] at hk ⊢); omega) | (intro k hl hk; (try simp only [At, New, Grow, From, No] at *); omega))
  replace hs := hs.upd hu7 (by first | exact (fun _ _ _ h => h) | (intro k hk hl hS; simp only [At, New, No, Grow] at *; omega))
  refine WL.cons (SO.call (wdone_ok hI (by have := hS9; omega)) rfl body_38 ⟨(ev_t rfl), trivial⟩ rfl rfl rfl rfl ?_)
  rintro v9 w8 ⟨hd, hu8⟩
  obtain ⟨Ad, cd, rfl, hcd⟩ := Own.form hd
  have hs8 := hu8.size
  replace hU := hU.trans hu8 (by first | exact (fun _ _ h => h) | exact (fun _ _ h => h.elim) | (intro k hl hk; (try simp only [At, New, Grow, From, No] at hk ⊢); omega) | (intro k hl hk; (try simp only [At, New, Grow, From, No] at *); omega))
  replace hs := hs.upd hu8 (by first | exact (fun _ _ _ h => h) | (intro k hk hl hS; simp only [At, New, No, Grow] at *; omega))
  refine WL.val rfl rfl rfl rfl (r_move rfl (ev_t rfl)) ?_
  refine WL.cons (SO.append hd (hs.rd (by omega)) row_22 (U8_one _) (le_maxLen (by omega)) (by omega) rfl (ev_t rfl) (ev_t rfl) rfl rfl rfl rfl ?_)
  intro v9 w9 hd hu9
  have hs9 := hu9.size
  replace hU := hU.trans hu9 (by first | exact (fun _ _ h => h) | exact (fun _ _ h => h.elim) | (intro k hl hk; (try simp only [At, New, Grow, From, No] at hk ⊢); omega) | (intro k hl hk; (try simp only [At, New, Grow, From, No] at *); omega))
  replace hs := hs.upd hu9 (by first | exact (fun _ _ _ h => h) | (intro k hk hl hS; simp only [At, New, No, Grow] at *; omega))
  obtain ⟨A9, c9, rfl, hc9⟩ := Own.form hd
  rw [← List.map_append] at hd
  refine WL.val rfl rfl rfl rfl (r_assign rfl (ev_t rfl)) ?_
  refine WL.nil ?_
  refine WX.keep [(4, _)] ⟨rfl, trivial⟩ ?_
  refine WX.next ?_
  refine WC.ret ?_
  refine WX.retE1 rfl rfl ?_
  refine ⟨?_, hU⟩
  unfold recB
  rw [hS, List.length_append]
  exact hd.mono fun k hk => by simp only [New, Grow] at *; omega
end Go.Proofs.Ytnjfhmlfpfkllaa

/-
  wal: records.
-/
namespace Go.Proofs.Ytnjfhmlfpfkllaa
open Go
set_option linter.unusedSimpArgs false
set_option linter.unusedVariables false

set_option maxHeartbeats 1000000 in
theorem vote_ok {w : World} {t : Nat} {v : Int} (ht : t < 18446744073709551616) (hv : inK .i64 v) :
    Ret Try.prog 17 #[.int .u64 (t : Int), .int .i64 v] w fun u w' => Own w' (New w w') 5 1 u (recB 1 (encU t ++ encU (zig v))).length ((recB 1 (encU t ++ encU (zig v))).map U8) ∧ Upd No w w' := by
  refine enterRet (vs := [_, _]) (N := 7) Try.func17 rfl rfl rfl ?_
  have hU := Upd.refl No w
  refine WC.keep [(0, _), (1, _)] ⟨rfl, rfl, trivial⟩ ?_
  refine WC.seq ?_
  refine WC.region ?_
  refine WL.cons (SO.alloc rfl rfl rfl rfl (r_box1 rfl (ev_t rfl) rfl) ?_)
  intro w1 hu1 hB1 hz1
  have hs1 := hu1.size
  replace hU := hU.transA hu1
  have hA := hB1
  refine WL.cons (SO.alloc rfl rfl rfl rfl (r_box1 rfl (ev_t rfl) rfl) ?_)
  intro w2 hu2 hB2 hz2
  have hs2 := hu2.size
  replace hU := hU.transA hu2
  replace hB1 := hB1.updA hu2
  replace hA := hA.upd hu2 (fun h => h)
  refine WL.val rfl rfl rfl rfl (r_assign rfl ev_c) ?_
  refine WL.nil ?_
  refine WX.keep [(2, _), (3, _)] ⟨rfl, rfl, trivial⟩ ?_
  refine WX.next ?_
  refine WC.seq ?_
  refine WC.region ?_
  refine WL.val rfl rfl rfl rfl (r_makeFunc (vs := []) (us := [_, _]) rfl trivial ⟨(ev_t rfl), (ev_t rfl), trivial⟩) ?_
  refine WL.cons (SO.call (recVote_ok hA hB2 ht hv) rfl body_27 ⟨ev_c, (ev_t rfl), trivial⟩ rfl rfl rfl rfl ?_)
  rintro v1 w3 ⟨ho, hu3⟩
  have hs3 := hu3.size
  replace hU := hU.transA hu3
  replace hB1 := hB1.updA hu3
  replace hA := hA.upd hu3 (fun h => h)
  replace hB2 := hB2.updA hu3
  refine WL.val rfl rfl rfl rfl (r_assign rfl (ev_t rfl)) ?_
  refine WL.nil ?_
  refine WX.keep [(4, _)] ⟨rfl, trivial⟩ ?_
  refine WX.next ?_
  refine WC.ret ?_
  refine WX.retE1 rfl rfl ?_
  exact ⟨ho.mono fun k hk => by simp only [New] at *; omega, hU⟩
set_option maxHeartbeats 1000000 in
theorem base_ok {w : World} {t : Nat} (ht : t < 18446744073709551616) :
    Ret Try.prog 39 #[.int .u64 (t : Int)] w fun u w' => Own w' (New w w') 5 1 u (recB 3 (encU t)).length ((recB 3 (encU t)).map U8) ∧ Upd No w w' := by
  refine enterRet (vs := [_]) (N := 5) Try.func39 rfl rfl rfl ?_
  have hU := Upd.refl No w
  refine WC.keep [(0, _)] ⟨rfl, trivial⟩ ?_
  refine WC.seq ?_
  refine WC.region ?_
  refine WL.cons (SO.alloc rfl rfl rfl rfl (r_box1 rfl (ev_t rfl) rfl) ?_)
  intro w1 hu1 hB1 hz1
  have hs1 := hu1.size
  replace hU := hU.transA hu1
  refine WL.val rfl rfl rfl rfl (r_assign rfl ev_c) ?_
  refine WL.nil ?_
  refine WX.keep [(1, _)] ⟨rfl, trivial⟩ ?_
  refine WX.next ?_
  refine WC.seq ?_
  refine WC.region ?_
  refine WL.val rfl rfl rfl rfl (r_makeFunc (vs := []) (us := [_]) rfl trivial ⟨(ev_t rfl), trivial⟩) ?_
  refine WL.cons (SO.call (recBase_ok hB1 ht) rfl body_27 ⟨ev_c, (ev_t rfl), trivial⟩ rfl rfl rfl rfl ?_)
  rintro v1 w2 ⟨ho, hu2⟩
  have hs2 := hu2.size
  replace hU := hU.transA hu2
  replace hB1 := hB1.updA hu2
  refine WL.val rfl rfl rfl rfl (r_assign rfl (ev_t rfl)) ?_
  refine WL.nil ?_
  refine WX.keep [(2, _)] ⟨rfl, trivial⟩ ?_
  refine WX.next ?_
  refine WC.ret ?_
  refine WX.retE1 rfl rfl ?_
  exact ⟨ho.mono fun k hk => by simp only [New] at *; omega, hU⟩
set_option maxHeartbeats 1000000 in
theorem ready_ok {w : World} {t : Nat} (ht : t < 18446744073709551616) :
    Ret Try.prog 40 #[.int .u64 (t : Int)] w fun u w' => Own w' (New w w') 5 1 u (recB 4 (encU t)).length ((recB 4 (encU t)).map U8) ∧ Upd No w w' := by
  refine enterRet (vs := [_]) (N := 5) Try.func40 rfl rfl rfl ?_
  have hU := Upd.refl No w
  refine WC.keep [(0, _)] ⟨rfl, trivial⟩ ?_
  refine WC.seq ?_
  refine WC.region ?_
  refine WL.cons (SO.alloc rfl rfl rfl rfl (r_box1 rfl (ev_t rfl) rfl) ?_)
  intro w1 hu1 hB1 hz1
  have hs1 := hu1.size
  replace hU := hU.transA hu1
  refine WL.val rfl rfl rfl rfl (r_assign rfl ev_c) ?_
  refine WL.nil ?_
  refine WX.keep [(1, _)] ⟨rfl, trivial⟩ ?_
  refine WX.next ?_
  refine WC.seq ?_
  refine WC.region ?_
  refine WL.val rfl rfl rfl rfl (r_makeFunc (vs := []) (us := [_]) rfl trivial ⟨(ev_t rfl), trivial⟩) ?_
  refine WL.cons (SO.call (recReady_ok hB1 ht) rfl body_27 ⟨ev_c, (ev_t rfl), trivial⟩ rfl rfl rfl rfl ?_)
  rintro v1 w2 ⟨ho, hu2⟩
  have hs2 := hu2.size
  replace hU := hU.transA hu2
  replace hB1 := hB1.updA hu2
  refine WL.val rfl rfl rfl rfl (r_assign rfl (ev_t rfl)) ?_
  refine WL.nil ?_
  refine WX.keep [(2, _)] ⟨rfl, trivial⟩ ?_
  refine WX.next ?_
  refine WC.ret ?_
  refine WX.retE1 rfl rfl ?_
  exact ⟨ho.mono fun k hk => by simp only [New] at *; omega, hU⟩
set_option maxHeartbeats 1000000 in
theorem entry_ok {w : World} {Hc : Nat → Prop} {i : Nat} {x : En} {cv : Value} (hc : Rd w Hc cv x.cell.length 1 (x.cell.map U8)) (hHc : ∀ k, Hc k → k < w.heap.size) (hi : i < 18446744073709551616) (hx : x.ok) :
    Ret Try.prog 19 #[.int .u64 (i : Int), .agg #[.int .u64 (x.term : Int), .int .u64 (x.ses : Int), .int .u64 (x.num : Int), cv]] w fun u w' => Own w' (New w w') 5 1 u (recB 2 (En.pl i x)).length ((recB 2 (En.pl i x)).map U8) ∧ Upd No w w' := by
  refine enterRet (vs := [_, _]) (N := 7) Try.func19 rfl rfl rfl ?_
  have hU := Upd.refl No w
  refine WC.keep [(0, _), (1, _)] ⟨rfl, rfl, trivial⟩ ?_
  refine WC.seq ?_
  refine WC.region ?_
  refine WL.cons (SO.alloc rfl rfl rfl rfl (r_box1 rfl (ev_t rfl) rfl) ?_)
  intro w1 hu1 hB1 hz1
  have hs1 := hu1.size
  replace hU := hU.transA hu1
  have hA := hB1
  refine WL.cons (SO.alloc rfl rfl rfl rfl (r_boxAgg rfl (ev_t rfl)) ?_)
  intro w2 hu2 hB2 hz2
  have hs2 := hu2.size
  replace hU := hU.transA hu2
  replace hB1 := hB1.updA hu2
  replace hA := hA.upd hu2 (fun h => h)
  refine WL.val rfl rfl rfl rfl (r_assign rfl ev_c) ?_
  refine WL.nil ?_
  refine WX.keep [(2, _), (3, _)] ⟨rfl, rfl, trivial⟩ ?_
  refine WX.next ?_
  refine WC.seq ?_
  refine WC.region ?_
  refine WL.val rfl rfl rfl rfl (r_makeFunc (vs := []) (us := [_, _]) rfl trivial ⟨(ev_t rfl), (ev_t rfl), trivial⟩) ?_
  refine WL.cons (SO.call (recEntry_ok hA hB2 (hc.upd hU (fun _ _ _ h => h)) (fun k hk => by have := hHc k hk; have := hU.size; omega) hi hx) rfl body_27 ⟨ev_c, (ev_t rfl), trivial⟩ rfl rfl rfl rfl ?_)
  rintro v1 w3 ⟨ho, hu3⟩
  have hs3 := hu3.size
  replace hU := hU.transA hu3
  replace hB1 := hB1.updA hu3
  replace hA := hA.upd hu3 (fun h => h)
  replace hB2 := hB2.updA hu3
  refine WL.val rfl rfl rfl rfl (r_assign rfl (ev_t rfl)) ?_
  refine WL.nil ?_
  refine WX.keep [(4, _)] ⟨rfl, trivial⟩ ?_
  refine WX.next ?_
  refine WC.ret ?_
  refine WX.retE1 rfl rfl ?_
  exact ⟨ho.mono fun k hk => by simp only [New] at *; omega, hU⟩
end Go.Proofs.Ytnjfhmlfpfkllaa

/-
  wal: how long the next record is.
-/
namespace Go.Proofs.Ytnjfhmlfpfkllaa
open Go
set_option linter.unusedSimpArgs false
set_option linter.unusedVariables false

/-- how long the next record is, and how many bytes say so -/
def lenR : List UInt8 → Int × Nat
  | [] => (-1, 0)
  | k :: r => if 8 < k.toNat ∨ r.length < k.toNat then (-1, 0)
    else if (uptoR 2097152 (some ((k :: r).take (1 + k.toNat)))).2 = some [] then (((uptoR 2097152 (some ((k :: r).take (1 + k.toNat)))).1 : Nat), 1 + k.toNat) else (-1, 0)

theorem lenR_bad {k : UInt8} {r : List UInt8} (h : 8 < k.toNat ∨ r.length < k.toNat) : lenR (k :: r) = (-1, 0) := by simp only [lenR]; rw [if_pos h]
theorem lenR_neg {k : UInt8} {r : List UInt8} {n : Nat} {s : Option (List UInt8)} (hu : uptoR 2097152 (some ((k :: r).take (1 + k.toNat))) = (n, s)) (hs : s ≠ some []) : lenR (k :: r) = (-1, 0) := by
  simp only [lenR]
  rw [hu]
  split
  · rfl
  · first | rfl | (rw [if_neg hs])
theorem lenR_pos {k : UInt8} {r : List UInt8} {n : Nat} {s : Option (List UInt8)} (h : ¬ (8 < k.toNat ∨ r.length < k.toNat)) (hu : uptoR 2097152 (some ((k :: r).take (1 + k.toNat))) = (n, s)) (hs : s = some []) : lenR (k :: r) = ((n : Int), 1 + k.toNat) := by
  simp only [lenR]
  rw [hu, if_neg h]
  simp only
  rw [if_pos hs]

set_option maxHeartbeats 1000000 in
theorem length_ok {w : World} {F : Nat → Prop} {pv : Value} {p : List UInt8} (hp : Rd w F pv p.length 1 (p.map U8)) :
    Ret Try.prog 34 #[pv] w fun u w' => u = .tuple #[.int .i64 (lenR p).1, .int .i64 ((lenR p).2 : Int)] ∧ Upd No w w' := by
  obtain ⟨F', hp, hFl⟩ : ∃ F' : Nat → Prop, Rd w F' pv p.length 1 (p.map U8) ∧ ∀ k, F' k → k < w.heap.size := ⟨_, hp.bound, fun k hk => hk.2⟩
  obtain ⟨A, c, rfl, hc⟩ := hp.slice_form
  have hm := hp.le
  refine enterRet (vs := [_]) (N := 44) Try.func34 rfl rfl rfl ?_
  have hU := Upd.refl No w
  refine WC.keep [(0, _)] ⟨rfl, trivial⟩ ?_
  refine WC.seq ?_
  refine WC.region ?_
  refine WL.val rfl rfl rfl rfl (r_assign rfl ev_c) ?_
  refine WL.val rfl rfl rfl rfl (r_assign rfl ev_c) ?_
  refine WL.nil ?_
  refine WX.keep [(0, _)] ⟨rfl, trivial⟩ ?_
  refine WX.next ?_
  refine WC.seq ?_
  refine WC.seq ?_
  refine WC.region ?_
  refine WL.val rfl rfl rfl rfl (r_move rfl (ev_t rfl)) ?_
  refine WL.val rfl rfl rfl rfl (r_lenSlice (ts := #[]) rfl (ev_t rfl) elem_22) ?_
  refine WL.val rfl rfl rfl rfl (r_eql rfl (ev_t rfl) ev_c) ?_
  refine WL.val rfl rfl rfl rfl (r_move rfl (ev_t rfl)) ?_
  refine WL.cases 9 rfl (fun hb1_3 => ?_) (fun hb1_3 => ?_)
  · try (exfalso; first | (simp at hb1_3; done) | (simp only [decide_eq_true_eq, decide_eq_false_iff_not, Bool.not_eq_true', Bool.not_eq_false', Bool.not_eq_true, Bool.not_eq_false] at hb1_3; omega) | omega)
    all_goals
     try simp only [decide_eq_true_eq, decide_eq_false_iff_not, Bool.not_eq_true', Bool.not_eq_false', Bool.not_eq_true, Bool.not_eq_false, Option.isNone_none, Option.isNone_some, Option.isSome_none, Option.isSome_some, ne_eq, Decidable.not_not] at hb1_3
     obtain rfl : p = [] := List.eq_nil_of_length_eq_zero (by omega)
     refine WL.skip rfl rfl rfl ?_
     refine WL.skip rfl rfl rfl ?_
     refine WL.skip rfl rfl rfl ?_
     refine WL.skip rfl rfl rfl ?_
     refine WL.val rfl rfl rfl rfl (r_pickT rfl (ev_t rfl) ev_c) ?_
     refine WL.val rfl rfl rfl rfl (r_move rfl (ev_t rfl)) ?_
     refine WL.skip rfl rfl rfl ?_
     refine WL.skip rfl rfl rfl ?_
     refine WL.skip rfl rfl rfl ?_
     refine WL.skip rfl rfl rfl ?_
     refine WL.skip rfl rfl rfl ?_
     refine WL.skip rfl rfl rfl ?_
     refine WL.skip rfl rfl rfl ?_
     refine WL.skip rfl rfl rfl ?_
     refine WL.val rfl rfl rfl rfl (r_pickT rfl (ev_t rfl) ev_c) ?_
     refine WL.nil ?_
     refine WX.keep [(0, _), (24, _)] ⟨rfl, rfl, trivial⟩ ?_
     refine WX.next ?_
     refine WC.cond_true rfl (ev_t rfl) ?_
     refine WC.seq ?_
     refine WC.region ?_
     refine WL.val rfl rfl rfl rfl (r_assign rfl ev_c) ?_
     refine WL.val rfl rfl rfl rfl (r_assign rfl ev_c) ?_
     refine WL.nil ?_
     refine WX.keep [(2, _), (3, _)] ⟨rfl, rfl, trivial⟩ ?_
     refine WX.next ?_
     refine WC.ret ?_
     refine WX.thenRet ?_
     refine WX.retE2 rfl rfl rfl ?_
     first
       | exact ⟨rfl, hU⟩
       | exact ⟨by rw [lenR_bad (by omega)]; rfl, hU⟩
  · try (exfalso; first | (simp at hb1_3; done) | (simp only [decide_eq_true_eq, decide_eq_false_iff_not, Bool.not_eq_true', Bool.not_eq_false', Bool.not_eq_true, Bool.not_eq_false] at hb1_3; omega) | omega)
    all_goals
     try simp only [decide_eq_true_eq, decide_eq_false_iff_not, Bool.not_eq_true', Bool.not_eq_false', Bool.not_eq_true, Bool.not_eq_false, Option.isNone_none, Option.isNone_some, Option.isSome_none, Option.isSome_some, ne_eq, Decidable.not_not] at hb1_3
     obtain ⟨k, r, rfl⟩ : ∃ k r, p = k :: r := by cases p with | nil => simp at * | cons k r => exact ⟨k, r, rfl⟩
     have hkl : (k :: r).length = r.length + 1 := List.length_cons
     have hkt := k.toNat_lt
     obtain ⟨b, off, rfl, _⟩ := hp.open (by simp)
     refine WL.val rfl rfl rfl rfl (r_move rfl (ev_t rfl)) ?_
     refine WL.val rfl rfl rfl rfl (r_indexAddr rfl (ev_t rfl) ev_c elem_22 size_5 (by omega) (by omega)) ?_
     refine WL.val rfl rfl rfl rfl (r_load rfl (ev_t rfl) flat_5 (Rd.cell (hp.upd hU (fun _ _ _ h => h)) (j := 0) (u := U8 k) (by simp) rfl)) ?_
     refine WL.val rfl rfl rfl rfl (r_gtr rfl (ev_t rfl) ev_c) ?_
     refine WL.val rfl rfl rfl rfl (r_pickF rfl (ev_t rfl) (ev_t rfl)) ?_
     refine WL.val rfl rfl rfl rfl (r_move rfl (ev_t rfl)) ?_
     refine WL.cases 15 rfl (fun hb1_9 => ?_) (fun hb1_9 => ?_)
     · try (exfalso; first | (simp at hb1_9; done) | (simp only [decide_eq_true_eq, decide_eq_false_iff_not, Bool.not_eq_true', Bool.not_eq_false', Bool.not_eq_true, Bool.not_eq_false] at hb1_9; omega) | omega)
       all_goals
        try simp only [decide_eq_true_eq, decide_eq_false_iff_not, Bool.not_eq_true', Bool.not_eq_false', Bool.not_eq_true, Bool.not_eq_false, Option.isNone_none, Option.isNone_some, Option.isSome_none, Option.isSome_some, ne_eq, Decidable.not_not] at hb1_9
        refine WL.skip rfl rfl rfl ?_
        refine WL.skip rfl rfl rfl ?_
        refine WL.skip rfl rfl rfl ?_
        refine WL.skip rfl rfl rfl ?_
        refine WL.skip rfl rfl rfl ?_
        refine WL.skip rfl rfl rfl ?_
        refine WL.skip rfl rfl rfl ?_
        refine WL.skip rfl rfl rfl ?_
        refine WL.val rfl rfl rfl rfl (r_pickT rfl (ev_t rfl) ev_c) ?_
        refine WL.nil ?_
        refine WX.keep [(0, _), (24, _)] ⟨rfl, rfl, trivial⟩ ?_
        refine WX.next ?_
        refine WC.cond_true rfl (ev_t rfl) ?_
        refine WC.seq ?_
        refine WC.region ?_
        refine WL.val rfl rfl rfl rfl (r_assign rfl ev_c) ?_
        refine WL.val rfl rfl rfl rfl (r_assign rfl ev_c) ?_
        refine WL.nil ?_
        refine WX.keep [(2, _), (3, _)] ⟨rfl, rfl, trivial⟩ ?_
        refine WX.next ?_
        refine WC.ret ?_
        refine WX.thenRet ?_
        refine WX.retE2 rfl rfl rfl ?_
        first
          | exact ⟨rfl, hU⟩
          | exact ⟨by rw [lenR_bad (by omega)]; rfl, hU⟩
     · try (exfalso; first | (simp at hb1_9; done) | (simp only [decide_eq_true_eq, decide_eq_false_iff_not, Bool.not_eq_true', Bool.not_eq_false', Bool.not_eq_true, Bool.not_eq_false] at hb1_9; omega) | omega)
       all_goals
        try simp only [decide_eq_true_eq, decide_eq_false_iff_not, Bool.not_eq_true', Bool.not_eq_false', Bool.not_eq_true, Bool.not_eq_false, Option.isNone_none, Option.isNone_some, Option.isSome_none, Option.isSome_some, ne_eq, Decidable.not_not] at hb1_9
        refine WL.val rfl rfl rfl rfl (r_move rfl (ev_t rfl)) ?_
        refine WL.val rfl rfl rfl rfl (r_lenSlice (ts := #[]) rfl (ev_t rfl) elem_22) ?_
        refine WL.val rfl rfl rfl rfl (r_move rfl (ev_t rfl)) ?_
        refine WL.val rfl rfl rfl rfl (r_indexAddr rfl (ev_t rfl) ev_c elem_22 size_5 (by omega) (by omega)) ?_
        refine WL.val rfl rfl rfl rfl (r_load rfl (ev_t rfl) flat_5 (Rd.cell (hp.upd hU (fun _ _ _ h => h)) (j := 0) (u := U8 k) (by simp) rfl)) ?_
        first | refine WL.val rfl rfl rfl rfl (r_convN rfl (ev_t rfl) some_5 int_3 (by simp only [inK]; omega)) ?_ | refine WL.val rfl rfl rfl rfl (r_conv rfl (ev_t rfl) some_5 int_3) ?_
        first | refine WL.val rfl rfl rfl rfl (r_addN rfl ev_c (ev_t rfl) (by simp only [inK]; omega)) ?_ | refine WL.val rfl rfl rfl rfl (r_add rfl ev_c (ev_t rfl)) ?_
        refine WL.val rfl rfl rfl rfl (r_lss rfl (ev_t rfl) (ev_t rfl)) ?_
        refine WL.val rfl rfl rfl rfl (r_pickF rfl (ev_t rfl) (ev_t rfl)) ?_
        refine WL.nil ?_
        refine WX.keep [(0, _), (24, _)] ⟨rfl, rfl, trivial⟩ ?_
        refine WX.next ?_
        refine WC.cond rfl (ev_t rfl) (fun hc1 => ?_) (fun hc1 => ?_)
        · try (exfalso; first | (simp at hc1; done) | (simp only [decide_eq_true_eq, decide_eq_false_iff_not, Bool.not_eq_true', Bool.not_eq_false', Bool.not_eq_true, Bool.not_eq_false] at hc1; omega) | omega)
          all_goals
           try simp only [decide_eq_true_eq, decide_eq_false_iff_not, Bool.not_eq_true', Bool.not_eq_false', Bool.not_eq_true, Bool.not_eq_false, Option.isNone_none, Option.isNone_some, Option.isSome_none, Option.isSome_some, ne_eq, Decidable.not_not] at hc1
           refine WC.seq ?_
           refine WC.region ?_
           refine WL.val rfl rfl rfl rfl (r_assign rfl ev_c) ?_
           refine WL.val rfl rfl rfl rfl (r_assign rfl ev_c) ?_
           refine WL.nil ?_
           refine WX.keep [(2, _), (3, _)] ⟨rfl, rfl, trivial⟩ ?_
           refine WX.next ?_
           refine WC.ret ?_
           refine WX.thenRet ?_
           refine WX.retE2 rfl rfl rfl ?_
           first
             | exact ⟨rfl, hU⟩
             | exact ⟨by rw [lenR_bad (by omega)]; rfl, hU⟩
        · try (exfalso; first | (simp at hc1; done) | (simp only [decide_eq_true_eq, decide_eq_false_iff_not, Bool.not_eq_true', Bool.not_eq_false', Bool.not_eq_true, Bool.not_eq_false] at hc1; omega) | omega)
          all_goals
           try simp only [decide_eq_true_eq, decide_eq_false_iff_not, Bool.not_eq_true', Bool.not_eq_false', Bool.not_eq_true, Bool.not_eq_false, Option.isNone_none, Option.isNone_some, Option.isSome_none, Option.isSome_some, ne_eq, Decidable.not_not] at hc1
           refine WC.skip ?_
           refine WX.next ?_
           refine WC.seq ?_
           refine WC.region ?_
           refine WL.val rfl rfl rfl rfl (r_move rfl (ev_t rfl)) ?_
           refine WL.val rfl rfl rfl rfl (r_move rfl (ev_t rfl)) ?_
           refine WL.val rfl rfl rfl rfl (r_indexAddr rfl (ev_t rfl) ev_c elem_22 size_5 (by omega) (by omega)) ?_
           refine WL.val rfl rfl rfl rfl (r_load rfl (ev_t rfl) flat_5 (Rd.cell (hp.upd hU (fun _ _ _ h => h)) (j := 0) (u := U8 k) (by simp) rfl)) ?_
           first | refine WL.val rfl rfl rfl rfl (r_convN rfl (ev_t rfl) some_5 int_3 (by simp only [inK]; omega)) ?_ | refine WL.val rfl rfl rfl rfl (r_conv rfl (ev_t rfl) some_5 int_3) ?_
           first | refine WL.val rfl rfl rfl rfl (r_addN rfl ev_c (ev_t rfl) (by simp only [inK]; omega)) ?_ | refine WL.val rfl rfl rfl rfl (r_add rfl ev_c (ev_t rfl)) ?_
           refine WL.val rfl rfl rfl rfl (r_slice (l := 0) (h := 1 + k.toNat) rfl (ev_t rfl) elem_22 size_5 bnd_none (bnd_some (ev_t rfl) (by omega)) (by omega) (by omega) (by omega)) ?_
           have hsl := Rd.sliceB (lo := 0) (h := 1 + k.toNat) (hp.upd hU (fun _ _ _ h => h)) (by omega) (by simp only [List.length_cons]; omega)
           rw [List.drop_zero, Nat.sub_zero] at hsl
           obtain ⟨n, s, hns⟩ : ∃ n s, uptoR 2097152 (some ((k :: r).take (1 + k.toNat))) = (n, s) := ⟨_, _, rfl⟩
           refine WL.cons (SO.call (newReader_ok hsl) rfl body_41 ⟨(ev_t rfl), trivial⟩ rfl rfl rfl rfl ?_)
           rintro v w1 ⟨rfl, hR, hu1⟩
           obtain ⟨g, hg⟩ : ∃ g, g = w.heap.size := ⟨_, rfl⟩
           rw [← hg] at hR ⊢
           have hs3 := hU.size
           have hs1 := hu1.size
           replace hU := hU.trans hu1 (by first | exact (fun _ _ h => h) | exact (fun _ _ h => h.elim) | (intro k hl hk; (try simp only [At, New, Grow, From, No] at hk ⊢); omega) | (intro k hl hk; simp only [At, No] at *; omega))
           refine WL.val rfl rfl rfl rfl (r_assign rfl (ev_t rfl)) ?_
           refine WL.nil ?_
           refine WX.keep [(0, _), (4, _)] ⟨rfl, rfl, trivial⟩ ?_
           refine WX.next ?_
           refine WC.seq ?_
           refine WC.region ?_
           refine WL.val rfl rfl rfl rfl (r_move rfl (ev_t rfl)) ?_
           refine WL.cons (SO.call (upto_ok hR (fun h => by have := hFl _ h; omega) (by simp only [inK]; omega) hns) rfl body_42 ⟨(ev_t rfl), ev_c, trivial⟩ rfl rfl rfl rfl ?_)
           rintro v w2 ⟨rfl, hR, hu2⟩
           have hs2 := hu2.size
           replace hU := hU.trans hu2 (by first | exact (fun _ _ h => h) | exact (fun _ _ h => h.elim) | (intro k hl hk; (try simp only [At, New, Grow, From, No] at hk ⊢); omega) | (intro k hl hk; simp only [At, No] at *; omega))
           refine WL.val rfl rfl rfl rfl (r_assign rfl (ev_t rfl)) ?_
           refine WL.nil ?_
           refine WX.keep [(0, _), (4, _), (5, _)] ⟨rfl, rfl, rfl, trivial⟩ ?_
           refine WX.next ?_
           refine WC.seq ?_
           refine WC.seq ?_
           refine WC.region ?_
           refine WL.val rfl rfl rfl rfl (r_move rfl (ev_t rfl)) ?_
           refine WL.cons (SO.call (end_ok hR) rfl body_43 ⟨(ev_t rfl), trivial⟩ rfl rfl rfl rfl ?_)
           rintro v w3 ⟨rfl, he⟩
           obtain rfl := he.symm
           refine WL.val rfl rfl rfl rfl (r_not rfl (ev_t rfl)) ?_
           refine WL.nil ?_
           refine WX.keep [(0, _), (5, _), (37, _)] ⟨rfl, rfl, rfl, trivial⟩ ?_
           refine WX.next ?_
           refine WC.cond rfl (ev_t rfl) (fun hc5 => ?_) (fun hc5 => ?_)
           · try (exfalso; first | (simp at hc5; done) | (simp only [decide_eq_true_eq, decide_eq_false_iff_not, Bool.not_eq_true', Bool.not_eq_false', Bool.not_eq_true, Bool.not_eq_false] at hc5; omega) | omega)
             all_goals
              try simp only [decide_eq_true_eq, decide_eq_false_iff_not, Bool.not_eq_true', Bool.not_eq_false', Bool.not_eq_true, Bool.not_eq_false, Option.isNone_none, Option.isNone_some, Option.isSome_none, Option.isSome_some, ne_eq, Decidable.not_not] at hc5
              refine WC.seq ?_
              refine WC.region ?_
              refine WL.val rfl rfl rfl rfl (r_assign rfl ev_c) ?_
              refine WL.val rfl rfl rfl rfl (r_assign rfl ev_c) ?_
              refine WL.nil ?_
              refine WX.keep [(2, _), (3, _)] ⟨rfl, rfl, trivial⟩ ?_
              refine WX.next ?_
              refine WC.ret ?_
              refine WX.thenRet ?_
              refine WX.retE2 rfl rfl rfl ?_
              exact ⟨by rw [lenR_neg hns (by intro h; simp_all)]; rfl, hU⟩
           · try (exfalso; first | (simp at hc5; done) | (simp only [decide_eq_true_eq, decide_eq_false_iff_not, Bool.not_eq_true', Bool.not_eq_false', Bool.not_eq_true, Bool.not_eq_false] at hc5; omega) | omega)
             all_goals
              try simp only [decide_eq_true_eq, decide_eq_false_iff_not, Bool.not_eq_true', Bool.not_eq_false', Bool.not_eq_true, Bool.not_eq_false, Option.isNone_none, Option.isNone_some, Option.isSome_none, Option.isSome_some, ne_eq, Decidable.not_not] at hc5
              refine WC.skip ?_
              refine WX.next ?_
              refine WC.seq ?_
              refine WC.draws' (fun u0_ u1_ => Upd No u0_ u1_) (fun j => [0, 0, 0, 2, 0, 0, 0, 0].getD j 0) (.calm 0 (.calm 1 (.calm 2 (.calm 6 (.one 3 (.calm 4 (.calm 5 (.calm 7 (.done))))))))) mixed (by kernel_rfl) (by repeat (first | with_reducible exact Deaf.body | with_reducible apply Deaf.then | with_reducible apply Deaf.block)) ?_
              intro w4 hu4
              have hz4 := congrArg Array.size hu4.2.2.2
              replace hu4 := Upd.of_draw hu4
              have hs4 := hu4.size
              replace hU := hU.trans hu4 (by first | exact (fun _ _ h => h) | exact (fun _ _ h => h.elim) | (intro k hl hk; (try simp only [At, New, Grow, From, No] at hk ⊢); omega) | (intro k hl hk; simp only [At, No] at *; omega))
              replace hR := hR.upd hu4 (by first | exact (fun h => h) | (simp only [At, No]; omega)) (by first | exact (fun _ _ _ h => h) | (intro k hk hl hS; have := hFl k hk; simp only [At, No] at hS; omega))
              refine WN.calm _ rfl rfl rfl rfl rfl (fun _ => r_move rfl (ev_t rfl)) ?_
              refine WN.calm _ rfl rfl rfl rfl rfl (fun _ => r_move rfl (ev_t rfl)) ?_
              refine WN.calm _ rfl rfl rfl rfl rfl (fun _ => r_indexAddr rfl (ev_t rfl) ev_c elem_22 size_5 (by omega) (by omega)) ?_
              refine WN.calm _ rfl rfl rfl rfl rfl (fun _ => r_assign rfl (ev_t rfl)) ?_
              refine WN.step _ rfl (SO.val rfl rfl rfl rfl (r_load rfl (ev_t rfl) flat_5 (Rd.cell (hp.upd hU (fun _ _ _ h => h)) (j := 0) (u := U8 k) (by simp) rfl)) ?_)
              refine ⟨trivial, ?_⟩
              first | refine WN.calm _ rfl rfl rfl rfl rfl (fun _ => r_convN rfl (ev_t rfl) some_5 int_3 (by simp only [inK]; omega)) ?_ | refine WN.calm _ rfl rfl rfl rfl rfl (fun _ => r_conv rfl (ev_t rfl) some_5 int_3) ?_
              first | refine WN.calm _ rfl rfl rfl rfl rfl (fun _ => r_addN rfl ev_c (ev_t rfl) (by simp only [inK]; omega)) ?_ | refine WN.calm _ rfl rfl rfl rfl rfl (fun _ => r_add rfl ev_c (ev_t rfl)) ?_
              refine WN.calm _ rfl rfl rfl rfl rfl (fun _ => r_assign rfl (ev_t rfl)) ?_
              refine WN.done ?_
              refine WX.keep [(2, _), (3, _)] ⟨rfl, rfl, trivial⟩ ?_
              refine WX.next ?_
              refine WC.ret ?_
              refine WX.retE2 rfl rfl rfl ?_
              refine ⟨?_, hU⟩
              rw [lenR_pos (by omega) hns (by simpa using hc5)]
              simp [tupleOf]
end Go.Proofs.Ytnjfhmlfpfkllaa

/-
  wal: entries in memory; a slice of nil up to nothing.
-/
namespace Go.Proofs.Ytnjfhmlfpfkllaa
open Go
set_option linter.unusedSimpArgs false
set_option linter.unusedVariables false

structure EnV where
  x : En
  v : Value
def EnV.cells (r : EnV) : List Value := [.int .u64 (r.x.term : Int), .int .u64 (r.x.ses : Int), .int .u64 (r.x.num : Int), r.v]
theorem EnV.cells_len (r : EnV) : r.cells.length = 4 := rfl
theorem EnV.flat_len : ∀ V : List EnV, (V.flatMap EnV.cells).length = V.length * 4
  | [] => rfl
  | r :: V => by rw [List.flatMap_cons, List.length_append, EnV.flat_len V, EnV.cells_len, List.length_cons]; omega
theorem EnV.flat_get : ∀ {V : List EnV} {i j : Nat} {r : EnV} {u : Value}, V[i]? = some r → r.cells[j]? = some u → (V.flatMap EnV.cells)[i * 4 + j]? = some u
  | [], _, _, _, _, h, _ => by simp at h
  | a :: V, 0, j, r, u, h, hu => by
    simp only [List.getElem?_cons_zero, Option.some.injEq] at h
    subst h
    have hj : j < a.cells.length := (List.getElem?_eq_some_iff.1 hu).1
    rw [List.flatMap_cons, Nat.zero_mul, Nat.zero_add, List.getElem?_append_left hj]
    exact hu
  | a :: V, i + 1, j, r, u, h, hu => by
    rw [List.flatMap_cons, List.getElem?_append_right (by rw [EnV.cells_len]; omega), EnV.cells_len, show (i + 1) * 4 + j - 4 = i * 4 + j by omega]
    exact EnV.flat_get (i := i) (by simpa using h) hu
theorem EnV.flat_take : ∀ (V : List EnV) (k : Nat), (V.flatMap EnV.cells).take (k * 4) = (V.take k).flatMap EnV.cells
  | [], k => by simp
  | a :: V, 0 => by simp
  | a :: V, k + 1 => by
    rw [List.flatMap_cons, List.take_succ_cons, List.flatMap_cons, ← EnV.flat_take V k, show (k + 1) * 4 = a.cells.length + k * 4 by rw [EnV.cells_len]; omega, List.take_length_add_append]
theorem EnV.cells_one {V : List EnV} {w : World} {F : Nat → Prop} (h : ∀ r ∈ V, Rd w F r.v r.x.cell.length 1 (r.x.cell.map U8)) : ∀ u ∈ V.flatMap EnV.cells, u.oneCell' = true := by
  intro u hu
  rw [List.mem_flatMap] at hu
  obtain ⟨r, hr, hu⟩ := hu
  obtain ⟨A, c, hv, _⟩ := (h r hr).slice_form
  simp only [EnV.cells, hv] at hu
  simp only [List.mem_cons, List.not_mem_nil, or_false] at hu
  rcases hu with rfl | rfl | rfl | rfl <;> rfl
theorem EnV.one {w : World} {F : Nat → Prop} {r : EnV} (h : Rd w F r.v r.x.cell.length 1 (r.x.cell.map U8)) : ∀ u ∈ r.cells, u.oneCell' = true := by
  intro u hu
  obtain ⟨A, c, hv, _⟩ := h.slice_form
  simp only [EnV.cells, hv] at hu
  simp only [List.mem_cons, List.not_mem_nil, or_false] at hu
  rcases hu with rfl | rfl | rfl | rfl <;> rfl

/-- entries that can be read -/
def Ents (w : World) (F : Nat → Prop) (v : Value) (L : List En) : Prop := ∃ V : List EnV, V.map EnV.x = L ∧ Rd w F v V.length 4 (V.flatMap EnV.cells) ∧ ∀ r ∈ V, Rd w F r.v r.x.cell.length 1 (r.x.cell.map U8)
theorem Ents.upd {w w' : World} {F S : Nat → Prop} {v : Value} {L : List En} (h : Ents w F v L) (hu : Upd S w w') (hn : ∀ k, F k → k < w.heap.size → ¬ S k) : Ents w' F v L := by
  obtain ⟨V, h1, h2, h3⟩ := h
  exact ⟨V, h1, h2.upd hu hn, fun r hr => (h3 r hr).upd hu hn⟩
theorem Ents.mono {w : World} {F F' : Nat → Prop} {v : Value} {L : List En} (h : Ents w F v L) (hF : ∀ k, F k → F' k) : Ents w F' v L := by
  obtain ⟨V, h1, h2, h3⟩ := h
  exact ⟨V, h1, h2.mono hF, fun r hr => (h3 r hr).mono hF⟩
theorem Ents.bound {w : World} {F : Nat → Prop} {v : Value} {L : List En} (h : Ents w F v L) : Ents w (fun k => F k ∧ k < w.heap.size) v L := by
  obtain ⟨V, h1, h2, h3⟩ := h
  exact ⟨V, h1, h2.bound, fun r hr => (h3 r hr).bound⟩
theorem Ents.nil (w : World) (F : Nat → Prop) : Ents w F (.slice none 0 0) [] := ⟨[], rfl, Rd.nil _ _ _, fun r h => by cases h⟩
theorem Ents.form {w : World} {F : Nat → Prop} {v : Value} {L : List En} (h : Ents w F v L) : ∃ A c, v = .slice A L.length c ∧ L.length ≤ c := by
  obtain ⟨V, rfl, h2, h3⟩ := h
  obtain ⟨A, c, h4, h5⟩ := h2.slice_form
  exact ⟨A, c, by rw [List.length_map]; exact h4, by rw [List.length_map]; exact h5⟩

/-- entries of an own row -/
def OEnts (w : World) (F : Nat → Prop) (v : Value) (L : List En) : Prop := ∃ (V : List EnV) (G H : Nat → Prop), V.map EnV.x = L ∧ Own w G 33 4 v V.length (V.flatMap EnV.cells) ∧ (∀ r ∈ V, Rd w H r.v r.x.cell.length 1 (r.x.cell.map U8)) ∧
  (∀ k, G k → F k ∧ k < w.heap.size) ∧ ∀ k, H k → F k ∧ ¬ G k ∧ k < w.heap.size
theorem OEnts.upd {w w' : World} {F S : Nat → Prop} {v : Value} {L : List En} (h : OEnts w F v L) (hu : Upd S w w') (hn : ∀ k, F k → k < w.heap.size → ¬ S k) : OEnts w' F v L := by
  obtain ⟨V, G, H, h1, h2, h3, h4, h5⟩ := h
  refine ⟨V, G, H, h1, h2.upd hu (fun k hk hl => hn k (h4 k hk).1 hl), fun r hr => (h3 r hr).upd hu (fun k hk hl => hn k (h5 k hk).1 hl), fun k hk => ?_, fun k hk => ?_⟩
  · have := h4 k hk; exact ⟨this.1, Nat.lt_of_lt_of_le this.2 hu.size⟩
  · have := h5 k hk; exact ⟨this.1, this.2.1, Nat.lt_of_lt_of_le this.2.2 hu.size⟩
theorem OEnts.mono {w : World} {F F' : Nat → Prop} {v : Value} {L : List En} (h : OEnts w F v L) (hF : ∀ k, F k → k < w.heap.size → F' k) : OEnts w F' v L := by
  obtain ⟨V, G, H, h1, h2, h3, h4, h5⟩ := h
  exact ⟨V, G, H, h1, h2, h3, fun k hk => ⟨hF k (h4 k hk).1 (h4 k hk).2, (h4 k hk).2⟩, fun k hk => ⟨hF k (h5 k hk).1 (h5 k hk).2.2, (h5 k hk).2⟩⟩
theorem OEnts.nil (w : World) (F : Nat → Prop) : OEnts w F (.slice none 0 0) [] := ⟨[], fun _ => False, fun _ => False, rfl, Own.nil _ _ _ _, (fun r h => by cases h), (fun k h => h.elim), (fun k h => h.elim)⟩
theorem OEnts.rd {w : World} {F : Nat → Prop} {v : Value} {L : List En} (h : OEnts w F v L) (hl : L.length ≤ 1000000) : Ents w F v L := by
  obtain ⟨V, G, H, h1, h2, h3, h4, h5⟩ := h
  have hl2 : V.length ≤ 1000000 := by rw [← h1, List.length_map] at hl; exact hl
  exact ⟨V, h1, (h2.rd (by omega)).mono fun k hk => (h4 k hk).1, fun r hr => (h3 r hr).mono fun k hk => (h5 k hk).1⟩
theorem OEnts.form {w : World} {F : Nat → Prop} {v : Value} {L : List En} (h : OEnts w F v L) : ∃ A c, v = .slice A L.length c ∧ L.length ≤ c := by
  obtain ⟨V, G, H, rfl, h2, h3⟩ := h
  obtain ⟨A, c, h4, h5⟩ := h2.form
  exact ⟨A, c, by rw [List.length_map]; exact h4, by rw [List.length_map]; exact h5⟩

section
variable {P : Program} {ρ : Operand → Value} {o : Oper} {w : World} {x : Operand} {t : TypeId} {k k' : IntKind} {a b : Int}
theorem r_slice3nil {e : TypeId} {n c sz : Nat} {y z : Operand} (ho : o.op = .slice t x none (some y) (some z)) (hx : ρ x = .slice none n c) (hy : ρ y = .int k a) (ha : a = 0) (hz : ρ z = .int k' b) (hb : b = 0) (hu : sliceElem P t = some e) (hs : sizeIs P e sz = true) :
    (execOp ρ o).run P w = .ok (.value (.slice none 0 0)) w := by
  subst ha hb
  unfold sliceElem at hu
  cases hd : P.underlying t with
  | none => simp [hd] at hu
  | some d =>
    rw [hd] at hu
    cases d <;> simp at hu
    subst hu
    have hsz := run_sizeOf (P := P) (w := w) hs
    have h0 : ((0 : Nat) : Int) = 0 := rfl
    simp [execOp, ho, hx, hy, hz, Instr.sliceAt, Instr.slice, run_underlying hd, Instr.sliceBounds, hsz, run_sliceBound_in h0.symm (Nat.zero_le _), run_sliceBound_in (r := 0) rfl (Nat.le_refl 0)]
end
end Go.Proofs.Ytnjfhmlfpfkllaa

/-
  octet: the bytes of numbers order as the numbers do; no program in sight.
-/
namespace Go.Proofs.Ytnjfhmlfpfkllaa
open Go
set_option linter.unusedSimpArgs false
set_option linter.unusedVariables false

theorem lt_pow_blen (n : Nat) : n < 256 ^ blen n := by
  have h := lt_blen (blen n) n
  have hp : 0 < 256 ^ blen n := Nat.pow_pos (by omega)
  rcases Nat.lt_or_ge n (256 ^ blen n) with h1 | h1
  · exact h1
  · have := Nat.div_pos h1 hp
    omega
theorem pow_blen_le {n : Nat} (h : 0 < blen n) : 256 ^ (blen n - 1) ≤ n := by
  have h1 := (lt_blen (blen n - 1) n).1 (by omega)
  have hp : 0 < 256 ^ (blen n - 1) := Nat.pow_pos (by omega)
  rcases Nat.lt_or_ge n (256 ^ (blen n - 1)) with h2 | h2
  · rw [Nat.div_eq_of_lt h2] at h1
    omega
  · exact h2
theorem lt_of_blen {a b : Nat} (h : blen a < blen b) : a < b := by
  have h1 := lt_pow_blen a
  have h2 := pow_blen_le (n := b) (by omega)
  have h3 : 256 ^ blen a ≤ 256 ^ (blen b - 1) := Nat.pow_le_pow_right (by omega) (by omega)
  omega

theorem ofNat_lt {u v : Nat} (hu : u < 256) (hv : v < 256) : decide (UInt8.ofNat u < UInt8.ofNat v) = decide (u < v) := by
  have h1 : UInt8.ofNat u < UInt8.ofNat v ↔ u < v := by
    rw [UInt8.lt_iff_toNat_lt, UInt8.toNat_ofNat', UInt8.toNat_ofNat', Nat.mod_eq_of_lt hu, Nat.mod_eq_of_lt hv]
  exact decide_eq_decide.2 h1
theorem ofNat_beq {u v : Nat} (hu : u < 256) (hv : v < 256) : (UInt8.ofNat u == UInt8.ofNat v) = decide (u = v) := by
  rw [Bool.eq_iff_iff, beq_iff_eq, decide_eq_true_eq, ← UInt8.toNat_inj, UInt8.toNat_ofNat', UInt8.toNat_ofNat', Nat.mod_eq_of_lt hu, Nat.mod_eq_of_lt hv]

theorem less_cons (u v : Nat) (hu : u < 256) (hv : v < 256) (x y : List UInt8) : Op.bytesLess (UInt8.ofNat u :: x) (UInt8.ofNat v :: y) = (decide (u < v) || (decide (u = v) && Op.bytesLess x y)) := by
  rw [Op.bytesLess, ofNat_lt hu hv, ofNat_beq hu hv]

theorem less_beB (a b : Nat) : ∀ k, Op.bytesLess (beB a k) (beB b k) = decide (a % 256 ^ k < b % 256 ^ k)
  | 0 => by simp [beB, Op.bytesLess, Nat.mod_one]
  | k + 1 => by
    have hp : 0 < 256 ^ k := Nat.pow_pos (by omega)
    have h1 := Nat.mod_lt a hp
    have h2 := Nat.mod_lt b hp
    have h3 := Nat.mod_lt (a / 256 ^ k) (y := 256) (by omega)
    have h4 := Nat.mod_lt (b / 256 ^ k) (y := 256) (by omega)
    unfold beB byteAt
    rw [less_cons _ _ h3 h4, less_beB a b k, Nat.mod_pow_succ, Nat.mod_pow_succ]
    generalize a / 256 ^ k % 256 = u at *
    generalize b / 256 ^ k % 256 = v at *
    generalize a % 256 ^ k = r at *
    generalize b % 256 ^ k = s at *
    generalize 256 ^ k = p at *
    rcases Nat.lt_trichotomy u v with h | h | h
    · have h5 : p * (u + 1) ≤ p * v := Nat.mul_le_mul_left _ h
      rw [Nat.mul_add, Nat.mul_one] at h5
      rw [decide_eq_true h, Bool.true_or, decide_eq_true (by omega)]
    · subst h
      rw [decide_eq_false (by omega), decide_eq_true rfl, Bool.false_or, Bool.true_and]
      exact decide_eq_decide.2 (by omega)
    · have h5 : p * (v + 1) ≤ p * u := Nat.mul_le_mul_left _ h
      rw [Nat.mul_add, Nat.mul_one] at h5
      rw [decide_eq_false (by omega), decide_eq_false (by omega : ¬ u = v), Bool.false_and, Bool.false_or, decide_eq_false (by omega)]

theorem less_encU {a b : Nat} (ha : a < 18446744073709551616) (hb : b < 18446744073709551616) : Op.bytesLess (encU a) (encU b) = decide (a < b) := by
  have la : blen a ≤ 8 := blen_le (by simpa using ha)
  have lb : blen b ≤ 8 := blen_le (by simpa using hb)
  unfold encU
  rw [less_cons _ _ (by omega) (by omega)]
  rcases Nat.lt_trichotomy (blen a) (blen b) with h | h | h
  · have := lt_of_blen h
    rw [decide_eq_true h, decide_eq_true this]
    rfl
  · rw [h, decide_eq_false (by omega), decide_eq_true rfl, less_beB, Bool.false_or, Bool.true_and]
    have h1 := lt_pow_blen a
    have h2 := lt_pow_blen b
    rw [h] at h1
    rw [Nat.mod_eq_of_lt h1, Nat.mod_eq_of_lt h2]
  · have := lt_of_blen h
    rw [decide_eq_false (by omega), decide_eq_false (by omega : ¬ blen a = blen b), decide_eq_false (by omega)]
    rfl
end Go.Proofs.Ytnjfhmlfpfkllaa

/-
  A number's bytes, and back; no program in sight.
-/
namespace Go.Proofs.Ytnjfhmlfpfkllaa
open Go
set_option linter.unusedSimpArgs false
set_option linter.unusedVariables false

theorem beN_foldl (l : List UInt8) : ∀ n, l.foldl (fun n (b : UInt8) => n * 256 + b.toNat) n = n * 256 ^ l.length + beN l := by
  induction l with
  | nil => intro n; simp [beN]
  | cons b l ih =>
    intro n
    have h := ih b.toNat
    unfold beN
    rw [List.foldl_cons, List.foldl_cons, ih, Nat.zero_mul, Nat.zero_add, h, List.length_cons, Nat.pow_succ, Nat.mul_comm (256 ^ l.length) 256, ← Nat.mul_assoc, Nat.add_mul]
    omega
theorem beN_cons (b : UInt8) (l : List UInt8) : beN (b :: l) = b.toNat * 256 ^ l.length + beN l := by
  have h := beN_foldl l b.toNat
  unfold beN
  rw [List.foldl_cons, Nat.zero_mul, Nat.zero_add]
  exact h

theorem byteAt_low {b y k i : Nat} (h : i < k) : byteAt (b * 256 ^ k + y) i = byteAt y i := by
  unfold byteAt
  obtain ⟨d, rfl⟩ : ∃ d, k = i + (d + 1) := ⟨k - i - 1, by omega⟩
  have h1 : b * 256 ^ (i + (d + 1)) + y = y + 256 ^ i * (256 * (b * 256 ^ d)) := by
    rw [Nat.pow_add, Nat.pow_succ]
    have : b * (256 ^ i * (256 ^ d * 256)) = 256 ^ i * (256 * (b * 256 ^ d)) := by
      rw [Nat.mul_left_comm, Nat.mul_comm (256 ^ d) 256, Nat.mul_left_comm b]
    omega
  rw [h1, Nat.add_mul_div_left _ _ (Nat.pow_pos (by omega)), Nat.add_mul_mod_self_left]

theorem beB_low {b y k : Nat} : ∀ {i}, i ≤ k → beB (b * 256 ^ k + y) i = beB y i
  | 0, _ => rfl
  | i + 1, h => by rw [beB, beB, byteAt_low (by omega), beB_low (by omega)]

theorem beB_beN : ∀ l : List UInt8, beB (beN l) l.length = l
  | [] => rfl
  | b :: l => by
    have hb := b.toNat_lt
    rw [List.length_cons, beB, beN_cons, beB_low (Nat.le_refl _), beB_beN l]
    congr 1
    unfold byteAt
    rw [Nat.mul_comm, Nat.mul_add_div (Nat.pow_pos (by omega)), Nat.div_eq_of_lt (beN_lt l), Nat.add_zero, Nat.mod_eq_of_lt (by omega)]
    simp

theorem blen_beN {b : UInt8} {l : List UInt8} (h : b ≠ 0) : blen (beN (b :: l)) = l.length + 1 := by
  have h1 : blen (beN (b :: l)) ≤ l.length + 1 := blen_le (beN_lt (b :: l))
  have hb : b.toNat ≠ 0 := fun e => h (UInt8.toNat_inj.1 e)
  have h2 : 256 ^ l.length ≤ beN (b :: l) := by
    rw [beN_cons]
    have : 1 * 256 ^ l.length ≤ b.toNat * 256 ^ l.length := Nat.mul_le_mul_right _ (by omega)
    omega
  have h3 : l.length < blen (beN (b :: l)) := (lt_blen _ _).2 (Nat.div_pos h2 (Nat.pow_pos (by omega)))
  omega

theorem encU_beN {l : List UInt8} (hl : l.length ≤ 8) : encU (beN l) = UInt8.ofNat l.length :: l ↔ (l.length = 0 ∨ l.head? ≠ some 0) := by
  cases l with
  | nil => simp [encU, beN, blen_zero, beB]
  | cons b l =>
    by_cases h : b = 0
    · subst h
      have h1 : beN (0 :: l) = beN l := by rw [beN_cons]; simp
      have h2 : blen (beN (0 :: l)) ≤ l.length := by rw [h1]; exact blen_le (beN_lt l)
      simp only [List.length_cons] at hl
      constructor
      · intro he
        unfold encU at he
        have h3 := congrArg List.length he
        simp [beB_length] at h3
        omega
      · intro he
        simp at he
    · have h1 := blen_beN (l := l) h
      constructor
      · intro _
        simp [h]
      · intro _
        unfold encU
        rw [h1]
        have := beB_beN (b :: l)
        rw [List.length_cons] at this
        rw [this, List.length_cons]

theorem decU_drop {p : List UInt8} {m : Nat} (h : m < p.length) :
    decU (p.drop m) = if p[m].toNat ≤ 8 ∧ p[m].toNat ≤ p.length - (m + 1) ∧ (p[m].toNat = 0 ∨ (p.drop (m + 1)).head? ≠ some 0) then some (beN ((p.drop (m + 1)).take p[m].toNat), p.drop (m + 1 + p[m].toNat)) else none := by
  rw [List.drop_eq_getElem_cons h]
  simp only [decU, List.length_drop, List.drop_drop]
theorem decU_end {p : List UInt8} {m : Nat} (h : p.length ≤ m) : decU (p.drop m) = none := by
  rw [List.drop_eq_nil_of_le h]
  rfl

/-- what the reference asks: the number's bytes are these -/
theorem enc_slice {p : List UInt8} {m : Nat} (h : m < p.length) (h8 : p[m].toNat ≤ 8) (hk : p[m].toNat ≤ p.length - (m + 1)) :
    (encU (beN ((p.drop (m + 1)).take p[m].toNat)) = (p.drop m).take (p[m].toNat + 1)) ↔ (p[m].toNat = 0 ∨ (p.drop (m + 1)).head? ≠ some 0) := by
  have hl : ((p.drop (m + 1)).take p[m].toNat).length = p[m].toNat := by rw [List.length_take, List.length_drop]; omega
  have h1 : (p.drop m).take (p[m].toNat + 1) = UInt8.ofNat ((p.drop (m + 1)).take p[m].toNat).length :: (p.drop (m + 1)).take p[m].toNat := by
    rw [hl, List.drop_eq_getElem_cons h, List.take_succ_cons]
    simp
  rw [h1, encU_beN (by omega), hl]
  cases hp : p[m].toNat with
  | zero => simp
  | succ k =>
    rw [List.head?_take]
    simp

theorem beN_take_lt8 (l : List UInt8) {i : Nat} (h : i ≤ 8) : beN (l.take i) < 18446744073709551616 := by
  have h1 := beN_lt (l.take i)
  have h2 : (l.take i).length ≤ 8 := by rw [List.length_take]; omega
  have h3 : 256 ^ (l.take i).length ≤ 256 ^ 8 := Nat.pow_le_pow_right (by omega) h2
  have : (256 : Nat) ^ 8 = 18446744073709551616 := by decide
  omega
end Go.Proofs.Ytnjfhmlfpfkllaa

/-
  What is laid is read back; no program in sight.
-/
namespace Go.Proofs.Ytnjfhmlfpfkllaa
open Go
set_option linter.unusedSimpArgs false
set_option linter.unusedVariables false

theorem beN_append_one (l : List UInt8) (b : UInt8) : beN (l ++ [b]) = beN l * 256 + b.toNat := beN_snoc l b

theorem beN_beB (n : Nat) : ∀ k, beN (beB n k) = n % 256 ^ k
  | 0 => by simp [beB, beN, Nat.mod_one]
  | k + 1 => by
    rw [beB, beN_cons, beN_beB n k, beB_length, byteAt_nat, Nat.mod_pow_succ, Nat.mul_comm]
    omega
where
  byteAt_nat {n i : Nat} : (byteAt n i).toNat = n / 256 ^ i % 256 := by
    unfold byteAt
    rw [UInt8.toNat_ofNat']
    omega

theorem beN_enc (n : Nat) : beN (beB n (blen n)) = n := by rw [beN_beB, Nat.mod_eq_of_lt (lt_pow_blen n)]

theorem head_beB {n : Nat} (h : blen n ≠ 0) : (beB n (blen n)).head? ≠ some 0 := by
  obtain ⟨k, hk⟩ : ∃ k, blen n = k + 1 := ⟨blen n - 1, by omega⟩
  rw [hk, beB]
  simp only [List.head?_cons, ne_eq, Option.some.injEq]
  intro h0
  have h1 : n / 256 ^ k % 256 = 0 := by
    have := congrArg UInt8.toNat h0
    unfold byteAt at this
    rw [UInt8.toNat_ofNat'] at this
    simp at this
    omega
  have h2 := (lt_blen k n).1 (by omega)
  have h3 := lt_pow_blen n
  rw [hk, Nat.pow_succ] at h3
  have h4 : n / 256 ^ k < 256 := Nat.div_lt_of_lt_mul (by rw [Nat.mul_comm] at h3; rw [Nat.mul_comm]; omega)
  omega

theorem decU_enc {n : Nat} (hn : n < 18446744073709551616) (r : List UInt8) : decU (encU n ++ r) = some (n, r) := by
  have hb : blen n ≤ 8 := blen_le (by simpa using hn)
  have hl := beB_length n (blen n)
  have h1 : (UInt8.ofNat (blen n)).toNat = blen n := by rw [UInt8.toNat_ofNat']; omega
  unfold encU
  rw [List.cons_append, decU, h1, if_pos]
  · have e1 : (beB n (blen n) ++ r).take (blen n) = beB n (blen n) := by rw [List.take_append_of_le_length (by omega), List.take_of_length_le (by omega)]
    have e2 : (beB n (blen n) ++ r).drop (blen n) = r := by
      have := List.drop_left (l₁ := beB n (blen n)) (l₂ := r)
      rwa [hl] at this
    rw [e1, e2, beN_enc]
  · refine ⟨hb, by rw [List.length_append, hl]; omega, ?_⟩
    by_cases h0 : blen n = 0
    · exact .inl h0
    · refine .inr ?_
      have := head_beB h0
      rw [List.head?_append]
      cases hh : (beB n (blen n)).head? with
      | none =>
        rw [List.head?_eq_none_iff] at hh
        rw [hh] at hl
        exact absurd hl.symm h0
      | some b =>
        rw [hh] at this
        simpa using this

theorem uint_enc {n : Nat} (hn : n < 18446744073709551616) (r : List UInt8) : uintR (some (encU n ++ r)) = (n, some r) := by
  simp only [uintR, decU_enc hn]

theorem zag_zig {x : Int} : zag (zig x) = x := by
  unfold zag zig
  split <;> split <;> omega

theorem bytes_enc {b : List UInt8} (hb : b.length ≤ 5000) (r : List UInt8) : bytesR 5000 (some (encU b.length ++ b ++ r)) = (b, some r) := by
  have h1 : uptoR 5000 (some (encU b.length ++ b ++ r)) = (b.length, some (b ++ r)) := by
    unfold uptoR
    rw [List.append_assoc, uint_enc (by omega)]
    exact if_pos (by omega)
  unfold bytesR
  rw [h1]
  simp
end Go.Proofs.Ytnjfhmlfpfkllaa

/-
  What was read is what had been laid: the octet's bytes are the only ones. No program in sight.
-/
namespace Go.Proofs.Ytnjfhmlfpfkllaa
open Go
set_option linter.unusedSimpArgs false
set_option linter.unusedVariables false

theorem decU_canon {l r : List UInt8} {x : Nat} (h : decU l = some (x, r)) : l = encU x ++ r := by
  cases l with
  | nil => cases h
  | cons k q =>
    simp only [decU] at h
    split at h
    · rename_i hc
      simp only [Option.some.injEq, Prod.mk.injEq] at h
      obtain ⟨rfl, rfl⟩ := h
      have hl : (q.take k.toNat).length = k.toNat := by rw [List.length_take]; omega
      have h1 := (encU_beN (l := q.take k.toNat) (by omega)).2 (by
        rcases hc.2.2 with h0 | h0
        · exact .inl (by omega)
        · by_cases h00 : k.toNat = 0
          · exact .inl (by omega)
          · right
            rw [List.head?_take, if_neg h00]
            exact h0)
      rw [h1, hl]
      simp
    · cases h
theorem uintR_some {s : Option (List UInt8)} {x : Nat} {r : List UInt8} (h : uintR s = (x, some r)) : s = some (encU x ++ r) ∧ x < 18446744073709551616 := by
  have hlt := uintR_lt s
  rw [h] at hlt
  refine ⟨?_, hlt⟩
  cases s with
  | none => cases h
  | some l =>
    cases hd : decU l with
    | none => simp only [uintR, hd] at h; cases h
    | some p =>
      obtain ⟨y, q⟩ := p
      simp only [uintR, hd] at h
      simp only [Prod.mk.injEq, Option.some.injEq] at h
      obtain ⟨rfl, rfl⟩ := h
      rw [decU_canon hd]
theorem bytes_encN {most : Int} {b : List UInt8} (hb : (b.length : Int) ≤ most) (hl : b.length < 18446744073709551616) (r : List UInt8) : bytesR most (some (encU b.length ++ (b ++ r))) = (b, some r) := by
  have h1 : uptoR most (some (encU b.length ++ (b ++ r))) = (b.length, some (b ++ r)) := by
    unfold uptoR
    rw [uint_enc hl]
    exact if_pos (by omega)
  unfold bytesR
  rw [h1]
  simp
theorem bytesR_some {most : Int} {s : Option (List UInt8)} {b r : List UInt8} (h : bytesR most s = (b, some r)) : s = some (encU b.length ++ (b ++ r)) ∧ (b.length : Int) ≤ most ∧ b.length < 18446744073709551616 := by
  unfold bytesR at h
  have hu : ∀ n q, uptoR most s = (n, some q) → uintR s = (n, some q) ∧ (n : Int) ≤ most := fun n q hq => by
    unfold uptoR at hq
    split at hq
    · split at hq
      · rename_i h1 h2
        rw [h1]
        simp only [Prod.mk.injEq, Option.some.injEq] at hq
        obtain ⟨rfl, rfl⟩ := hq
        exact ⟨rfl, h2.2⟩
      · cases hq
    · cases hq
  split at h
  · rename_i n q hq
    obtain ⟨h1, h2⟩ := hu n q hq
    obtain ⟨h3, h4⟩ := uintR_some h1
    split at h
    · simp only [Prod.mk.injEq, Option.some.injEq] at h
      obtain ⟨rfl, rfl⟩ := h
      have hl : (q.take n).length = n := by rw [List.length_take]; omega
      rw [hl, List.take_append_drop]
      exact ⟨h3, h2, h4⟩
    · cases h
  · cases h

end Go.Proofs.Ytnjfhmlfpfkllaa

/-
  wal: a record goes into a state.
-/
namespace Go.Proofs.Ytnjfhmlfpfkllaa
open Go
set_option linter.unusedSimpArgs false
set_option linter.unusedVariables false

/-- a state -/
structure WSt where
  term : Nat
  vote : Int
  base : Nat
  log : List En
def stC (s : WSt) (lv : Value) : Array Value := #[.int .u64 (s.term : Int), .int .i64 s.vote, .int .u64 (s.base : Int), lv]

/-- a record's bytes go into a state (an entry: into one whose log is empty) -/
inductive TakeS (b : List UInt8) (s : WSt) (n : Nat) : WSt → Nat → Prop
  | vote {s1 s2 : Option (List UInt8)} {t v : Nat} : uptoR 255 (some b) = (1, s1) → uintR s1 = (t, s2) → uintR s2 = (v, some []) → -1 ≤ zag v → zag v < 7 → TakeS b s n { s with term := t, vote := zag v } n
  | entry {s1 s2 s3 s4 s5 : Option (List UInt8)} {i : Nat} {x : En} : uptoR 255 (some b) = (2, s1) → uintR s1 = (i, s2) → uintR s2 = (x.term, s3) → uintR s3 = (x.ses, s4) → uintR s4 = (x.num, s5) → bytesR 4000 s5 = (x.cell, some []) → s.log = [] → i = s.base + 1 → TakeS b s n { s with log := [x] } n
  | base {s1 : Option (List UInt8)} {i : Nat} : uptoR 255 (some b) = (3, s1) → uintR s1 = (i, some []) → TakeS b s n { s with base := i, log := [] } n
  | ready {s1 : Option (List UInt8)} {t : Nat} : uptoR 255 (some b) = (4, s1) → uintR s1 = (t, some []) → t ≠ 0 → TakeS b s n s t

set_option maxHeartbeats 1000000 in
theorem takeVote_ok {w : World} {F : Nat → Prop} {bv lv : Value} {b : List UInt8} {g gt : Nat} {s : WSt} {s1 s2 : Option (List UInt8)} {t v : Nat} (hb : Rd w F bv b.length 1 (b.map U8)) (hFl : ∀ k, F k → k < w.heap.size ∧ k ≠ g) (hs : Blk w g (stC s lv) 36)
    (h1 : uptoR 255 (some b) = (1, s1)) (h2 : uintR s1 = (t, s2)) (h3 : uintR s2 = (v, some [])) (h4 : -1 ≤ zag v) (h5 : zag v < 7) :
    Ret Try.prog 36 #[.pointer (some ⟨g, 0, none⟩), bv, .pointer (some ⟨gt, 0, none⟩)] w fun u w' => u = .bool true ∧ Blk w' g (stC { s with term := t, vote := zag v } lv) 36 ∧ Upd (At g) w w' := by
  have hg := hs.lt
  refine enterRet (vs := [_, _, _]) (N := 139) Try.func36 rfl rfl rfl ?_
  have hU := Upd.refl (At g) w
  refine WC.keep [(0, _), (1, _), (2, _)] ⟨rfl, rfl, rfl, trivial⟩ ?_
  refine WC.seq ?_
  refine WC.region ?_
  refine WL.val rfl rfl rfl rfl (r_assign rfl ev_c) ?_
  refine WL.nil ?_
  refine WX.keep [(0, _), (1, _), (2, _)] ⟨rfl, rfl, rfl, trivial⟩ ?_
  refine WX.next ?_
  refine WC.seq ?_
  refine WC.region ?_
  refine WL.val rfl rfl rfl rfl (r_move rfl (ev_t rfl)) ?_
  refine WL.cons (SO.call (newReader_ok (hb.upd hU (fun k hk _ h => by have := hFl k hk; simp only [At] at h; omega))) rfl body_41 ⟨(ev_t rfl), trivial⟩ rfl rfl rfl rfl ?_)
  rintro v1 w1 ⟨rfl, hR, hu1⟩
  obtain ⟨g1, hg1⟩ : ∃ q, q = w.heap.size := ⟨_, rfl⟩
  rw [← hg1] at hR ⊢
  have hg1l : g1 < w1.heap.size := by obtain ⟨A9, c9, hb9, _⟩ := hR; exact hb9.lt
  have hs1 := hu1.size
  replace hU := hU.trans hu1 (by first | exact (fun _ _ h => h) | exact (fun _ _ h => h.elim) | (intro k hl hk; (try simp only [At, New, Grow, From, No] at hk ⊢); omega) | (intro k hl hk; simp only [At, No] at *; omega))
  replace hs := hs.upd hu1 (by first | exact (fun h => h) | (simp only [At, No]; omega))
  refine WL.val rfl rfl rfl rfl (r_assign rfl (ev_t rfl)) ?_
  refine WL.nil ?_
  refine WX.keep [(0, _), (2, _), (7, _)] ⟨rfl, rfl, rfl, trivial⟩ ?_
  refine WX.next ?_
  refine WC.seq ?_
  refine WC.seq ?_
  refine WC.region ?_
  refine WL.val rfl rfl rfl rfl (r_move rfl (ev_t rfl)) ?_
  refine WL.cons (SO.call (upto_ok hR (fun h => by have := hFl _ h; omega) (by simp only [inK]; omega) h1) rfl body_42 ⟨(ev_t rfl), ev_c, trivial⟩ rfl rfl rfl rfl ?_)
  rintro v1 w2 ⟨rfl, hR, hu2⟩
  have hs2 := hu2.size
  replace hU := hU.trans hu2 (by first | exact (fun _ _ h => h) | exact (fun _ _ h => h.elim) | (intro k hl hk; (try simp only [At, New, Grow, From, No] at hk ⊢); omega) | (intro k hl hk; simp only [At, No] at *; omega))
  replace hs := hs.upd hu2 (by first | exact (fun h => h) | (simp only [At, No]; omega))
  first | refine WL.val rfl rfl rfl rfl (r_convN rfl (ev_t rfl) some_3 int_5 (by simp only [inK]; omega)) ?_ | refine WL.val rfl rfl rfl rfl (r_conv rfl (ev_t rfl) some_3 int_5) ?_
  refine WL.val rfl rfl rfl rfl (r_assign rfl (ev_t rfl)) ?_
  refine WL.nil ?_
  refine WX.keep [(0, _), (2, _), (7, _), (8, _)] ⟨rfl, rfl, rfl, rfl, trivial⟩ ?_
  refine WX.next ?_
  refine WC.seq ?_
  refine WC.region ?_
  refine WL.val rfl rfl rfl rfl (r_move rfl (ev_t rfl)) ?_
  refine WL.nil ?_
  refine WX.keep [(0, _), (2, _), (7, _), (20, _)] ⟨rfl, rfl, rfl, rfl, trivial⟩ ?_
  refine WX.next ?_
  refine WC.block ?_
  refine WC.seq ?_
  refine WC.region ?_
  refine WL.val rfl rfl rfl rfl (r_eql rfl (ev_t rfl) ev_c) ?_
  refine WL.val rfl rfl rfl rfl (r_assign rfl (ev_t rfl)) ?_
  refine WL.nil ?_
  refine WX.keep [(0, _), (2, _), (7, _), (20, _), (21, _)] ⟨rfl, rfl, rfl, rfl, rfl, trivial⟩ ?_
  refine WX.next ?_
  refine WC.cond rfl (ev_t rfl) (fun hc5 => ?_) (fun hc5 => ?_)
  · try (exfalso; first | (simp at hc5; done) | (simp only [decide_eq_true_eq, decide_eq_false_iff_not, Bool.not_eq_true', Bool.not_eq_false', Bool.not_eq_true, Bool.not_eq_false] at hc5; omega) | omega)
    all_goals
     try simp only [decide_eq_true_eq, decide_eq_false_iff_not, Bool.not_eq_true', Bool.not_eq_false', Bool.not_eq_true, Bool.not_eq_false, Option.isNone_none, Option.isNone_some, Option.isSome_none, Option.isSome_some, ne_eq, Decidable.not_not] at hc5
     refine WC.seq ?_
     refine WC.region ?_
     refine WL.val rfl rfl rfl rfl (r_move rfl (ev_t rfl)) ?_
     refine WL.cons (SO.call (ruint_ok hR (fun h => by have := hFl _ h; omega) h2) rfl body_45 ⟨(ev_t rfl), trivial⟩ rfl rfl rfl rfl ?_)
     rintro v1 w3 ⟨rfl, hR, hu3⟩
     have hs3 := hu3.size
     replace hU := hU.trans hu3 (by first | exact (fun _ _ h => h) | exact (fun _ _ h => h.elim) | (intro k hl hk; (try simp only [At, New, Grow, From, No] at hk ⊢); omega) | (intro k hl hk; simp only [At, No] at *; omega))
     replace hs := hs.upd hu3 (by first | exact (fun h => h) | (simp only [At, No]; omega))
     refine WL.val rfl rfl rfl rfl (r_move rfl (ev_t rfl)) ?_
     refine WL.cons (SO.call (int_ok hR (fun h => by have := hFl _ h; omega) h3) rfl body_46 ⟨(ev_t rfl), trivial⟩ rfl rfl rfl rfl ?_)
     rintro v1 w4 ⟨rfl, hR, hu4⟩
     have hs4 := hu4.size
     replace hU := hU.trans hu4 (by first | exact (fun _ _ h => h) | exact (fun _ _ h => h.elim) | (intro k hl hk; (try simp only [At, New, Grow, From, No] at hk ⊢); omega) | (intro k hl hk; simp only [At, No] at *; omega))
     replace hs := hs.upd hu4 (by first | exact (fun h => h) | (simp only [At, No]; omega))
     refine WL.val rfl rfl rfl rfl (r_assign rfl (ev_t rfl)) ?_
     refine WL.val rfl rfl rfl rfl (r_assign rfl (ev_t rfl)) ?_
     refine WL.nil ?_
     refine WX.keep [(0, _), (7, _), (9, _), (10, _)] ⟨rfl, rfl, rfl, rfl, trivial⟩ ?_
     refine WX.next ?_
     refine WC.seq ?_
     refine WC.seq ?_
     refine WC.region ?_
     refine WL.val rfl rfl rfl rfl (r_move rfl (ev_t rfl)) ?_
     refine WL.cons (SO.call (end_ok hR) rfl body_43 ⟨(ev_t rfl), trivial⟩ rfl rfl rfl rfl ?_)
     rintro v1 w5 ⟨rfl, he⟩
     obtain rfl := he.symm
     refine WL.val rfl rfl rfl rfl (r_not rfl (ev_t rfl)) ?_
     refine WL.val rfl rfl rfl rfl (r_move rfl (ev_t rfl)) ?_
     refine WL.cases 30 rfl (fun hb7_3 => ?_) (fun hb7_3 => ?_)
     · try (exfalso; first | (simp at hb7_3; done) | (simp only [decide_eq_true_eq, decide_eq_false_iff_not, Bool.not_eq_true', Bool.not_eq_false', Bool.not_eq_true, Bool.not_eq_false] at hb7_3; omega) | omega)
       all_goals
        try simp only [decide_eq_true_eq, decide_eq_false_iff_not, Bool.not_eq_true', Bool.not_eq_false', Bool.not_eq_true, Bool.not_eq_false, Option.isNone_none, Option.isNone_some, Option.isSome_none, Option.isSome_some, ne_eq, Decidable.not_not] at hb7_3
        refine WL.skip rfl rfl rfl ?_
        refine WL.skip rfl rfl rfl ?_
        refine WL.val rfl rfl rfl rfl (r_pickT rfl (ev_t rfl) ev_c) ?_
        refine WL.val rfl rfl rfl rfl (r_move rfl (ev_t rfl)) ?_
        refine WL.skip rfl rfl rfl ?_
        refine WL.skip rfl rfl rfl ?_
        refine WL.val rfl rfl rfl rfl (r_pickT rfl (ev_t rfl) ev_c) ?_
        refine WL.nil ?_
        refine WX.keep [(0, _), (9, _), (10, _), (37, _)] ⟨rfl, rfl, rfl, rfl, trivial⟩ ?_
        refine WX.next ?_
        refine WC.cond_true rfl (ev_t rfl) ?_
        refine WC.seq ?_
        refine WC.region ?_
        refine WL.val rfl rfl rfl rfl (r_assign rfl ev_c) ?_
        refine WL.nil ?_
        refine WX.keep [(6, _)] ⟨rfl, trivial⟩ ?_
        refine WX.next ?_
        refine WC.ret ?_
        refine WX.thenRet ?_
        refine WX.blockRet ?_
        refine WX.thenRet ?_
        refine WX.retE1 rfl rfl ?_
        exact ⟨rfl, hs, hU⟩
     · try (exfalso; first | (simp at hb7_3; done) | (simp only [decide_eq_true_eq, decide_eq_false_iff_not, Bool.not_eq_true', Bool.not_eq_false', Bool.not_eq_true, Bool.not_eq_false] at hb7_3; omega) | omega)
       all_goals
        try simp only [decide_eq_true_eq, decide_eq_false_iff_not, Bool.not_eq_true', Bool.not_eq_false', Bool.not_eq_true, Bool.not_eq_false, Option.isNone_none, Option.isNone_some, Option.isSome_none, Option.isSome_some, ne_eq, Decidable.not_not] at hb7_3
        refine WL.val rfl rfl rfl rfl (r_move rfl (ev_t rfl)) ?_
        refine WL.val rfl rfl rfl rfl (r_lss rfl (ev_t rfl) ev_c) ?_
        refine WL.val rfl rfl rfl rfl (r_pickF rfl (ev_t rfl) (ev_t rfl)) ?_
        refine WL.val rfl rfl rfl rfl (r_move rfl (ev_t rfl)) ?_
        refine WL.cases 34 rfl (fun hb7_7 => ?_) (fun hb7_7 => ?_)
        · try (exfalso; first | (simp at hb7_7; done) | (simp only [decide_eq_true_eq, decide_eq_false_iff_not, Bool.not_eq_true', Bool.not_eq_false', Bool.not_eq_true, Bool.not_eq_false] at hb7_7; omega) | omega)
          all_goals
           try simp only [decide_eq_true_eq, decide_eq_false_iff_not, Bool.not_eq_true', Bool.not_eq_false', Bool.not_eq_true, Bool.not_eq_false, Option.isNone_none, Option.isNone_some, Option.isSome_none, Option.isSome_some, ne_eq, Decidable.not_not] at hb7_7
           refine WL.skip rfl rfl rfl ?_
           refine WL.skip rfl rfl rfl ?_
           refine WL.val rfl rfl rfl rfl (r_pickT rfl (ev_t rfl) ev_c) ?_
           refine WL.nil ?_
           refine WX.keep [(0, _), (9, _), (10, _), (37, _)] ⟨rfl, rfl, rfl, rfl, trivial⟩ ?_
           refine WX.next ?_
           refine WC.cond_true rfl (ev_t rfl) ?_
           refine WC.seq ?_
           refine WC.region ?_
           refine WL.val rfl rfl rfl rfl (r_assign rfl ev_c) ?_
           refine WL.nil ?_
           refine WX.keep [(6, _)] ⟨rfl, trivial⟩ ?_
           refine WX.next ?_
           refine WC.ret ?_
           refine WX.thenRet ?_
           refine WX.blockRet ?_
           refine WX.thenRet ?_
           refine WX.retE1 rfl rfl ?_
           exact ⟨rfl, hs, hU⟩
        · try (exfalso; first | (simp at hb7_7; done) | (simp only [decide_eq_true_eq, decide_eq_false_iff_not, Bool.not_eq_true', Bool.not_eq_false', Bool.not_eq_true, Bool.not_eq_false] at hb7_7; omega) | omega)
          all_goals
           try simp only [decide_eq_true_eq, decide_eq_false_iff_not, Bool.not_eq_true', Bool.not_eq_false', Bool.not_eq_true, Bool.not_eq_false, Option.isNone_none, Option.isNone_some, Option.isSome_none, Option.isSome_some, ne_eq, Decidable.not_not] at hb7_7
           refine WL.val rfl rfl rfl rfl (r_move rfl (ev_t rfl)) ?_
           refine WL.val rfl rfl rfl rfl (r_geq rfl (ev_t rfl) ev_c) ?_
           refine WL.val rfl rfl rfl rfl (r_pickF rfl (ev_t rfl) (ev_t rfl)) ?_
           refine WL.nil ?_
           refine WX.keep [(0, _), (9, _), (10, _), (37, _)] ⟨rfl, rfl, rfl, rfl, trivial⟩ ?_
           refine WX.next ?_
           refine WC.cond rfl (ev_t rfl) (fun hc7 => ?_) (fun hc7 => ?_)
           · try (exfalso; first | (simp at hc7; done) | (simp only [decide_eq_true_eq, decide_eq_false_iff_not, Bool.not_eq_true', Bool.not_eq_false', Bool.not_eq_true, Bool.not_eq_false] at hc7; omega) | omega)
             all_goals
              try simp only [decide_eq_true_eq, decide_eq_false_iff_not, Bool.not_eq_true', Bool.not_eq_false', Bool.not_eq_true, Bool.not_eq_false, Option.isNone_none, Option.isNone_some, Option.isSome_none, Option.isSome_some, ne_eq, Decidable.not_not] at hc7
              refine WC.seq ?_
              refine WC.region ?_
              refine WL.val rfl rfl rfl rfl (r_assign rfl ev_c) ?_
              refine WL.nil ?_
              refine WX.keep [(6, _)] ⟨rfl, trivial⟩ ?_
              refine WX.next ?_
              refine WC.ret ?_
              refine WX.thenRet ?_
              refine WX.blockRet ?_
              refine WX.thenRet ?_
              refine WX.retE1 rfl rfl ?_
              exact ⟨rfl, hs, hU⟩
           · try (exfalso; first | (simp at hc7; done) | (simp only [decide_eq_true_eq, decide_eq_false_iff_not, Bool.not_eq_true', Bool.not_eq_false', Bool.not_eq_true, Bool.not_eq_false] at hc7; omega) | omega)
             all_goals
              try simp only [decide_eq_true_eq, decide_eq_false_iff_not, Bool.not_eq_true', Bool.not_eq_false', Bool.not_eq_true, Bool.not_eq_false, Option.isNone_none, Option.isNone_some, Option.isSome_none, Option.isSome_some, ne_eq, Decidable.not_not] at hc7
              refine WC.skip ?_
              refine WX.next ?_
              refine WC.region ?_
              refine WL.val rfl rfl rfl rfl (r_move rfl (ev_t rfl)) ?_
              refine WL.val rfl rfl rfl rfl (r_move rfl (ev_t rfl)) ?_
              refine WL.val rfl rfl rfl rfl (r_move rfl (ev_t rfl)) ?_
              refine WL.val rfl rfl rfl rfl (r_move rfl (ev_t rfl)) ?_
              refine WL.val rfl rfl rfl rfl (r_nilCheck rfl (ev_t rfl)) ?_
              first | refine WL.val rfl rfl rfl rfl (r_field0 rfl (ev_t rfl) fld_36_0) ?_ | refine WL.val rfl rfl rfl rfl (r_fieldAt rfl (ev_t rfl) fld_36_0) ?_
              refine WL.cons (SO.store rfl (ev_t rfl) (ev_t rfl) size_29 hs rfl rfl rfl rfl rfl ?_)
              intro w6 hu6 hs hz6
              have hs6 := hu6.size
              replace hU := hU.trans hu6 (by first | exact (fun _ _ h => h) | exact (fun _ _ h => h.elim) | (intro k hl hk; (try simp only [At, New, Grow, From, No] at hk ⊢); omega) | (intro k hl hk; simp only [At, No] at *; omega))
              refine WL.val rfl rfl rfl rfl (r_nilCheck rfl (ev_t rfl)) ?_
              first | refine WL.val rfl rfl rfl rfl (r_field0 rfl (ev_t rfl) fld_36_1) ?_ | refine WL.val rfl rfl rfl rfl (r_fieldAt rfl (ev_t rfl) fld_36_1) ?_
              refine WL.cons (SO.store rfl (ev_t rfl) (ev_t rfl) size_3 hs rfl rfl rfl rfl rfl ?_)
              intro w7 hu7 hs hz7
              have hs7 := hu7.size
              replace hU := hU.trans hu7 (by first | exact (fun _ _ h => h) | exact (fun _ _ h => h.elim) | (intro k hl hk; (try simp only [At, New, Grow, From, No] at hk ⊢); omega) | (intro k hl hk; simp only [At, No] at *; omega))
              refine WL.nil ?_
              refine WX.keep [] trivial ?_
              refine WX.blockNormal ?_
              refine WX.next ?_
              refine WC.seq ?_
              refine WC.region ?_
              refine WL.val rfl rfl rfl rfl (r_assign rfl ev_c) ?_
              refine WL.nil ?_
              refine WX.keep [(6, _)] ⟨rfl, trivial⟩ ?_
              refine WX.next ?_
              refine WC.ret ?_
              refine WX.retE1 rfl rfl ?_
              exact ⟨rfl, hs, hU⟩
  · try (exfalso; first | (simp at hc5; done) | (simp only [decide_eq_true_eq, decide_eq_false_iff_not, Bool.not_eq_true', Bool.not_eq_false', Bool.not_eq_true, Bool.not_eq_false] at hc5; omega) | omega)
    all_goals
     try simp only [decide_eq_true_eq, decide_eq_false_iff_not, Bool.not_eq_true', Bool.not_eq_false', Bool.not_eq_true, Bool.not_eq_false, Option.isNone_none, Option.isNone_some, Option.isSome_none, Option.isSome_some, ne_eq, Decidable.not_not] at hc5
     refine WC.seq ?_
     refine WC.region ?_
     refine WL.val rfl rfl rfl rfl (r_eql rfl (ev_t rfl) ev_c) ?_
     refine WL.val rfl rfl rfl rfl (r_assign rfl (ev_t rfl)) ?_
     refine WL.nil ?_
     refine WX.keep [(0, _), (2, _), (7, _), (20, _), (46, _)] ⟨rfl, rfl, rfl, rfl, rfl, trivial⟩ ?_
     refine WX.next ?_
     refine WC.cond rfl (ev_t rfl) (fun hc10 => ?_) (fun hc10 => ?_)
     · try (exfalso; first | (simp at hc10; done) | (simp only [decide_eq_true_eq, decide_eq_false_iff_not, Bool.not_eq_true', Bool.not_eq_false', Bool.not_eq_true, Bool.not_eq_false] at hc10; omega) | omega)
       all_goals
        try simp only [decide_eq_true_eq, decide_eq_false_iff_not, Bool.not_eq_true', Bool.not_eq_false', Bool.not_eq_true, Bool.not_eq_false, Option.isNone_none, Option.isNone_some, Option.isSome_none, Option.isSome_some, ne_eq, Decidable.not_not] at hc10
        refine WC.seq ?_
        refine WC.region ?_
        refine WL.val rfl rfl rfl rfl (r_move rfl (ev_t rfl)) ?_
        fail -- call 11.1 of (*battledore/octet.Reader).Uint
     · try (exfalso; first | (simp at hc10; done) | (simp only [decide_eq_true_eq, decide_eq_false_iff_not, Bool.not_eq_true', Bool.not_eq_false', Bool.not_eq_true, Bool.not_eq_false] at hc10; omega) | omega)
       all_goals
        try simp only [decide_eq_true_eq, decide_eq_false_iff_not, Bool.not_eq_true', Bool.not_eq_false', Bool.not_eq_true, Bool.not_eq_false, Option.isNone_none, Option.isNone_some, Option.isSome_none, Option.isSome_some, ne_eq, Decidable.not_not] at hc10
        refine WC.seq ?_
        refine WC.region ?_
        refine WL.val rfl rfl rfl rfl (r_eql rfl (ev_t rfl) ev_c) ?_
        refine WL.val rfl rfl rfl rfl (r_assign rfl (ev_t rfl)) ?_
        refine WL.nil ?_
        refine WX.keep [(0, _), (2, _), (7, _), (20, _), (111, _)] ⟨rfl, rfl, rfl, rfl, rfl, trivial⟩ ?_
        refine WX.next ?_
        refine WC.cond rfl (ev_t rfl) (fun hc16 => ?_) (fun hc16 => ?_)
        · try (exfalso; first | (simp at hc16; done) | (simp only [decide_eq_true_eq, decide_eq_false_iff_not, Bool.not_eq_true', Bool.not_eq_false', Bool.not_eq_true, Bool.not_eq_false] at hc16; omega) | omega)
          all_goals
           try simp only [decide_eq_true_eq, decide_eq_false_iff_not, Bool.not_eq_true', Bool.not_eq_false', Bool.not_eq_true, Bool.not_eq_false, Option.isNone_none, Option.isNone_some, Option.isSome_none, Option.isSome_some, ne_eq, Decidable.not_not] at hc16
           refine WC.seq ?_
           refine WC.region ?_
           refine WL.val rfl rfl rfl rfl (r_move rfl (ev_t rfl)) ?_
           fail -- call 17.1 of (*battledore/octet.Reader).Uint
        · try (exfalso; first | (simp at hc16; done) | (simp only [decide_eq_true_eq, decide_eq_false_iff_not, Bool.not_eq_true', Bool.not_eq_false', Bool.not_eq_true, Bool.not_eq_false] at hc16; omega) | omega)
          all_goals
           try simp only [decide_eq_true_eq, decide_eq_false_iff_not, Bool.not_eq_true', Bool.not_eq_false', Bool.not_eq_true, Bool.not_eq_false, Option.isNone_none, Option.isNone_some, Option.isSome_none, Option.isSome_some, ne_eq, Decidable.not_not] at hc16
           refine WC.seq ?_
           refine WC.region ?_
           refine WL.val rfl rfl rfl rfl (r_eql rfl (ev_t rfl) ev_c) ?_
           refine WL.val rfl rfl rfl rfl (r_assign rfl (ev_t rfl)) ?_
           refine WL.nil ?_
           refine WX.keep [(2, _), (7, _), (125, _)] ⟨rfl, rfl, rfl, trivial⟩ ?_
           refine WX.next ?_
           refine WC.cond rfl (ev_t rfl) (fun hc21 => ?_) (fun hc21 => ?_)
           · try (exfalso; first | (simp at hc21; done) | (simp only [decide_eq_true_eq, decide_eq_false_iff_not, Bool.not_eq_true', Bool.not_eq_false', Bool.not_eq_true, Bool.not_eq_false] at hc21; omega) | omega)
             all_goals
              try simp only [decide_eq_true_eq, decide_eq_false_iff_not, Bool.not_eq_true', Bool.not_eq_false', Bool.not_eq_true, Bool.not_eq_false, Option.isNone_none, Option.isNone_some, Option.isSome_none, Option.isSome_some, ne_eq, Decidable.not_not] at hc21
              refine WC.seq ?_
              refine WC.region ?_
              refine WL.val rfl rfl rfl rfl (r_move rfl (ev_t rfl)) ?_
              fail -- call 22.1 of (*battledore/octet.Reader).Uint
           · try (exfalso; first | (simp at hc21; done) | (simp only [decide_eq_true_eq, decide_eq_false_iff_not, Bool.not_eq_true', Bool.not_eq_false', Bool.not_eq_true, Bool.not_eq_false] at hc21; omega) | omega)
             all_goals
              try simp only [decide_eq_true_eq, decide_eq_false_iff_not, Bool.not_eq_true', Bool.not_eq_false', Bool.not_eq_true, Bool.not_eq_false, Option.isNone_none, Option.isNone_some, Option.isSome_none, Option.isSome_some, ne_eq, Decidable.not_not] at hc21
              refine WC.seq ?_
              refine WC.region ?_
              refine WL.val rfl rfl rfl rfl (r_assign rfl ev_c) ?_
              refine WL.nil ?_
              refine WX.keep [(6, _)] ⟨rfl, trivial⟩ ?_
              refine WX.next ?_
              refine WC.ret ?_
              refine WX.blockRet ?_
              refine WX.thenRet ?_
              refine WX.retE1 rfl rfl ?_
              exact ⟨rfl, hs, hU⟩
set_option maxHeartbeats 1000000 in
theorem takeBase_ok {w : World} {F : Nat → Prop} {bv lv : Value} {b : List UInt8} {g gt : Nat} {s : WSt} {s1 : Option (List UInt8)} {i : Nat} (hb : Rd w F bv b.length 1 (b.map U8)) (hFl : ∀ k, F k → k < w.heap.size ∧ k ≠ g) (hs : Blk w g (stC s lv) 36)
    (h1 : uptoR 255 (some b) = (3, s1)) (h2 : uintR s1 = (i, some [])) :
    Ret Try.prog 36 #[.pointer (some ⟨g, 0, none⟩), bv, .pointer (some ⟨gt, 0, none⟩)] w fun u w' => u = .bool true ∧ Blk w' g (stC { s with base := i, log := [] } (.slice none 0 0)) 36 ∧ Upd (At g) w w' := by
  have hg := hs.lt
  refine enterRet (vs := [_, _, _]) (N := 139) Try.func36 rfl rfl rfl ?_
  have hU := Upd.refl (At g) w
  refine WC.keep [(0, _), (1, _), (2, _)] ⟨rfl, rfl, rfl, trivial⟩ ?_
  refine WC.seq ?_
  refine WC.region ?_
  refine WL.val rfl rfl rfl rfl (r_assign rfl ev_c) ?_
  refine WL.nil ?_
  refine WX.keep [(0, _), (1, _), (2, _)] ⟨rfl, rfl, rfl, trivial⟩ ?_
  refine WX.next ?_
  refine WC.seq ?_
  refine WC.region ?_
  refine WL.val rfl rfl rfl rfl (r_move rfl (ev_t rfl)) ?_
  refine WL.cons (SO.call (newReader_ok (hb.upd hU (fun k hk _ h => by have := hFl k hk; simp only [At] at h; omega))) rfl body_41 ⟨(ev_t rfl), trivial⟩ rfl rfl rfl rfl ?_)
  rintro v1 w1 ⟨rfl, hR, hu1⟩
  obtain ⟨g1, hg1⟩ : ∃ q, q = w.heap.size := ⟨_, rfl⟩
  rw [← hg1] at hR ⊢
  have hg1l : g1 < w1.heap.size := by obtain ⟨A9, c9, hb9, _⟩ := hR; exact hb9.lt
  have hs1 := hu1.size
  replace hU := hU.trans hu1 (by first | exact (fun _ _ h => h) | exact (fun _ _ h => h.elim) | (intro k hl hk; (try simp only [At, New, Grow, From, No] at hk ⊢); omega) | (intro k hl hk; simp only [At, No] at *; omega))
  replace hs := hs.upd hu1 (by first | exact (fun h => h) | (simp only [At, No]; omega))
  refine WL.val rfl rfl rfl rfl (r_assign rfl (ev_t rfl)) ?_
  refine WL.nil ?_
  refine WX.keep [(0, _), (2, _), (7, _)] ⟨rfl, rfl, rfl, trivial⟩ ?_
  refine WX.next ?_
  refine WC.seq ?_
  refine WC.seq ?_
  refine WC.region ?_
  refine WL.val rfl rfl rfl rfl (r_move rfl (ev_t rfl)) ?_
  refine WL.cons (SO.call (upto_ok hR (fun h => by have := hFl _ h; omega) (by simp only [inK]; omega) h1) rfl body_42 ⟨(ev_t rfl), ev_c, trivial⟩ rfl rfl rfl rfl ?_)
  rintro v1 w2 ⟨rfl, hR, hu2⟩
  have hs2 := hu2.size
  replace hU := hU.trans hu2 (by first | exact (fun _ _ h => h) | exact (fun _ _ h => h.elim) | (intro k hl hk; (try simp only [At, New, Grow, From, No] at hk ⊢); omega) | (intro k hl hk; simp only [At, No] at *; omega))
  replace hs := hs.upd hu2 (by first | exact (fun h => h) | (simp only [At, No]; omega))
  first | refine WL.val rfl rfl rfl rfl (r_convN rfl (ev_t rfl) some_3 int_5 (by simp only [inK]; omega)) ?_ | refine WL.val rfl rfl rfl rfl (r_conv rfl (ev_t rfl) some_3 int_5) ?_
  refine WL.val rfl rfl rfl rfl (r_assign rfl (ev_t rfl)) ?_
  refine WL.nil ?_
  refine WX.keep [(0, _), (2, _), (7, _), (8, _)] ⟨rfl, rfl, rfl, rfl, trivial⟩ ?_
  refine WX.next ?_
  refine WC.seq ?_
  refine WC.region ?_
  refine WL.val rfl rfl rfl rfl (r_move rfl (ev_t rfl)) ?_
  refine WL.nil ?_
  refine WX.keep [(0, _), (2, _), (7, _), (20, _)] ⟨rfl, rfl, rfl, rfl, trivial⟩ ?_
  refine WX.next ?_
  refine WC.block ?_
  refine WC.seq ?_
  refine WC.region ?_
  refine WL.val rfl rfl rfl rfl (r_eql rfl (ev_t rfl) ev_c) ?_
  refine WL.val rfl rfl rfl rfl (r_assign rfl (ev_t rfl)) ?_
  refine WL.nil ?_
  refine WX.keep [(0, _), (2, _), (7, _), (20, _), (21, _)] ⟨rfl, rfl, rfl, rfl, rfl, trivial⟩ ?_
  refine WX.next ?_
  refine WC.cond rfl (ev_t rfl) (fun hc5 => ?_) (fun hc5 => ?_)
  · try (exfalso; first | (simp at hc5; done) | (simp only [decide_eq_true_eq, decide_eq_false_iff_not, Bool.not_eq_true', Bool.not_eq_false', Bool.not_eq_true, Bool.not_eq_false] at hc5; omega) | omega)
    all_goals
     try simp only [decide_eq_true_eq, decide_eq_false_iff_not, Bool.not_eq_true', Bool.not_eq_false', Bool.not_eq_true, Bool.not_eq_false, Option.isNone_none, Option.isNone_some, Option.isSome_none, Option.isSome_some, ne_eq, Decidable.not_not] at hc5
     refine WC.seq ?_
     refine WC.region ?_
     refine WL.val rfl rfl rfl rfl (r_move rfl (ev_t rfl)) ?_
     fail -- call 6.1 of (*battledore/octet.Reader).Uint
  · try (exfalso; first | (simp at hc5; done) | (simp only [decide_eq_true_eq, decide_eq_false_iff_not, Bool.not_eq_true', Bool.not_eq_false', Bool.not_eq_true, Bool.not_eq_false] at hc5; omega) | omega)
    all_goals
     try simp only [decide_eq_true_eq, decide_eq_false_iff_not, Bool.not_eq_true', Bool.not_eq_false', Bool.not_eq_true, Bool.not_eq_false, Option.isNone_none, Option.isNone_some, Option.isSome_none, Option.isSome_some, ne_eq, Decidable.not_not] at hc5
     refine WC.seq ?_
     refine WC.region ?_
     refine WL.val rfl rfl rfl rfl (r_eql rfl (ev_t rfl) ev_c) ?_
     refine WL.val rfl rfl rfl rfl (r_assign rfl (ev_t rfl)) ?_
     refine WL.nil ?_
     refine WX.keep [(0, _), (2, _), (7, _), (20, _), (46, _)] ⟨rfl, rfl, rfl, rfl, rfl, trivial⟩ ?_
     refine WX.next ?_
     refine WC.cond rfl (ev_t rfl) (fun hc10 => ?_) (fun hc10 => ?_)
     · try (exfalso; first | (simp at hc10; done) | (simp only [decide_eq_true_eq, decide_eq_false_iff_not, Bool.not_eq_true', Bool.not_eq_false', Bool.not_eq_true, Bool.not_eq_false] at hc10; omega) | omega)
       all_goals
        try simp only [decide_eq_true_eq, decide_eq_false_iff_not, Bool.not_eq_true', Bool.not_eq_false', Bool.not_eq_true, Bool.not_eq_false, Option.isNone_none, Option.isNone_some, Option.isSome_none, Option.isSome_some, ne_eq, Decidable.not_not] at hc10
        refine WC.seq ?_
        refine WC.region ?_
        refine WL.val rfl rfl rfl rfl (r_move rfl (ev_t rfl)) ?_
        fail -- call 11.1 of (*battledore/octet.Reader).Uint
     · try (exfalso; first | (simp at hc10; done) | (simp only [decide_eq_true_eq, decide_eq_false_iff_not, Bool.not_eq_true', Bool.not_eq_false', Bool.not_eq_true, Bool.not_eq_false] at hc10; omega) | omega)
       all_goals
        try simp only [decide_eq_true_eq, decide_eq_false_iff_not, Bool.not_eq_true', Bool.not_eq_false', Bool.not_eq_true, Bool.not_eq_false, Option.isNone_none, Option.isNone_some, Option.isSome_none, Option.isSome_some, ne_eq, Decidable.not_not] at hc10
        refine WC.seq ?_
        refine WC.region ?_
        refine WL.val rfl rfl rfl rfl (r_eql rfl (ev_t rfl) ev_c) ?_
        refine WL.val rfl rfl rfl rfl (r_assign rfl (ev_t rfl)) ?_
        refine WL.nil ?_
        refine WX.keep [(0, _), (2, _), (7, _), (20, _), (111, _)] ⟨rfl, rfl, rfl, rfl, rfl, trivial⟩ ?_
        refine WX.next ?_
        refine WC.cond rfl (ev_t rfl) (fun hc16 => ?_) (fun hc16 => ?_)
        · try (exfalso; first | (simp at hc16; done) | (simp only [decide_eq_true_eq, decide_eq_false_iff_not, Bool.not_eq_true', Bool.not_eq_false', Bool.not_eq_true, Bool.not_eq_false] at hc16; omega) | omega)
          all_goals
           try simp only [decide_eq_true_eq, decide_eq_false_iff_not, Bool.not_eq_true', Bool.not_eq_false', Bool.not_eq_true, Bool.not_eq_false, Option.isNone_none, Option.isNone_some, Option.isSome_none, Option.isSome_some, ne_eq, Decidable.not_not] at hc16
           refine WC.seq ?_
           refine WC.region ?_
           refine WL.val rfl rfl rfl rfl (r_move rfl (ev_t rfl)) ?_
           refine WL.cons (SO.call (ruint_ok hR (fun h => by have := hFl _ h; omega) h2) rfl body_45 ⟨(ev_t rfl), trivial⟩ rfl rfl rfl rfl ?_)
           rintro v1 w3 ⟨rfl, hR, hu3⟩
           have hs3 := hu3.size
           replace hU := hU.trans hu3 (by first | exact (fun _ _ h => h) | exact (fun _ _ h => h.elim) | (intro k hl hk; (try simp only [At, New, Grow, From, No] at hk ⊢); omega) | (intro k hl hk; simp only [At, No] at *; omega))
           replace hs := hs.upd hu3 (by first | exact (fun h => h) | (simp only [At, No]; omega))
           refine WL.val rfl rfl rfl rfl (r_assign rfl (ev_t rfl)) ?_
           refine WL.nil ?_
           refine WX.keep [(0, _), (7, _), (13, _)] ⟨rfl, rfl, rfl, trivial⟩ ?_
           refine WX.next ?_
           refine WC.seq ?_
           refine WC.seq ?_
           refine WC.region ?_
           refine WL.val rfl rfl rfl rfl (r_move rfl (ev_t rfl)) ?_
           refine WL.cons (SO.call (end_ok hR) rfl body_43 ⟨(ev_t rfl), trivial⟩ rfl rfl rfl rfl ?_)
           rintro v1 w4 ⟨rfl, he⟩
           obtain rfl := he.symm
           refine WL.val rfl rfl rfl rfl (r_not rfl (ev_t rfl)) ?_
           refine WL.nil ?_
           refine WX.keep [(0, _), (13, _), (117, _)] ⟨rfl, rfl, rfl, trivial⟩ ?_
           refine WX.next ?_
           refine WC.cond rfl (ev_t rfl) (fun hc18 => ?_) (fun hc18 => ?_)
           · try (exfalso; first | (simp at hc18; done) | (simp only [decide_eq_true_eq, decide_eq_false_iff_not, Bool.not_eq_true', Bool.not_eq_false', Bool.not_eq_true, Bool.not_eq_false] at hc18; omega) | omega)
             all_goals
              try simp only [decide_eq_true_eq, decide_eq_false_iff_not, Bool.not_eq_true', Bool.not_eq_false', Bool.not_eq_true, Bool.not_eq_false, Option.isNone_none, Option.isNone_some, Option.isSome_none, Option.isSome_some, ne_eq, Decidable.not_not] at hc18
              refine WC.seq ?_
              refine WC.region ?_
              refine WL.val rfl rfl rfl rfl (r_assign rfl ev_c) ?_
              refine WL.nil ?_
              refine WX.keep [(6, _)] ⟨rfl, trivial⟩ ?_
              refine WX.next ?_
              refine WC.ret ?_
              refine WX.thenRet ?_
              refine WX.blockRet ?_
              refine WX.thenRet ?_
              refine WX.retE1 rfl rfl ?_
              exact ⟨rfl, hs, hU⟩
           · try (exfalso; first | (simp at hc18; done) | (simp only [decide_eq_true_eq, decide_eq_false_iff_not, Bool.not_eq_true', Bool.not_eq_false', Bool.not_eq_true, Bool.not_eq_false] at hc18; omega) | omega)
             all_goals
              try simp only [decide_eq_true_eq, decide_eq_false_iff_not, Bool.not_eq_true', Bool.not_eq_false', Bool.not_eq_true, Bool.not_eq_false, Option.isNone_none, Option.isNone_some, Option.isSome_none, Option.isSome_some, ne_eq, Decidable.not_not] at hc18
              refine WC.skip ?_
              refine WX.next ?_
              refine WC.region ?_
              refine WL.val rfl rfl rfl rfl (r_move rfl (ev_t rfl)) ?_
              refine WL.val rfl rfl rfl rfl (r_move rfl (ev_t rfl)) ?_
              refine WL.val rfl rfl rfl rfl (r_move rfl (ev_t rfl)) ?_
              refine WL.val rfl rfl rfl rfl (r_nilCheck rfl (ev_t rfl)) ?_
              first | refine WL.val rfl rfl rfl rfl (r_field0 rfl (ev_t rfl) fld_36_2) ?_ | refine WL.val rfl rfl rfl rfl (r_fieldAt rfl (ev_t rfl) fld_36_2) ?_
              refine WL.cons (SO.store rfl (ev_t rfl) (ev_t rfl) size_29 hs rfl rfl rfl rfl rfl ?_)
              intro w5 hu5 hs hz5
              have hs5 := hu5.size
              replace hU := hU.trans hu5 (by first | exact (fun _ _ h => h) | exact (fun _ _ h => h.elim) | (intro k hl hk; (try simp only [At, New, Grow, From, No] at hk ⊢); omega) | (intro k hl hk; simp only [At, No] at *; omega))
              refine WL.val rfl rfl rfl rfl (r_nilCheck rfl (ev_t rfl)) ?_
              first | refine WL.val rfl rfl rfl rfl (r_field0 rfl (ev_t rfl) fld_36_3) ?_ | refine WL.val rfl rfl rfl rfl (r_fieldAt rfl (ev_t rfl) fld_36_3) ?_
              refine WL.cons (SO.store rfl (ev_t rfl) ev_c size_28 hs rfl rfl rfl rfl rfl ?_)
              intro w6 hu6 hs hz6
              have hs6 := hu6.size
              replace hU := hU.trans hu6 (by first | exact (fun _ _ h => h) | exact (fun _ _ h => h.elim) | (intro k hl hk; (try simp only [At, New, Grow, From, No] at hk ⊢); omega) | (intro k hl hk; simp only [At, No] at *; omega))
              refine WL.nil ?_
              refine WX.keep [] trivial ?_
              refine WX.blockNormal ?_
              refine WX.next ?_
              refine WC.seq ?_
              refine WC.region ?_
              refine WL.val rfl rfl rfl rfl (r_assign rfl ev_c) ?_
              refine WL.nil ?_
              refine WX.keep [(6, _)] ⟨rfl, trivial⟩ ?_
              refine WX.next ?_
              refine WC.ret ?_
              refine WX.retE1 rfl rfl ?_
              exact ⟨rfl, hs, hU⟩
        · try (exfalso; first | (simp at hc16; done) | (simp only [decide_eq_true_eq, decide_eq_false_iff_not, Bool.not_eq_true', Bool.not_eq_false', Bool.not_eq_true, Bool.not_eq_false] at hc16; omega) | omega)
          all_goals
           try simp only [decide_eq_true_eq, decide_eq_false_iff_not, Bool.not_eq_true', Bool.not_eq_false', Bool.not_eq_true, Bool.not_eq_false, Option.isNone_none, Option.isNone_some, Option.isSome_none, Option.isSome_some, ne_eq, Decidable.not_not] at hc16
           refine WC.seq ?_
           refine WC.region ?_
           refine WL.val rfl rfl rfl rfl (r_eql rfl (ev_t rfl) ev_c) ?_
           refine WL.val rfl rfl rfl rfl (r_assign rfl (ev_t rfl)) ?_
           refine WL.nil ?_
           refine WX.keep [(2, _), (7, _), (125, _)] ⟨rfl, rfl, rfl, trivial⟩ ?_
           refine WX.next ?_
           refine WC.cond rfl (ev_t rfl) (fun hc21 => ?_) (fun hc21 => ?_)
           · try (exfalso; first | (simp at hc21; done) | (simp only [decide_eq_true_eq, decide_eq_false_iff_not, Bool.not_eq_true', Bool.not_eq_false', Bool.not_eq_true, Bool.not_eq_false] at hc21; omega) | omega)
             all_goals
              try simp only [decide_eq_true_eq, decide_eq_false_iff_not, Bool.not_eq_true', Bool.not_eq_false', Bool.not_eq_true, Bool.not_eq_false, Option.isNone_none, Option.isNone_some, Option.isSome_none, Option.isSome_some, ne_eq, Decidable.not_not] at hc21
              refine WC.seq ?_
              refine WC.region ?_
              refine WL.val rfl rfl rfl rfl (r_move rfl (ev_t rfl)) ?_
              fail -- call 22.1 of (*battledore/octet.Reader).Uint
           · try (exfalso; first | (simp at hc21; done) | (simp only [decide_eq_true_eq, decide_eq_false_iff_not, Bool.not_eq_true', Bool.not_eq_false', Bool.not_eq_true, Bool.not_eq_false] at hc21; omega) | omega)
             all_goals
              try simp only [decide_eq_true_eq, decide_eq_false_iff_not, Bool.not_eq_true', Bool.not_eq_false', Bool.not_eq_true, Bool.not_eq_false, Option.isNone_none, Option.isNone_some, Option.isSome_none, Option.isSome_some, ne_eq, Decidable.not_not] at hc21
              refine WC.seq ?_
              refine WC.region ?_
              refine WL.val rfl rfl rfl rfl (r_assign rfl ev_c) ?_
              refine WL.nil ?_
              refine WX.keep [(6, _)] ⟨rfl, trivial⟩ ?_
              refine WX.next ?_
              refine WC.ret ?_
              refine WX.blockRet ?_
              refine WX.thenRet ?_
              refine WX.retE1 rfl rfl ?_
              exact ⟨rfl, hs, hU⟩
set_option maxHeartbeats 1000000 in
theorem takeReady_ok {w : World} {F : Nat → Prop} {bv : Value} {b : List UInt8} {g gt n : Nat} {s1 : Option (List UInt8)} {t : Nat} (hb : Rd w F bv b.length 1 (b.map U8)) (hFl : ∀ k, F k → k < w.heap.size ∧ k ≠ gt) (hs : Blk w gt #[.int .u64 (n : Int)] 29)
    (h1 : uptoR 255 (some b) = (4, s1)) (h2 : uintR s1 = (t, some [])) (h3 : t ≠ 0) :
    Ret Try.prog 36 #[.pointer (some ⟨g, 0, none⟩), bv, .pointer (some ⟨gt, 0, none⟩)] w fun u w' => u = .bool true ∧ Blk w' gt #[.int .u64 (t : Int)] 29 ∧ Upd (At gt) w w' := by
  have hg := hs.lt
  refine enterRet (vs := [_, _, _]) (N := 139) Try.func36 rfl rfl rfl ?_
  have hU := Upd.refl (At gt) w
  refine WC.keep [(0, _), (1, _), (2, _)] ⟨rfl, rfl, rfl, trivial⟩ ?_
  refine WC.seq ?_
  refine WC.region ?_
  refine WL.val rfl rfl rfl rfl (r_assign rfl ev_c) ?_
  refine WL.nil ?_
  refine WX.keep [(0, _), (1, _), (2, _)] ⟨rfl, rfl, rfl, trivial⟩ ?_
  refine WX.next ?_
  refine WC.seq ?_
  refine WC.region ?_
  refine WL.val rfl rfl rfl rfl (r_move rfl (ev_t rfl)) ?_
  refine WL.cons (SO.call (newReader_ok (hb.upd hU (fun k hk _ h => by have := hFl k hk; simp only [At] at h; omega))) rfl body_41 ⟨(ev_t rfl), trivial⟩ rfl rfl rfl rfl ?_)
  rintro v1 w1 ⟨rfl, hR, hu1⟩
  obtain ⟨g1, hg1⟩ : ∃ q, q = w.heap.size := ⟨_, rfl⟩
  rw [← hg1] at hR ⊢
  have hg1l : g1 < w1.heap.size := by obtain ⟨A9, c9, hb9, _⟩ := hR; exact hb9.lt
  have hs1 := hu1.size
  replace hU := hU.trans hu1 (by first | exact (fun _ _ h => h) | exact (fun _ _ h => h.elim) | (intro k hl hk; (try simp only [At, New, Grow, From, No] at hk ⊢); omega) | (intro k hl hk; simp only [At, No] at *; omega))
  replace hs := hs.upd hu1 (by first | exact (fun h => h) | (simp only [At, No]; omega))
  refine WL.val rfl rfl rfl rfl (r_assign rfl (ev_t rfl)) ?_
  refine WL.nil ?_
  refine WX.keep [(0, _), (2, _), (7, _)] ⟨rfl, rfl, rfl, trivial⟩ ?_
  refine WX.next ?_
  refine WC.seq ?_
  refine WC.seq ?_
  refine WC.region ?_
  refine WL.val rfl rfl rfl rfl (r_move rfl (ev_t rfl)) ?_
  refine WL.cons (SO.call (upto_ok hR (fun h => by have := hFl _ h; omega) (by simp only [inK]; omega) h1) rfl body_42 ⟨(ev_t rfl), ev_c, trivial⟩ rfl rfl rfl rfl ?_)
  rintro v1 w2 ⟨rfl, hR, hu2⟩
  have hs2 := hu2.size
  replace hU := hU.trans hu2 (by first | exact (fun _ _ h => h) | exact (fun _ _ h => h.elim) | (intro k hl hk; (try simp only [At, New, Grow, From, No] at hk ⊢); omega) | (intro k hl hk; simp only [At, No] at *; omega))
  replace hs := hs.upd hu2 (by first | exact (fun h => h) | (simp only [At, No]; omega))
  first | refine WL.val rfl rfl rfl rfl (r_convN rfl (ev_t rfl) some_3 int_5 (by simp only [inK]; omega)) ?_ | refine WL.val rfl rfl rfl rfl (r_conv rfl (ev_t rfl) some_3 int_5) ?_
  refine WL.val rfl rfl rfl rfl (r_assign rfl (ev_t rfl)) ?_
  refine WL.nil ?_
  refine WX.keep [(0, _), (2, _), (7, _), (8, _)] ⟨rfl, rfl, rfl, rfl, trivial⟩ ?_
  refine WX.next ?_
  refine WC.seq ?_
  refine WC.region ?_
  refine WL.val rfl rfl rfl rfl (r_move rfl (ev_t rfl)) ?_
  refine WL.nil ?_
  refine WX.keep [(0, _), (2, _), (7, _), (20, _)] ⟨rfl, rfl, rfl, rfl, trivial⟩ ?_
  refine WX.next ?_
  refine WC.block ?_
  refine WC.seq ?_
  refine WC.region ?_
  refine WL.val rfl rfl rfl rfl (r_eql rfl (ev_t rfl) ev_c) ?_
  refine WL.val rfl rfl rfl rfl (r_assign rfl (ev_t rfl)) ?_
  refine WL.nil ?_
  refine WX.keep [(0, _), (2, _), (7, _), (20, _), (21, _)] ⟨rfl, rfl, rfl, rfl, rfl, trivial⟩ ?_
  refine WX.next ?_
  refine WC.cond rfl (ev_t rfl) (fun hc5 => ?_) (fun hc5 => ?_)
  · try (exfalso; first | (simp at hc5; done) | (simp only [decide_eq_true_eq, decide_eq_false_iff_not, Bool.not_eq_true', Bool.not_eq_false', Bool.not_eq_true, Bool.not_eq_false] at hc5; omega) | omega)
    all_goals
     try simp only [decide_eq_true_eq, decide_eq_false_iff_not, Bool.not_eq_true', Bool.not_eq_false', Bool.not_eq_true, Bool.not_eq_false, Option.isNone_none, Option.isNone_some, Option.isSome_none, Option.isSome_some, ne_eq, Decidable.not_not] at hc5
     refine WC.seq ?_
     refine WC.region ?_
     refine WL.val rfl rfl rfl rfl (r_move rfl (ev_t rfl)) ?_
     fail -- call 6.1 of (*battledore/octet.Reader).Uint
  · try (exfalso; first | (simp at hc5; done) | (simp only [decide_eq_true_eq, decide_eq_false_iff_not, Bool.not_eq_true', Bool.not_eq_false', Bool.not_eq_true, Bool.not_eq_false] at hc5; omega) | omega)
    all_goals
     try simp only [decide_eq_true_eq, decide_eq_false_iff_not, Bool.not_eq_true', Bool.not_eq_false', Bool.not_eq_true, Bool.not_eq_false, Option.isNone_none, Option.isNone_some, Option.isSome_none, Option.isSome_some, ne_eq, Decidable.not_not] at hc5
     refine WC.seq ?_
     refine WC.region ?_
     refine WL.val rfl rfl rfl rfl (r_eql rfl (ev_t rfl) ev_c) ?_
     refine WL.val rfl rfl rfl rfl (r_assign rfl (ev_t rfl)) ?_
     refine WL.nil ?_
     refine WX.keep [(0, _), (2, _), (7, _), (20, _), (46, _)] ⟨rfl, rfl, rfl, rfl, rfl, trivial⟩ ?_
     refine WX.next ?_
     refine WC.cond rfl (ev_t rfl) (fun hc10 => ?_) (fun hc10 => ?_)
     · try (exfalso; first | (simp at hc10; done) | (simp only [decide_eq_true_eq, decide_eq_false_iff_not, Bool.not_eq_true', Bool.not_eq_false', Bool.not_eq_true, Bool.not_eq_false] at hc10; omega) | omega)
       all_goals
        try simp only [decide_eq_true_eq, decide_eq_false_iff_not, Bool.not_eq_true', Bool.not_eq_false', Bool.not_eq_true, Bool.not_eq_false, Option.isNone_none, Option.isNone_some, Option.isSome_none, Option.isSome_some, ne_eq, Decidable.not_not] at hc10
        refine WC.seq ?_
        refine WC.region ?_
        refine WL.val rfl rfl rfl rfl (r_move rfl (ev_t rfl)) ?_
        fail -- call 11.1 of (*battledore/octet.Reader).Uint
     · try (exfalso; first | (simp at hc10; done) | (simp only [decide_eq_true_eq, decide_eq_false_iff_not, Bool.not_eq_true', Bool.not_eq_false', Bool.not_eq_true, Bool.not_eq_false] at hc10; omega) | omega)
       all_goals
        try simp only [decide_eq_true_eq, decide_eq_false_iff_not, Bool.not_eq_true', Bool.not_eq_false', Bool.not_eq_true, Bool.not_eq_false, Option.isNone_none, Option.isNone_some, Option.isSome_none, Option.isSome_some, ne_eq, Decidable.not_not] at hc10
        refine WC.seq ?_
        refine WC.region ?_
        refine WL.val rfl rfl rfl rfl (r_eql rfl (ev_t rfl) ev_c) ?_
        refine WL.val rfl rfl rfl rfl (r_assign rfl (ev_t rfl)) ?_
        refine WL.nil ?_
        refine WX.keep [(0, _), (2, _), (7, _), (20, _), (111, _)] ⟨rfl, rfl, rfl, rfl, rfl, trivial⟩ ?_
        refine WX.next ?_
        refine WC.cond rfl (ev_t rfl) (fun hc16 => ?_) (fun hc16 => ?_)
        · try (exfalso; first | (simp at hc16; done) | (simp only [decide_eq_true_eq, decide_eq_false_iff_not, Bool.not_eq_true', Bool.not_eq_false', Bool.not_eq_true, Bool.not_eq_false] at hc16; omega) | omega)
          all_goals
           try simp only [decide_eq_true_eq, decide_eq_false_iff_not, Bool.not_eq_true', Bool.not_eq_false', Bool.not_eq_true, Bool.not_eq_false, Option.isNone_none, Option.isNone_some, Option.isSome_none, Option.isSome_some, ne_eq, Decidable.not_not] at hc16
           refine WC.seq ?_
           refine WC.region ?_
           refine WL.val rfl rfl rfl rfl (r_move rfl (ev_t rfl)) ?_
           fail -- call 17.1 of (*battledore/octet.Reader).Uint
        · try (exfalso; first | (simp at hc16; done) | (simp only [decide_eq_true_eq, decide_eq_false_iff_not, Bool.not_eq_true', Bool.not_eq_false', Bool.not_eq_true, Bool.not_eq_false] at hc16; omega) | omega)
          all_goals
           try simp only [decide_eq_true_eq, decide_eq_false_iff_not, Bool.not_eq_true', Bool.not_eq_false', Bool.not_eq_true, Bool.not_eq_false, Option.isNone_none, Option.isNone_some, Option.isSome_none, Option.isSome_some, ne_eq, Decidable.not_not] at hc16
           refine WC.seq ?_
           refine WC.region ?_
           refine WL.val rfl rfl rfl rfl (r_eql rfl (ev_t rfl) ev_c) ?_
           refine WL.val rfl rfl rfl rfl (r_assign rfl (ev_t rfl)) ?_
           refine WL.nil ?_
           refine WX.keep [(2, _), (7, _), (125, _)] ⟨rfl, rfl, rfl, trivial⟩ ?_
           refine WX.next ?_
           refine WC.cond rfl (ev_t rfl) (fun hc21 => ?_) (fun hc21 => ?_)
           · try (exfalso; first | (simp at hc21; done) | (simp only [decide_eq_true_eq, decide_eq_false_iff_not, Bool.not_eq_true', Bool.not_eq_false', Bool.not_eq_true, Bool.not_eq_false] at hc21; omega) | omega)
             all_goals
              try simp only [decide_eq_true_eq, decide_eq_false_iff_not, Bool.not_eq_true', Bool.not_eq_false', Bool.not_eq_true, Bool.not_eq_false, Option.isNone_none, Option.isNone_some, Option.isSome_none, Option.isSome_some, ne_eq, Decidable.not_not] at hc21
              refine WC.seq ?_
              refine WC.region ?_
              refine WL.val rfl rfl rfl rfl (r_move rfl (ev_t rfl)) ?_
              refine WL.cons (SO.call (ruint_ok hR (fun h => by have := hFl _ h; omega) h2) rfl body_45 ⟨(ev_t rfl), trivial⟩ rfl rfl rfl rfl ?_)
              rintro v1 w3 ⟨rfl, hR, hu3⟩
              have hs3 := hu3.size
              replace hU := hU.trans hu3 (by first | exact (fun _ _ h => h) | exact (fun _ _ h => h.elim) | (intro k hl hk; (try simp only [At, New, Grow, From, No] at hk ⊢); omega) | (intro k hl hk; simp only [At, No] at *; omega))
              replace hs := hs.upd hu3 (by first | exact (fun h => h) | (simp only [At, No]; omega))
              refine WL.val rfl rfl rfl rfl (r_assign rfl (ev_t rfl)) ?_
              refine WL.nil ?_
              refine WX.keep [(2, _), (7, _), (14, _)] ⟨rfl, rfl, rfl, trivial⟩ ?_
              refine WX.next ?_
              refine WC.seq ?_
              refine WC.seq ?_
              refine WC.region ?_
              refine WL.val rfl rfl rfl rfl (r_move rfl (ev_t rfl)) ?_
              refine WL.cons (SO.call (end_ok hR) rfl body_43 ⟨(ev_t rfl), trivial⟩ rfl rfl rfl rfl ?_)
              rintro v1 w4 ⟨rfl, he⟩
              obtain rfl := he.symm
              refine WL.val rfl rfl rfl rfl (r_not rfl (ev_t rfl)) ?_
              refine WL.val rfl rfl rfl rfl (r_move rfl (ev_t rfl)) ?_
              refine WL.cases 132 rfl (fun hb23_3 => ?_) (fun hb23_3 => ?_)
              · try (exfalso; first | (simp at hb23_3; done) | (simp only [decide_eq_true_eq, decide_eq_false_iff_not, Bool.not_eq_true', Bool.not_eq_false', Bool.not_eq_true, Bool.not_eq_false] at hb23_3; omega) | omega)
                all_goals
                 try simp only [decide_eq_true_eq, decide_eq_false_iff_not, Bool.not_eq_true', Bool.not_eq_false', Bool.not_eq_true, Bool.not_eq_false, Option.isNone_none, Option.isNone_some, Option.isSome_none, Option.isSome_some, ne_eq, Decidable.not_not] at hb23_3
                 refine WL.skip rfl rfl rfl ?_
                 refine WL.skip rfl rfl rfl ?_
                 refine WL.val rfl rfl rfl rfl (r_pickT rfl (ev_t rfl) ev_c) ?_
                 refine WL.nil ?_
                 refine WX.keep [(2, _), (14, _), (135, _)] ⟨rfl, rfl, rfl, trivial⟩ ?_
                 refine WX.next ?_
                 refine WC.cond_true rfl (ev_t rfl) ?_
                 refine WC.seq ?_
                 refine WC.region ?_
                 refine WL.val rfl rfl rfl rfl (r_assign rfl ev_c) ?_
                 refine WL.nil ?_
                 refine WX.keep [(6, _)] ⟨rfl, trivial⟩ ?_
                 refine WX.next ?_
                 refine WC.ret ?_
                 refine WX.thenRet ?_
                 refine WX.blockRet ?_
                 refine WX.thenRet ?_
                 refine WX.retE1 rfl rfl ?_
                 exact ⟨rfl, hs, hU⟩
              · try (exfalso; first | (simp at hb23_3; done) | (simp only [decide_eq_true_eq, decide_eq_false_iff_not, Bool.not_eq_true', Bool.not_eq_false', Bool.not_eq_true, Bool.not_eq_false] at hb23_3; omega) | omega)
                all_goals
                 try simp only [decide_eq_true_eq, decide_eq_false_iff_not, Bool.not_eq_true', Bool.not_eq_false', Bool.not_eq_true, Bool.not_eq_false, Option.isNone_none, Option.isNone_some, Option.isSome_none, Option.isSome_some, ne_eq, Decidable.not_not] at hb23_3
                 refine WL.val rfl rfl rfl rfl (r_move rfl (ev_t rfl)) ?_
                 refine WL.val rfl rfl rfl rfl (r_eql rfl (ev_t rfl) ev_c) ?_
                 refine WL.val rfl rfl rfl rfl (r_pickF rfl (ev_t rfl) (ev_t rfl)) ?_
                 refine WL.nil ?_
                 refine WX.keep [(2, _), (14, _), (135, _)] ⟨rfl, rfl, rfl, trivial⟩ ?_
                 refine WX.next ?_
                 refine WC.cond rfl (ev_t rfl) (fun hc23 => ?_) (fun hc23 => ?_)
                 · try (exfalso; first | (simp at hc23; done) | (simp only [decide_eq_true_eq, decide_eq_false_iff_not, Bool.not_eq_true', Bool.not_eq_false', Bool.not_eq_true, Bool.not_eq_false] at hc23; omega) | omega)
                   all_goals
                    try simp only [decide_eq_true_eq, decide_eq_false_iff_not, Bool.not_eq_true', Bool.not_eq_false', Bool.not_eq_true, Bool.not_eq_false, Option.isNone_none, Option.isNone_some, Option.isSome_none, Option.isSome_some, ne_eq, Decidable.not_not] at hc23
                    refine WC.seq ?_
                    refine WC.region ?_
                    refine WL.val rfl rfl rfl rfl (r_assign rfl ev_c) ?_
                    refine WL.nil ?_
                    refine WX.keep [(6, _)] ⟨rfl, trivial⟩ ?_
                    refine WX.next ?_
                    refine WC.ret ?_
                    refine WX.thenRet ?_
                    refine WX.blockRet ?_
                    refine WX.thenRet ?_
                    refine WX.retE1 rfl rfl ?_
                    exact ⟨rfl, hs, hU⟩
                 · try (exfalso; first | (simp at hc23; done) | (simp only [decide_eq_true_eq, decide_eq_false_iff_not, Bool.not_eq_true', Bool.not_eq_false', Bool.not_eq_true, Bool.not_eq_false] at hc23; omega) | omega)
                   all_goals
                    try simp only [decide_eq_true_eq, decide_eq_false_iff_not, Bool.not_eq_true', Bool.not_eq_false', Bool.not_eq_true, Bool.not_eq_false, Option.isNone_none, Option.isNone_some, Option.isSome_none, Option.isSome_some, ne_eq, Decidable.not_not] at hc23
                    refine WC.skip ?_
                    refine WX.next ?_
                    refine WC.region ?_
                    refine WL.val rfl rfl rfl rfl (r_move rfl (ev_t rfl)) ?_
                    refine WL.val rfl rfl rfl rfl (r_move rfl (ev_t rfl)) ?_
                    refine WL.val rfl rfl rfl rfl (r_nilCheck rfl (ev_t rfl)) ?_
                    refine WL.cons (SO.store rfl (ev_t rfl) (ev_t rfl) size_29 hs rfl rfl rfl rfl rfl ?_)
                    intro w5 hu5 hs hz5
                    have hs5 := hu5.size
                    replace hU := hU.trans hu5 (by first | exact (fun _ _ h => h) | exact (fun _ _ h => h.elim) | (intro k hl hk; (try simp only [At, New, Grow, From, No] at hk ⊢); omega) | (intro k hl hk; simp only [At, No] at *; omega))
                    refine WL.nil ?_
                    refine WX.keep [] trivial ?_
                    refine WX.blockNormal ?_
                    refine WX.next ?_
                    refine WC.seq ?_
                    refine WC.region ?_
                    refine WL.val rfl rfl rfl rfl (r_assign rfl ev_c) ?_
                    refine WL.nil ?_
                    refine WX.keep [(6, _)] ⟨rfl, trivial⟩ ?_
                    refine WX.next ?_
                    refine WC.ret ?_
                    refine WX.retE1 rfl rfl ?_
                    exact ⟨rfl, hs, hU⟩
           · try (exfalso; first | (simp at hc21; done) | (simp only [decide_eq_true_eq, decide_eq_false_iff_not, Bool.not_eq_true', Bool.not_eq_false', Bool.not_eq_true, Bool.not_eq_false] at hc21; omega) | omega)
             all_goals
              try simp only [decide_eq_true_eq, decide_eq_false_iff_not, Bool.not_eq_true', Bool.not_eq_false', Bool.not_eq_true, Bool.not_eq_false, Option.isNone_none, Option.isNone_some, Option.isSome_none, Option.isSome_some, ne_eq, Decidable.not_not] at hc21
              refine WC.seq ?_
              refine WC.region ?_
              refine WL.val rfl rfl rfl rfl (r_assign rfl ev_c) ?_
              refine WL.nil ?_
              refine WX.keep [(6, _)] ⟨rfl, trivial⟩ ?_
              refine WX.next ?_
              refine WC.ret ?_
              refine WX.blockRet ?_
              refine WX.thenRet ?_
              refine WX.retE1 rfl rfl ?_
              exact ⟨rfl, hs, hU⟩
theorem stC_get (s : WSt) (lv : Value) : (stC s lv)[2]? = some (.int .u64 (s.base : Int)) ∧ (stC s lv)[3]? = some lv := ⟨rfl, rfl⟩
set_option maxHeartbeats 2000000 in
theorem takeEntry_ok {w : World} {F : Nat → Prop} {bv : Value} {b : List UInt8} {g gt : Nat} {s : WSt} {s1 s2 s3 s4 s5 : Option (List UInt8)} {i : Nat} {x : En} (hb : Rd w F bv b.length 1 (b.map U8)) (hFl : ∀ k, F k → k < w.heap.size ∧ k ≠ g) (hs : Blk w g (stC s (.slice none 0 0)) 36)
    (h1 : uptoR 255 (some b) = (2, s1)) (h2 : uintR s1 = (i, s2)) (h3 : uintR s2 = (x.term, s3)) (h4 : uintR s3 = (x.ses, s4)) (h5 : uintR s4 = (x.num, s5)) (h6 : bytesR 4000 s5 = (x.cell, some [])) (hi : i = s.base + 1) :
    Ret Try.prog 36 #[.pointer (some ⟨g, 0, none⟩), bv, .pointer (some ⟨gt, 0, none⟩)] w fun u w' => u = .bool true ∧ ∃ lv, Blk w' g (stC s lv) 36 ∧ Ents w' (New w w') lv [x] ∧ Upd (At g) w w' := by
  have hil := uintR_lt s1
  rw [h2] at hil
  simp only at hil
  have hg := hs.lt
  refine enterRet (vs := [_, _, _]) (N := 139) Try.func36 rfl rfl rfl ?_
  have hU := Upd.refl (At g) w
  refine WC.keep [(0, _), (1, _), (2, _)] ⟨rfl, rfl, rfl, trivial⟩ ?_
  refine WC.seq ?_
  refine WC.region ?_
  refine WL.val rfl rfl rfl rfl (r_assign rfl ev_c) ?_
  refine WL.nil ?_
  refine WX.keep [(0, _), (1, _), (2, _)] ⟨rfl, rfl, rfl, trivial⟩ ?_
  refine WX.next ?_
  refine WC.seq ?_
  refine WC.region ?_
  refine WL.val rfl rfl rfl rfl (r_move rfl (ev_t rfl)) ?_
  refine WL.cons (SO.call (newReader_ok (hb.upd hU (fun k hk _ h => by have := hFl k hk; simp only [At] at h; omega))) rfl body_41 ⟨(ev_t rfl), trivial⟩ rfl rfl rfl rfl ?_)
  rintro v1 w1 ⟨rfl, hR, hu1⟩
  obtain ⟨g1, hg1⟩ : ∃ q, q = w.heap.size := ⟨_, rfl⟩
  rw [← hg1] at hR ⊢
  have hg1l : g1 < w1.heap.size := by obtain ⟨A9, c9, hb9, _⟩ := hR; exact hb9.lt
  have hs1 := hu1.size
  replace hU := hU.trans hu1 (by first | exact (fun _ _ h => h) | exact (fun _ _ h => h.elim) | (intro k hl hk; (try simp only [At, New, Grow, From, No] at hk ⊢); omega) | (intro k hl hk; simp only [At, No] at *; omega))
  replace hs := hs.upd hu1 (by first | exact (fun h => h) | (simp only [At, No]; omega))
  refine WL.val rfl rfl rfl rfl (r_assign rfl (ev_t rfl)) ?_
  refine WL.nil ?_
  refine WX.keep [(0, _), (2, _), (7, _)] ⟨rfl, rfl, rfl, trivial⟩ ?_
  refine WX.next ?_
  refine WC.seq ?_
  refine WC.seq ?_
  refine WC.region ?_
  refine WL.val rfl rfl rfl rfl (r_move rfl (ev_t rfl)) ?_
  refine WL.cons (SO.call (upto_ok hR (fun h => by have := hFl _ h; omega) (by simp only [inK]; omega) h1) rfl body_42 ⟨(ev_t rfl), ev_c, trivial⟩ rfl rfl rfl rfl ?_)
  rintro v1 w2 ⟨rfl, hR, hu2⟩
  have hs2 := hu2.size
  replace hU := hU.trans hu2 (by first | exact (fun _ _ h => h) | exact (fun _ _ h => h.elim) | (intro k hl hk; (try simp only [At, New, Grow, From, No] at hk ⊢); omega) | (intro k hl hk; simp only [At, No] at *; omega))
  replace hs := hs.upd hu2 (by first | exact (fun h => h) | (simp only [At, No]; omega))
  first | refine WL.val rfl rfl rfl rfl (r_convN rfl (ev_t rfl) some_3 int_5 (by simp only [inK]; omega)) ?_ | refine WL.val rfl rfl rfl rfl (r_conv rfl (ev_t rfl) some_3 int_5) ?_
  refine WL.val rfl rfl rfl rfl (r_assign rfl (ev_t rfl)) ?_
  refine WL.nil ?_
  refine WX.keep [(0, _), (2, _), (7, _), (8, _)] ⟨rfl, rfl, rfl, rfl, trivial⟩ ?_
  refine WX.next ?_
  refine WC.seq ?_
  refine WC.region ?_
  refine WL.val rfl rfl rfl rfl (r_move rfl (ev_t rfl)) ?_
  refine WL.nil ?_
  refine WX.keep [(0, _), (2, _), (7, _), (20, _)] ⟨rfl, rfl, rfl, rfl, trivial⟩ ?_
  refine WX.next ?_
  refine WC.block ?_
  refine WC.seq ?_
  refine WC.region ?_
  refine WL.val rfl rfl rfl rfl (r_eql rfl (ev_t rfl) ev_c) ?_
  refine WL.val rfl rfl rfl rfl (r_assign rfl (ev_t rfl)) ?_
  refine WL.nil ?_
  refine WX.keep [(0, _), (2, _), (7, _), (20, _), (21, _)] ⟨rfl, rfl, rfl, rfl, rfl, trivial⟩ ?_
  refine WX.next ?_
  refine WC.cond rfl (ev_t rfl) (fun hc5 => ?_) (fun hc5 => ?_)
  · try (exfalso; first | (simp at hc5; done) | (simp only [decide_eq_true_eq, decide_eq_false_iff_not, Bool.not_eq_true', Bool.not_eq_false', Bool.not_eq_true, Bool.not_eq_false] at hc5; omega) | omega)
    all_goals
     try simp only [decide_eq_true_eq, decide_eq_false_iff_not, Bool.not_eq_true', Bool.not_eq_false', Bool.not_eq_true, Bool.not_eq_false, Option.isNone_none, Option.isNone_some, Option.isSome_none, Option.isSome_some, ne_eq, Decidable.not_not] at hc5
     refine WC.seq ?_
     refine WC.region ?_
     refine WL.val rfl rfl rfl rfl (r_move rfl (ev_t rfl)) ?_
     fail -- call 6.1 of (*battledore/octet.Reader).Uint
  · try (exfalso; first | (simp at hc5; done) | (simp only [decide_eq_true_eq, decide_eq_false_iff_not, Bool.not_eq_true', Bool.not_eq_false', Bool.not_eq_true, Bool.not_eq_false] at hc5; omega) | omega)
    all_goals
     try simp only [decide_eq_true_eq, decide_eq_false_iff_not, Bool.not_eq_true', Bool.not_eq_false', Bool.not_eq_true, Bool.not_eq_false, Option.isNone_none, Option.isNone_some, Option.isSome_none, Option.isSome_some, ne_eq, Decidable.not_not] at hc5
     refine WC.seq ?_
     refine WC.region ?_
     refine WL.val rfl rfl rfl rfl (r_eql rfl (ev_t rfl) ev_c) ?_
     refine WL.val rfl rfl rfl rfl (r_assign rfl (ev_t rfl)) ?_
     refine WL.nil ?_
     refine WX.keep [(0, _), (2, _), (7, _), (20, _), (46, _)] ⟨rfl, rfl, rfl, rfl, rfl, trivial⟩ ?_
     refine WX.next ?_
     refine WC.cond rfl (ev_t rfl) (fun hc10 => ?_) (fun hc10 => ?_)
     · try (exfalso; first | (simp at hc10; done) | (simp only [decide_eq_true_eq, decide_eq_false_iff_not, Bool.not_eq_true', Bool.not_eq_false', Bool.not_eq_true, Bool.not_eq_false] at hc10; omega) | omega)
       all_goals
        try simp only [decide_eq_true_eq, decide_eq_false_iff_not, Bool.not_eq_true', Bool.not_eq_false', Bool.not_eq_true, Bool.not_eq_false, Option.isNone_none, Option.isNone_some, Option.isSome_none, Option.isSome_some, ne_eq, Decidable.not_not] at hc10
        refine WC.seq ?_
        refine WC.region ?_
        refine WL.val rfl rfl rfl rfl (r_move rfl (ev_t rfl)) ?_
        refine WL.cons (SO.call (ruint_ok hR (fun h => by have := hFl _ h; omega) h2) rfl body_45 ⟨(ev_t rfl), trivial⟩ rfl rfl rfl rfl ?_)
        rintro v1 w3 ⟨rfl, hR, hu3⟩
        have hs3 := hu3.size
        replace hU := hU.trans hu3 (by first | exact (fun _ _ h => h) | exact (fun _ _ h => h.elim) | (intro k hl hk; (try simp only [At, New, Grow, From, No] at hk ⊢); omega) | (intro k hl hk; simp only [At, No] at *; omega))
        replace hs := hs.upd hu3 (by first | exact (fun h => h) | (simp only [At, No]; omega))
        refine WL.val rfl rfl rfl rfl (r_assign rfl (ev_t rfl)) ?_
        refine WL.nil ?_
        refine WX.keep [(0, _), (7, _), (11, _)] ⟨rfl, rfl, rfl, trivial⟩ ?_
        refine WX.next ?_
        refine WC.seq ?_
        refine WC.region ?_
        refine WL.val rfl rfl rfl rfl (r_move rfl (ev_t rfl)) ?_
        refine WL.cons (SO.call (ruint_ok hR (fun h => by have := hFl _ h; omega) h3) rfl body_45 ⟨(ev_t rfl), trivial⟩ rfl rfl rfl rfl ?_)
        rintro v1 w4 ⟨rfl, hR, hu4⟩
        have hs4 := hu4.size
        replace hU := hU.trans hu4 (by first | exact (fun _ _ h => h) | exact (fun _ _ h => h.elim) | (intro k hl hk; (try simp only [At, New, Grow, From, No] at hk ⊢); omega) | (intro k hl hk; simp only [At, No] at *; omega))
        replace hs := hs.upd hu4 (by first | exact (fun h => h) | (simp only [At, No]; omega))
        refine WL.val rfl rfl rfl rfl (r_move rfl (ev_t rfl)) ?_
        refine WL.cons (SO.call (ruint_ok hR (fun h => by have := hFl _ h; omega) h4) rfl body_45 ⟨(ev_t rfl), trivial⟩ rfl rfl rfl rfl ?_)
        rintro v1 w5 ⟨rfl, hR, hu5⟩
        have hs5 := hu5.size
        replace hU := hU.trans hu5 (by first | exact (fun _ _ h => h) | exact (fun _ _ h => h.elim) | (intro k hl hk; (try simp only [At, New, Grow, From, No] at hk ⊢); omega) | (intro k hl hk; simp only [At, No] at *; omega))
        replace hs := hs.upd hu5 (by first | exact (fun h => h) | (simp only [At, No]; omega))
        refine WL.val rfl rfl rfl rfl (r_move rfl (ev_t rfl)) ?_
        refine WL.cons (SO.call (ruint_ok hR (fun h => by have := hFl _ h; omega) h5) rfl body_45 ⟨(ev_t rfl), trivial⟩ rfl rfl rfl rfl ?_)
        rintro v1 w6 ⟨rfl, hR, hu6⟩
        have hs6 := hu6.size
        replace hU := hU.trans hu6 (by first | exact (fun _ _ h => h) | exact (fun _ _ h => h.elim) | (intro k hl hk; (try simp only [At, New, Grow, From, No] at hk ⊢); omega) | (intro k hl hk; simp only [At, No] at *; omega))
        replace hs := hs.upd hu6 (by first | exact (fun h => h) | (simp only [At, No]; omega))
        refine WL.val rfl rfl rfl rfl (r_move rfl (ev_t rfl)) ?_
        refine WL.cons (SO.call (bytes_ok hR (fun h => by have := hFl _ h; omega) (by simp only [inK]; omega) h6) rfl body_47 ⟨(ev_t rfl), ev_c, trivial⟩ rfl rfl rfl rfl ?_)
        rintro v1 w7 ⟨hc, hR, hu7, hcl⟩
        obtain ⟨Ac, cc, rfl, hcc⟩ := Own.form hc
        have hbig := hU.size
        have hs7 := hu7.size
        replace hU := hU.trans hu7 (by first | exact (fun _ _ h => h) | exact (fun _ _ h => h.elim) | (intro k hl hk; (try simp only [At, New, Grow, From, No] at hk ⊢); omega) | (intro k hl hk; simp only [At, No] at *; omega))
        replace hs := hs.upd hu7 (by first | exact (fun h => h) | (simp only [At, No]; omega))
        refine WL.val rfl rfl rfl rfl (r_build (cs := #[_, _, _, _]) (vs := [(0, _), (1, _), (2, _), (3, _)]) rfl ⟨⟨rfl, (ev_t rfl)⟩, ⟨rfl, (ev_t rfl)⟩, ⟨rfl, (ev_t rfl)⟩, ⟨rfl, (ev_t rfl)⟩, trivial⟩ plc_33 zero_33 rfl) ?_
        refine WL.cons (SO.alloc rfl rfl rfl rfl (r_alloc rfl zero_33) ?_)
        intro w8 hu8 hB8 hz8
        have hs8 := hu8.size
        replace hU := hU.trans hu8 (by first | exact (fun _ _ h => h) | exact (fun _ _ h => h.elim) | (intro k hl hk; (try simp only [At, New, Grow, From, No] at hk ⊢); omega) | (intro k hl hk; simp only [At, No] at *; omega))
        replace hs := hs.upd hu8 (by first | exact (fun h => h) | (simp only [At, No]; omega))
        replace hc := hc.upd hu8 (by first | exact (fun _ _ _ h => h) | (intro k hk hl hS; simp only [At, New, No] at *; omega))
        replace hR := hR.upd hu8 (by first | exact (fun h => h) | (simp only [At, No]; omega)) (by first | exact (fun _ _ _ h => h) | (intro k hk hl hS; have := hFl k hk; simp only [At, No] at hS; omega))
        refine WL.cons (SO.storeAll (us := [_, _, _, _]) rfl (ev_t rfl) (ev_t rfl) size_33 hB8 rfl rfl rfl rfl rfl ?_)
        intro w9 hu9 hB8 hz9
        have hs9 := hu9.size
        replace hU := hU.trans hu9 (by first | exact (fun _ _ h => h) | exact (fun _ _ h => h.elim) | (intro k hl hk; (try simp only [At, New, Grow, From, No] at hk ⊢); omega) | (intro k hl hk; simp only [At, No] at *; omega))
        replace hs := hs.upd hu9 (by first | exact (fun h => h) | (simp only [At, No]; omega))
        replace hc := hc.upd hu9 (by first | exact (fun _ _ _ h => h) | (intro k hk hl hS; simp only [At, New, No] at *; omega))
        replace hR := hR.upd hu9 (by first | exact (fun h => h) | (simp only [At, No]; omega)) (by first | exact (fun _ _ _ h => h) | (intro k hk hl hS; have := hFl k hk; simp only [At, No] at hS; omega))
        refine WL.nil ?_
        refine WX.keep [(0, _), (7, _), (11, _), (12, _)] ⟨rfl, rfl, rfl, rfl, trivial⟩ ?_
        refine WX.next ?_
        refine WC.seq ?_
        refine WC.seq ?_
        refine WC.draws' (fun u0_ u1_ => Upd No u0_ u1_) (fun j => [0, 1, 0, 0, 0, 0, 0, 0, 1, 0, 0, 0, 0, 0, 0, 0, 0, 0, 0, 0, 0, 1, 0, 0, 0, 0, 0].getD j 0) (.calm 0 (.one 1 (.calm 2 (.calm 3 (.calm 4 (.calm 5 (.calm 6 (.calm 7 (.one 8 (.calm 9 (.calm 10 (.calm 11 (.calm 12 (.calm 13 (.calm 14 (.calm 15 (.calm 18 (.calm 19 (.calm 20 (.held 16 (.calm 17 (.one 21 (.calm 22 (.calm 23 (.calm 24 (.calm 25 (.calm 26 (.done)))))))))))))))))))))))))))) mixed (by kernel_rfl) (by repeat (first | with_reducible exact Deaf.body | with_reducible apply Deaf.then | with_reducible apply Deaf.block)) ?_
        intro w10 hu10
        have hz10 := congrArg Array.size hu10.2.2.2
        replace hu10 := Upd.of_draw hu10
        have hs10 := hu10.size
        replace hU := hU.trans hu10 (by first | exact (fun _ _ h => h) | exact (fun _ _ h => h.elim) | (intro k hl hk; (try simp only [At, New, Grow, From, No] at hk ⊢); omega) | (intro k hl hk; simp only [At, No] at *; omega))
        replace hs := hs.upd hu10 (by first | exact (fun h => h) | (simp only [At, No]; omega))
        replace hc := hc.upd hu10 (by first | exact (fun _ _ _ h => h) | (intro k hk hl hS; simp only [At, New, No] at *; omega))
        replace hR := hR.upd hu10 (by first | exact (fun h => h) | (simp only [At, No]; omega)) (by first | exact (fun _ _ _ h => h) | (intro k hk hl hS; have := hFl k hk; simp only [At, No] at hS; omega))
        replace hB8 := hB8.updA hu10
        have hS13 := Upd.refl No w10
        have hxB := hB8
        change Blk _ _ #[.int .u64 (x.term : Int), .int .u64 (x.ses : Int), .int .u64 (x.num : Int), .slice Ac x.cell.length cc] _ at hxB
        refine WN.calm _ rfl rfl rfl rfl rfl (fun _ => r_move rfl (ev_t rfl)) ?_
        refine WN.step _ rfl (SO.call (end_ok hR) rfl body_43 ⟨(ev_t rfl), trivial⟩ rfl rfl rfl rfl ?_)
        rintro v1 w11 ⟨rfl, he⟩
        obtain rfl := he.symm
        refine ⟨hS13, ?_⟩
        refine WN.calm _ rfl rfl rfl rfl rfl (fun _ => r_not rfl (ev_t rfl)) ?_
        refine WN.calm _ rfl rfl rfl rfl rfl (fun _ => r_move rfl (ev_t rfl)) ?_
        refine WN.cases 62 rfl (fun hb13_3 => ?_) (fun hb13_3 => ?_)
        · try (exfalso; first | (simp at hb13_3; done) | (simp only [decide_eq_true_eq, decide_eq_false_iff_not, Bool.not_eq_true', Bool.not_eq_false', Bool.not_eq_true, Bool.not_eq_false] at hb13_3; omega) | omega)
          all_goals
           try simp only [decide_eq_true_eq, decide_eq_false_iff_not, Bool.not_eq_true', Bool.not_eq_false', Bool.not_eq_true, Bool.not_eq_false, Option.isNone_none, Option.isNone_some, Option.isSome_none, Option.isSome_some, ne_eq, Decidable.not_not] at hb13_3
           refine WN.skip _ rfl rfl rfl rfl ?_
           refine WN.skip _ rfl rfl rfl rfl ?_
           refine WN.skip _ rfl rfl rfl rfl ?_
           refine WN.skip _ rfl rfl rfl rfl ?_
           refine WN.step _ rfl (SO.skip rfl rfl rfl ?_)
           refine ⟨hS13, ?_⟩
           refine WN.skip _ rfl rfl rfl rfl ?_
           refine WN.calm _ rfl rfl rfl rfl rfl (fun _ => r_pickT rfl (ev_t rfl) ev_c) ?_
           refine WN.calm _ rfl rfl rfl rfl rfl (fun _ => r_move rfl (ev_t rfl)) ?_
           refine WN.skip _ rfl rfl rfl rfl ?_
           refine WN.skip _ rfl rfl rfl rfl ?_
           refine WN.skip _ rfl rfl rfl rfl ?_
           refine WN.skip _ rfl rfl rfl rfl ?_
           refine WN.skip _ rfl rfl rfl rfl ?_
           refine WN.skip _ rfl rfl rfl rfl ?_
           refine WN.skip _ rfl rfl rfl rfl ?_
           refine WN.heldSkip _ rfl rfl rfl rfl hS13 ?_
           refine WN.skip _ rfl rfl rfl rfl ?_
           refine WN.step _ rfl (SO.skip rfl rfl rfl ?_)
           refine ⟨hS13, ?_⟩
           refine WN.skip _ rfl rfl rfl rfl ?_
           refine WN.skip _ rfl rfl rfl rfl ?_
           refine WN.skip _ rfl rfl rfl rfl ?_
           refine WN.skip _ rfl rfl rfl rfl ?_
           refine WN.calm _ rfl rfl rfl rfl rfl (fun _ => r_pickT rfl (ev_t rfl) ev_c) ?_
           refine WN.done ?_
           refine WX.keep [(0, _), (11, _), (12, _), (85, _)] ⟨rfl, rfl, rfl, rfl, trivial⟩ ?_
           refine WX.next ?_
           refine WC.cond_true rfl (ev_t rfl) ?_
           refine WC.seq ?_
           refine WC.region ?_
           refine WL.val rfl rfl rfl rfl (r_assign rfl ev_c) ?_
           refine WL.nil ?_
           refine WX.keep [(6, _)] ⟨rfl, trivial⟩ ?_
           refine WX.next ?_
           refine WC.ret ?_
           refine WX.thenRet ?_
           refine WX.blockRet ?_
           refine WX.thenRet ?_
           refine WX.retE1 rfl rfl ?_
           refine ⟨rfl, _, hs, ?_, hU⟩
           refine ⟨[⟨x, .slice Ac x.cell.length cc⟩], rfl, ?_, fun r hr => ?_⟩
           · exact (hrow.rd (by simp)).mono fun k hk => by simp only [Grow, No, New, false_or] at *; omega
           · obtain rfl := List.mem_singleton.1 hr
             exact (hc.rd (by omega)).mono fun k hk => by simp only [New] at *; omega
        · try (exfalso; first | (simp at hb13_3; done) | (simp only [decide_eq_true_eq, decide_eq_false_iff_not, Bool.not_eq_true', Bool.not_eq_false', Bool.not_eq_true, Bool.not_eq_false] at hb13_3; omega) | omega)
          all_goals
           try simp only [decide_eq_true_eq, decide_eq_false_iff_not, Bool.not_eq_true', Bool.not_eq_false', Bool.not_eq_true, Bool.not_eq_false, Option.isNone_none, Option.isNone_some, Option.isSome_none, Option.isSome_some, ne_eq, Decidable.not_not] at hb13_3
           refine WN.calm _ rfl rfl rfl rfl rfl (fun _ => r_move rfl (ev_t rfl)) ?_
           refine WN.calm _ rfl rfl rfl rfl rfl (fun _ => r_move rfl (ev_t rfl)) ?_
           refine WN.calm _ rfl rfl rfl rfl rfl (fun _ => r_nilCheck rfl (ev_t rfl)) ?_
           first | refine WN.calm _ rfl rfl rfl rfl rfl (fun _ => r_field0 rfl (ev_t rfl) fld_36_2) ?_ | refine WN.calm _ rfl rfl rfl rfl rfl (fun _ => r_fieldAt rfl (ev_t rfl) fld_36_2) ?_
           refine WN.step _ rfl (SO.val rfl rfl rfl rfl (r_load rfl (ev_t rfl) flat_29 (Blk.cell hs rfl)) ?_)
           refine ⟨hS13, ?_⟩
           refine WN.calm _ rfl rfl rfl rfl rfl (fun _ => r_leq rfl (ev_t rfl) (ev_t rfl)) ?_
           refine WN.calm _ rfl rfl rfl rfl rfl (fun _ => r_pickF rfl (ev_t rfl) (ev_t rfl)) ?_
           refine WN.calm _ rfl rfl rfl rfl rfl (fun _ => r_move rfl (ev_t rfl)) ?_
           refine WN.cases 70 rfl (fun hb13_11 => ?_) (fun hb13_11 => ?_)
           · try (exfalso; first | (simp at hb13_11; done) | (simp only [decide_eq_true_eq, decide_eq_false_iff_not, Bool.not_eq_true', Bool.not_eq_false', Bool.not_eq_true, Bool.not_eq_false] at hb13_11; omega) | omega)
             all_goals
              try simp only [decide_eq_true_eq, decide_eq_false_iff_not, Bool.not_eq_true', Bool.not_eq_false', Bool.not_eq_true, Bool.not_eq_false, Option.isNone_none, Option.isNone_some, Option.isSome_none, Option.isSome_some, ne_eq, Decidable.not_not] at hb13_11
              refine WN.skip _ rfl rfl rfl rfl ?_
              refine WN.skip _ rfl rfl rfl rfl ?_
              refine WN.skip _ rfl rfl rfl rfl ?_
              refine WN.skip _ rfl rfl rfl rfl ?_
              refine WN.skip _ rfl rfl rfl rfl ?_
              refine WN.skip _ rfl rfl rfl rfl ?_
              refine WN.skip _ rfl rfl rfl rfl ?_
              refine WN.heldSkip _ rfl rfl rfl rfl hS13 ?_
              refine WN.skip _ rfl rfl rfl rfl ?_
              refine WN.step _ rfl (SO.skip rfl rfl rfl ?_)
              refine ⟨hS13, ?_⟩
              refine WN.skip _ rfl rfl rfl rfl ?_
              refine WN.skip _ rfl rfl rfl rfl ?_
              refine WN.skip _ rfl rfl rfl rfl ?_
              refine WN.skip _ rfl rfl rfl rfl ?_
              refine WN.calm _ rfl rfl rfl rfl rfl (fun _ => r_pickT rfl (ev_t rfl) ev_c) ?_
              refine WN.done ?_
              refine WX.keep [(0, _), (11, _), (12, _), (85, _)] ⟨rfl, rfl, rfl, rfl, trivial⟩ ?_
              refine WX.next ?_
              refine WC.cond_true rfl (ev_t rfl) ?_
              refine WC.seq ?_
              refine WC.region ?_
              refine WL.val rfl rfl rfl rfl (r_assign rfl ev_c) ?_
              refine WL.nil ?_
              refine WX.keep [(6, _)] ⟨rfl, trivial⟩ ?_
              refine WX.next ?_
              refine WC.ret ?_
              refine WX.thenRet ?_
              refine WX.blockRet ?_
              refine WX.thenRet ?_
              refine WX.retE1 rfl rfl ?_
              refine ⟨rfl, _, hs, ?_, hU⟩
              refine ⟨[⟨x, .slice Ac x.cell.length cc⟩], rfl, ?_, fun r hr => ?_⟩
              · exact (hrow.rd (by simp)).mono fun k hk => by simp only [Grow, No, New, false_or] at *; omega
              · obtain rfl := List.mem_singleton.1 hr
                exact (hc.rd (by omega)).mono fun k hk => by simp only [New] at *; omega
           · try (exfalso; first | (simp at hb13_11; done) | (simp only [decide_eq_true_eq, decide_eq_false_iff_not, Bool.not_eq_true', Bool.not_eq_false', Bool.not_eq_true, Bool.not_eq_false] at hb13_11; omega) | omega)
             all_goals
              try simp only [decide_eq_true_eq, decide_eq_false_iff_not, Bool.not_eq_true', Bool.not_eq_false', Bool.not_eq_true, Bool.not_eq_false, Option.isNone_none, Option.isNone_some, Option.isSome_none, Option.isSome_some, ne_eq, Decidable.not_not] at hb13_11
              refine WN.calm _ rfl rfl rfl rfl rfl (fun _ => r_move rfl (ev_t rfl)) ?_
              refine WN.calm _ rfl rfl rfl rfl rfl (fun _ => r_move rfl (ev_t rfl)) ?_
              refine WN.calm _ rfl rfl rfl rfl rfl (fun _ => r_nilCheck rfl (ev_t rfl)) ?_
              first | refine WN.calm _ rfl rfl rfl rfl rfl (fun _ => r_field0 rfl (ev_t rfl) fld_36_2) ?_ | refine WN.calm _ rfl rfl rfl rfl rfl (fun _ => r_fieldAt rfl (ev_t rfl) fld_36_2) ?_
              refine WN.calm _ rfl rfl rfl rfl rfl (fun _ => r_move rfl (ev_t rfl)) ?_
              refine WN.calm _ rfl rfl rfl rfl rfl (fun _ => r_nilCheck rfl (ev_t rfl)) ?_
              first | refine WN.calm _ rfl rfl rfl rfl rfl (fun _ => r_field0 rfl (ev_t rfl) fld_36_3) ?_ | refine WN.calm _ rfl rfl rfl rfl rfl (fun _ => r_fieldAt rfl (ev_t rfl) fld_36_3) ?_
              refine WN.held _ rfl rfl rfl rfl rfl hS13 (fun w' hS => r_load rfl (ev_t rfl) flat_29 (Blk.cell (hs.upd hS (fun h => h)) rfl)) ?_
              first | refine WN.calm _ rfl rfl rfl rfl rfl (fun _ => r_subN rfl (ev_t rfl) (ev_t rfl) (by simp only [inK]; omega)) ?_ | refine WN.calm _ rfl rfl rfl rfl rfl (fun _ => r_sub rfl (ev_t rfl) (ev_t rfl)) ?_
              refine WN.step _ rfl (SO.val rfl rfl rfl rfl (r_load rfl (ev_t rfl) flat_28 (Blk.cell hs rfl)) ?_)
              refine ⟨hS13, ?_⟩
              refine WN.calm _ rfl rfl rfl rfl rfl (fun _ => r_lenSlice (ts := #[]) rfl (ev_t rfl) elem_28) ?_
              first | refine WN.calm _ rfl rfl rfl rfl rfl (fun _ => r_convN rfl (ev_t rfl) some_3 int_29 (by simp only [inK]; omega)) ?_ | refine WN.calm _ rfl rfl rfl rfl rfl (fun _ => r_conv rfl (ev_t rfl) some_3 int_29) ?_
              first | refine WN.calm _ rfl rfl rfl rfl rfl (fun _ => r_addN rfl (ev_t rfl) ev_c (by simp only [inK]; omega)) ?_ | refine WN.calm _ rfl rfl rfl rfl rfl (fun _ => r_add rfl (ev_t rfl) ev_c) ?_
              refine WN.calm _ rfl rfl rfl rfl rfl (fun _ => r_gtr rfl (ev_t rfl) (ev_t rfl)) ?_
              refine WN.calm _ rfl rfl rfl rfl rfl (fun _ => r_pickF rfl (ev_t rfl) (ev_t rfl)) ?_
              refine WN.done ?_
              refine WX.keep [(0, _), (11, _), (12, _), (85, _)] ⟨rfl, rfl, rfl, rfl, trivial⟩ ?_
              refine WX.next ?_
              refine WC.cond rfl (ev_t rfl) (fun hc13 => ?_) (fun hc13 => ?_)
              · try (exfalso; first | (simp at hc13; done) | (simp only [decide_eq_true_eq, decide_eq_false_iff_not, Bool.not_eq_true', Bool.not_eq_false', Bool.not_eq_true, Bool.not_eq_false] at hc13; omega) | omega)
                all_goals
                 try simp only [decide_eq_true_eq, decide_eq_false_iff_not, Bool.not_eq_true', Bool.not_eq_false', Bool.not_eq_true, Bool.not_eq_false, Option.isNone_none, Option.isNone_some, Option.isSome_none, Option.isSome_some, ne_eq, Decidable.not_not] at hc13
                 refine WC.seq ?_
                 refine WC.region ?_
                 refine WL.val rfl rfl rfl rfl (r_assign rfl ev_c) ?_
                 refine WL.nil ?_
                 refine WX.keep [(6, _)] ⟨rfl, trivial⟩ ?_
                 refine WX.next ?_
                 refine WC.ret ?_
                 refine WX.thenRet ?_
                 refine WX.blockRet ?_
                 refine WX.thenRet ?_
                 refine WX.retE1 rfl rfl ?_
                 refine ⟨rfl, _, hs, ?_, hU⟩
                 refine ⟨[⟨x, .slice Ac x.cell.length cc⟩], rfl, ?_, fun r hr => ?_⟩
                 · exact (hrow.rd (by simp)).mono fun k hk => by simp only [Grow, No, New, false_or] at *; omega
                 · obtain rfl := List.mem_singleton.1 hr
                   exact (hc.rd (by omega)).mono fun k hk => by simp only [New] at *; omega
              · try (exfalso; first | (simp at hc13; done) | (simp only [decide_eq_true_eq, decide_eq_false_iff_not, Bool.not_eq_true', Bool.not_eq_false', Bool.not_eq_true, Bool.not_eq_false] at hc13; omega) | omega)
                all_goals
                 try simp only [decide_eq_true_eq, decide_eq_false_iff_not, Bool.not_eq_true', Bool.not_eq_false', Bool.not_eq_true, Bool.not_eq_false, Option.isNone_none, Option.isNone_some, Option.isSome_none, Option.isSome_some, ne_eq, Decidable.not_not] at hc13
                 refine WC.skip ?_
                 refine WX.next ?_
                 refine WC.draws' (fun u0_ u1_ => Upd No u0_ u1_) (fun j => [0, 0, 0, 0, 0, 0, 0, 0, 0, 0, 0, 0, 0, 0, 0, 0, 0, 0, 0, 0, 1, 1, 2, 0, 0, 2].getD j 0) (.calm 0 (.calm 1 (.calm 2 (.calm 3 (.calm 5 (.calm 6 (.calm 7 (.calm 8 (.calm 12 (.calm 13 (.calm 14 (.calm 15 (.held 4 (.held 9 (.calm 10 (.calm 11 (.held 16 (.calm 17 (.calm 18 (.calm 19 (.one 20 (.one 21 (.one 22 (.calm 23 (.calm 24 (.one 25 (.done))))))))))))))))))))))))))) mixed (by kernel_rfl) (by repeat (first | with_reducible exact Deaf.body | with_reducible apply Deaf.then | with_reducible apply Deaf.block)) ?_
                 intro w12 hu12
                 have hz12 := congrArg Array.size hu12.2.2.2
                 replace hu12 := Upd.of_draw hu12
                 have hs12 := hu12.size
                 replace hU := hU.trans hu12 (by first | exact (fun _ _ h => h) | exact (fun _ _ h => h.elim) | (intro k hl hk; (try simp only [At, New, Grow, From, No] at hk ⊢); omega) | (intro k hl hk; simp only [At, No] at *; omega))
                 replace hs := hs.upd hu12 (by first | exact (fun h => h) | (simp only [At, No]; omega))
                 replace hc := hc.upd hu12 (by first | exact (fun _ _ _ h => h) | (intro k hk hl hS; simp only [At, New, No] at *; omega))
                 replace hR := hR.upd hu12 (by first | exact (fun h => h) | (simp only [At, No]; omega)) (by first | exact (fun _ _ _ h => h) | (intro k hk hl hS; have := hFl k hk; simp only [At, No] at hS; omega))
                 replace hB8 := hB8.updA hu12
                 replace hxB := hxB.upd hu12 (by first | exact (fun h => h) | (simp only [At, No]; omega))
                 have hS15 := Upd.refl No w12
                 refine WN.calm _ rfl rfl rfl rfl rfl (fun _ => r_move rfl (ev_t rfl)) ?_
                 refine WN.calm _ rfl rfl rfl rfl rfl (fun _ => r_move rfl (ev_t rfl)) ?_
                 refine WN.calm _ rfl rfl rfl rfl rfl (fun _ => r_nilCheck rfl (ev_t rfl)) ?_
                 first | refine WN.calm _ rfl rfl rfl rfl rfl (fun _ => r_field0 rfl (ev_t rfl) fld_36_3) ?_ | refine WN.calm _ rfl rfl rfl rfl rfl (fun _ => r_fieldAt rfl (ev_t rfl) fld_36_3) ?_
                 refine WN.calm _ rfl rfl rfl rfl rfl (fun _ => r_move rfl (ev_t rfl)) ?_
                 refine WN.calm _ rfl rfl rfl rfl rfl (fun _ => r_move rfl (ev_t rfl)) ?_
                 refine WN.calm _ rfl rfl rfl rfl rfl (fun _ => r_nilCheck rfl (ev_t rfl)) ?_
                 first | refine WN.calm _ rfl rfl rfl rfl rfl (fun _ => r_field0 rfl (ev_t rfl) fld_36_2) ?_ | refine WN.calm _ rfl rfl rfl rfl rfl (fun _ => r_fieldAt rfl (ev_t rfl) fld_36_2) ?_
                 refine WN.calm _ rfl rfl rfl rfl rfl (fun _ => r_move rfl (ev_t rfl)) ?_
                 refine WN.calm _ rfl rfl rfl rfl rfl (fun _ => r_move rfl (ev_t rfl)) ?_
                 refine WN.calm _ rfl rfl rfl rfl rfl (fun _ => r_nilCheck rfl (ev_t rfl)) ?_
                 first | refine WN.calm _ rfl rfl rfl rfl rfl (fun _ => r_field0 rfl (ev_t rfl) fld_36_2) ?_ | refine WN.calm _ rfl rfl rfl rfl rfl (fun _ => r_fieldAt rfl (ev_t rfl) fld_36_2) ?_
                 refine WN.held _ rfl rfl rfl rfl rfl hS15 (fun w' hS => r_load rfl (ev_t rfl) flat_28 (Blk.cell (hs.upd hS (fun h => h)) rfl)) ?_
                 refine WN.held _ rfl rfl rfl rfl rfl hS15 (fun w' hS => r_load rfl (ev_t rfl) flat_29 (Blk.cell (hs.upd hS (fun h => h)) rfl)) ?_
                 first | refine WN.calm _ rfl rfl rfl rfl rfl (fun _ => r_subN rfl (ev_t rfl) (ev_t rfl) (by simp only [inK]; omega)) ?_ | refine WN.calm _ rfl rfl rfl rfl rfl (fun _ => r_sub rfl (ev_t rfl) (ev_t rfl)) ?_
                 first | refine WN.calm _ rfl rfl rfl rfl rfl (fun _ => r_subN rfl (ev_t rfl) ev_c (by simp only [inK]; omega)) ?_ | refine WN.calm _ rfl rfl rfl rfl rfl (fun _ => r_sub rfl (ev_t rfl) ev_c) ?_
                 refine WN.held _ rfl rfl rfl rfl rfl hS15 (fun w' hS => r_load rfl (ev_t rfl) flat_29 (Blk.cell (hs.upd hS (fun h => h)) rfl)) ?_
                 first | refine WN.calm _ rfl rfl rfl rfl rfl (fun _ => r_subN rfl (ev_t rfl) (ev_t rfl) (by simp only [inK]; omega)) ?_ | refine WN.calm _ rfl rfl rfl rfl rfl (fun _ => r_sub rfl (ev_t rfl) (ev_t rfl)) ?_
                 first | refine WN.calm _ rfl rfl rfl rfl rfl (fun _ => r_subN rfl (ev_t rfl) ev_c (by simp only [inK]; omega)) ?_ | refine WN.calm _ rfl rfl rfl rfl rfl (fun _ => r_sub rfl (ev_t rfl) ev_c) ?_
                 refine WN.calm _ rfl rfl rfl rfl rfl (fun _ => r_slice3nil rfl (ev_t rfl) (ev_t rfl) (by omega) (ev_t rfl) (by omega) elem_28 size_33) ?_
                 refine WN.step _ rfl (SO.val rfl rfl rfl rfl (r_loadAgg (vs := [_, _, _, _]) rfl (ev_t rfl) agg_33 size_33 (Blk.cellsL hxB)) ?_)
                 refine ⟨hS15, ?_⟩
                 refine WN.step _ rfl (SO.alloc rfl rfl rfl rfl (r_buildSlice (cs := #[_, _, _, _]) (vs := [(0, _)]) rfl ⟨⟨rfl, (ev_t rfl)⟩, trivial⟩ row_28 rfl rfl) ?_)
                 intro w13 hu13 hB13 hz13
                 have hs13 := hu13.size
                 replace hS15 := Upd.transA hS15 hu13
                 replace hU := hU.trans hu13 (by first | exact (fun _ _ h => h) | exact (fun _ _ h => h.elim) | (intro k hl hk; (try simp only [At, New, Grow, From, No] at hk ⊢); omega) | (intro k hl hk; simp only [At, No] at *; omega))
                 replace hs := hs.upd hu13 (by first | exact (fun h => h) | (simp only [At, No]; omega))
                 replace hc := hc.upd hu13 (by first | exact (fun _ _ _ h => h) | (intro k hk hl hS; simp only [At, New, No] at *; omega))
                 replace hR := hR.upd hu13 (by first | exact (fun h => h) | (simp only [At, No]; omega)) (by first | exact (fun _ _ _ h => h) | (intro k hk hl hS; have := hFl k hk; simp only [At, No] at hS; omega))
                 replace hB8 := hB8.updA hu13
                 replace hxB := hxB.upd hu13 (by first | exact (fun h => h) | (simp only [At, No]; omega))
                 refine ⟨hS15, ?_⟩
                 have hq1 := hU.size
                 refine WN.step _ rfl (SO.append (Own.nil _ No _ _) (Rd.of_blk (F := At _) (n := 1) (sz := 4) hB13 rfl rfl (by omega)) row_28 (by intro u hu; simp at hu; rcases hu with rfl | rfl | rfl | rfl <;> rfl) (le_maxLen (by omega)) (by omega) rfl (ev_t rfl) (ev_t rfl) rfl rfl rfl rfl ?_)
                 intro v14 w14 hrow hu14
                 have hs14 := hu14.size
                 try replace hS15 := Upd.transA hS15 hu14
                 replace hU := hU.trans hu14 (by first | exact (fun _ _ h => h) | exact (fun _ _ h => h.elim) | (intro k hl hk; (try simp only [At, New, Grow, From, No] at hk ⊢); omega) | (intro k hl hk; simp only [At, No] at *; omega))
                 replace hs := hs.upd hu14 (by first | exact (fun h => h) | (simp only [At, No]; omega))
                 replace hc := hc.upd hu14 (by first | exact (fun _ _ _ h => h) | (intro k hk hl hS; simp only [At, New, No] at *; omega))
                 replace hR := hR.upd hu14 (by first | exact (fun h => h) | (simp only [At, No]; omega)) (by first | exact (fun _ _ _ h => h) | (intro k hk hl hS; have := hFl k hk; simp only [At, No] at hS; omega))
                 replace hB8 := hB8.updA hu14
                 replace hxB := hxB.upd hu14 (by first | exact (fun h => h) | (simp only [At, No]; omega))
                 refine ⟨trivial, ?_⟩
                 obtain ⟨A14, c14, rfl, hc14⟩ := Own.form hrow
                 refine WN.calm _ rfl rfl rfl rfl rfl (fun _ => r_nilCheck rfl (ev_t rfl)) ?_
                 first | refine WN.calm _ rfl rfl rfl rfl rfl (fun _ => r_field0 rfl (ev_t rfl) fld_36_3) ?_ | refine WN.calm _ rfl rfl rfl rfl rfl (fun _ => r_fieldAt rfl (ev_t rfl) fld_36_3) ?_
                 refine WN.step _ rfl (SO.store rfl (ev_t rfl) (ev_t rfl) size_28 hs rfl rfl rfl rfl rfl ?_)
                 intro w15 hu15 hs hz15
                 have hs15 := hu15.size
                 try replace hS15 := Upd.transA hS15 hu15
                 replace hU := hU.trans hu15 (by first | exact (fun _ _ h => h) | exact (fun _ _ h => h.elim) | (intro k hl hk; (try simp only [At, New, Grow, From, No] at hk ⊢); omega) | (intro k hl hk; simp only [At, No] at *; omega))
                 replace hc := hc.upd hu15 (by first | exact (fun _ _ _ h => h) | (intro k hk hl hS; simp only [At, New, No] at *; omega))
                 replace hR := hR.upd hu15 (by first | exact (fun h => h) | (simp only [At, No]; omega)) (by first | exact (fun _ _ _ h => h) | (intro k hk hl hS; have := hFl k hk; simp only [At, No] at hS; omega))
                 replace hB8 := hB8.updA hu15
                 replace hxB := hxB.upd hu15 (by first | exact (fun h => h) | (simp only [At, No]; omega))
                 replace hrow := hrow.upd hu15 (by first | exact (fun _ _ _ h => h) | (intro k hk hl hS; simp only [At, Grow, No, New, false_or] at hk hS; omega))
                 refine ⟨trivial, ?_⟩
                 refine WN.done ?_
                 refine WX.keep [] trivial ?_
                 refine WX.blockNormal ?_
                 refine WX.next ?_
                 refine WC.seq ?_
                 refine WC.region ?_
                 refine WL.val rfl rfl rfl rfl (r_assign rfl ev_c) ?_
                 refine WL.nil ?_
                 refine WX.keep [(6, _)] ⟨rfl, trivial⟩ ?_
                 refine WX.next ?_
                 refine WC.ret ?_
                 refine WX.retE1 rfl rfl ?_
                 refine ⟨rfl, _, hs, ?_, hU⟩
                 refine ⟨[⟨x, .slice Ac x.cell.length cc⟩], rfl, ?_, fun r hr => ?_⟩
                 · exact (hrow.rd (by simp)).mono fun k hk => by simp only [Grow, No, New, false_or] at *; omega
                 · obtain rfl := List.mem_singleton.1 hr
                   exact (hc.rd (by omega)).mono fun k hk => by simp only [New] at *; omega
     · try (exfalso; first | (simp at hc10; done) | (simp only [decide_eq_true_eq, decide_eq_false_iff_not, Bool.not_eq_true', Bool.not_eq_false', Bool.not_eq_true, Bool.not_eq_false] at hc10; omega) | omega)
       all_goals
        try simp only [decide_eq_true_eq, decide_eq_false_iff_not, Bool.not_eq_true', Bool.not_eq_false', Bool.not_eq_true, Bool.not_eq_false, Option.isNone_none, Option.isNone_some, Option.isSome_none, Option.isSome_some, ne_eq, Decidable.not_not] at hc10
        refine WC.seq ?_
        refine WC.region ?_
        refine WL.val rfl rfl rfl rfl (r_eql rfl (ev_t rfl) ev_c) ?_
        refine WL.val rfl rfl rfl rfl (r_assign rfl (ev_t rfl)) ?_
        refine WL.nil ?_
        refine WX.keep [(0, _), (2, _), (7, _), (20, _), (111, _)] ⟨rfl, rfl, rfl, rfl, rfl, trivial⟩ ?_
        refine WX.next ?_
        refine WC.cond rfl (ev_t rfl) (fun hc16 => ?_) (fun hc16 => ?_)
        · try (exfalso; first | (simp at hc16; done) | (simp only [decide_eq_true_eq, decide_eq_false_iff_not, Bool.not_eq_true', Bool.not_eq_false', Bool.not_eq_true, Bool.not_eq_false] at hc16; omega) | omega)
          all_goals
           try simp only [decide_eq_true_eq, decide_eq_false_iff_not, Bool.not_eq_true', Bool.not_eq_false', Bool.not_eq_true, Bool.not_eq_false, Option.isNone_none, Option.isNone_some, Option.isSome_none, Option.isSome_some, ne_eq, Decidable.not_not] at hc16
           refine WC.seq ?_
           refine WC.region ?_
           refine WL.val rfl rfl rfl rfl (r_move rfl (ev_t rfl)) ?_
           fail -- call 17.1 of (*battledore/octet.Reader).Uint
        · try (exfalso; first | (simp at hc16; done) | (simp only [decide_eq_true_eq, decide_eq_false_iff_not, Bool.not_eq_true', Bool.not_eq_false', Bool.not_eq_true, Bool.not_eq_false] at hc16; omega) | omega)
          all_goals
           try simp only [decide_eq_true_eq, decide_eq_false_iff_not, Bool.not_eq_true', Bool.not_eq_false', Bool.not_eq_true, Bool.not_eq_false, Option.isNone_none, Option.isNone_some, Option.isSome_none, Option.isSome_some, ne_eq, Decidable.not_not] at hc16
           refine WC.seq ?_
           refine WC.region ?_
           refine WL.val rfl rfl rfl rfl (r_eql rfl (ev_t rfl) ev_c) ?_
           refine WL.val rfl rfl rfl rfl (r_assign rfl (ev_t rfl)) ?_
           refine WL.nil ?_
           refine WX.keep [(2, _), (7, _), (125, _)] ⟨rfl, rfl, rfl, trivial⟩ ?_
           refine WX.next ?_
           refine WC.cond rfl (ev_t rfl) (fun hc21 => ?_) (fun hc21 => ?_)
           · try (exfalso; first | (simp at hc21; done) | (simp only [decide_eq_true_eq, decide_eq_false_iff_not, Bool.not_eq_true', Bool.not_eq_false', Bool.not_eq_true, Bool.not_eq_false] at hc21; omega) | omega)
             all_goals
              try simp only [decide_eq_true_eq, decide_eq_false_iff_not, Bool.not_eq_true', Bool.not_eq_false', Bool.not_eq_true, Bool.not_eq_false, Option.isNone_none, Option.isNone_some, Option.isSome_none, Option.isSome_some, ne_eq, Decidable.not_not] at hc21
              refine WC.seq ?_
              refine WC.region ?_
              refine WL.val rfl rfl rfl rfl (r_move rfl (ev_t rfl)) ?_
              fail -- call 22.1 of (*battledore/octet.Reader).Uint
           · try (exfalso; first | (simp at hc21; done) | (simp only [decide_eq_true_eq, decide_eq_false_iff_not, Bool.not_eq_true', Bool.not_eq_false', Bool.not_eq_true, Bool.not_eq_false] at hc21; omega) | omega)
             all_goals
              try simp only [decide_eq_true_eq, decide_eq_false_iff_not, Bool.not_eq_true', Bool.not_eq_false', Bool.not_eq_true, Bool.not_eq_false, Option.isNone_none, Option.isNone_some, Option.isSome_none, Option.isSome_some, ne_eq, Decidable.not_not] at hc21
              refine WC.seq ?_
              refine WC.region ?_
              refine WL.val rfl rfl rfl rfl (r_assign rfl ev_c) ?_
              refine WL.nil ?_
              refine WX.keep [(6, _)] ⟨rfl, trivial⟩ ?_
              refine WX.next ?_
              refine WC.ret ?_
              refine WX.blockRet ?_
              refine WX.thenRet ?_
              refine WX.retE1 rfl rfl ?_
              refine ⟨rfl, _, hs, ?_, hU⟩
              refine ⟨[⟨x, .slice Ac x.cell.length cc⟩], rfl, ?_, fun r hr => ?_⟩
              · exact (hrow.rd (by simp)).mono fun k hk => by simp only [Grow, No, New, false_or] at *; omega
              · obtain rfl := List.mem_singleton.1 hr
                exact (hc.rd (by omega)).mono fun k hk => by simp only [New] at *; omega
end Go.Proofs.Ytnjfhmlfpfkllaa

/-
  wal: the records of some bytes.
-/
namespace Go.Proofs.Ytnjfhmlfpfkllaa
open Go
set_option linter.unusedSimpArgs false
set_option linter.unusedVariables false

theorem take_ok {w : World} {F G : Nat → Prop} {bv lv : Value} {b : List UInt8} {g gt n n' : Nat} {s s' : WSt} (hb : Rd w F bv b.length 1 (b.map U8)) (hFl : ∀ k, F k → k < w.heap.size ∧ k ≠ g ∧ k ≠ gt) (hs : Blk w g (stC s lv) 36) (ht : Blk w gt #[.int .u64 (n : Int)] 29)
    (hne : g ≠ gt) (hE : Ents w G lv s.log) (hG : ∀ k, G k → k ≠ g ∧ k ≠ gt) (hlv : s.log = [] → lv = .slice none 0 0) (hT : TakeS b s n s' n') :
    Ret Try.prog 36 #[.pointer (some ⟨g, 0, none⟩), bv, .pointer (some ⟨gt, 0, none⟩)] w fun u w' => u = .bool true ∧ ∃ lv', Blk w' g (stC s' lv') 36 ∧ Blk w' gt #[.int .u64 (n' : Int)] 29 ∧ Ents w' (Grow G w w') lv' s'.log ∧ (s'.log = [] → lv' = .slice none 0 0) ∧ Upd (fun k => k = g ∨ k = gt) w w' := by
  have hgl := hs.lt
  have htl := ht.lt
  cases hT with
  | vote h1 h2 h3 h4 h5 =>
    refine (takeVote_ok (gt := gt) hb (fun k hk => ⟨(hFl k hk).1, (hFl k hk).2.1⟩) hs h1 h2 h3 h4 h5).mono ?_
    rintro v w' ⟨rfl, h, hu⟩
    refine ⟨rfl, lv, h, ht.upd hu (fun h => hne (Eq.symm h)), (hE.upd hu (fun k hk _ h => (hG k hk).1 h)).mono (fun k hk => .inl hk), hlv, hu.mono (fun k _ h => .inl h)⟩
  | entry h1 h2 h3 h4 h5 h6 h7 h8 =>
    obtain rfl := hlv h7
    refine (takeEntry_ok (gt := gt) hb (fun k hk => ⟨(hFl k hk).1, (hFl k hk).2.1⟩) hs h1 h2 h3 h4 h5 h6 h8).mono ?_
    rintro v w' ⟨rfl, lv', h, hE', hu⟩
    refine ⟨rfl, lv', h, ht.upd hu (fun h => hne (Eq.symm h)), hE'.mono (fun k hk => .inr hk), (fun h => by cases h), hu.mono (fun k _ h => .inl h)⟩
  | base h1 h2 =>
    refine (takeBase_ok (gt := gt) hb (fun k hk => ⟨(hFl k hk).1, (hFl k hk).2.1⟩) hs h1 h2).mono ?_
    rintro v w' ⟨rfl, h, hu⟩
    exact ⟨rfl, _, h, ht.upd hu (fun h => hne (Eq.symm h)), Ents.nil _ _, (fun _ => rfl), hu.mono (fun k _ h => .inl h)⟩
  | ready h1 h2 h3 =>
    refine (takeReady_ok (g := g) hb (fun k hk => ⟨(hFl k hk).1, (hFl k hk).2.2⟩) ht h1 h2 h3).mono ?_
    rintro v w' ⟨rfl, h, hu⟩
    refine ⟨rfl, lv, hs.upd hu hne, h, (hE.upd hu (fun k hk _ h => (hG k hk).2 h)).mono (fun k hk => .inl hk), hlv, hu.mono (fun k _ h => .inr h)⟩

/-- one record read -/
def StepS (p : List UInt8) (a : Nat) (s : WSt) (n : Nat) (a' : Nat) (s' : WSt) (n' : Nat) : Prop := ∃ (m k : Nat) (b : List UInt8), lenR (p.drop a) = ((m : Int), k) ∧ a + k + m ≤ p.length ∧ openB ((p.drop (a + k)).take m) = (b, 0) ∧ TakeS b s n s' n' ∧ a' = a + k + m

theorem lenR_le {l : List UInt8} : -1 ≤ (lenR l).1 ∧ (lenR l).1 ≤ 2097152 ∧ (lenR l).2 ≤ 9 := by
  cases l with
  | nil => exact ⟨by simp [lenR], by simp [lenR], by simp [lenR]⟩
  | cons k r =>
    simp only [lenR]
    split
    · exact ⟨by simp, by simp, by simp⟩
    · split
      · refine ⟨by simp only []; omega, ?_, by simp only []; omega⟩
        simp only [uptoR]
        split <;> (try split) <;> simp_all
      · exact ⟨by simp, by simp, by simp⟩

theorem openB_len (l : List UInt8) : (openB l).1.length ≤ l.length := by
  unfold openB
  split
  · simp
  · split
    · simp only [List.length_take]; omega
    · simp
set_option maxHeartbeats 4000000 in
theorem read_ok {w : World} {F : Nat → Prop} {pv : Value} {p : List UInt8} {n : Nat} {A : Nat → Nat} {S : Nat → WSt} {N : Nat → Nat} (hp : Rd w F pv p.length 1 (p.map U8)) (hpl : p.length ≤ 10000000) (hA0 : A 0 = 0) (hS0 : S 0 = ⟨0, -1, 0, []⟩) (hN0 : N 0 = 0)
    (hst : ∀ j, j < n → StepS p (A j) (S j) (N j) (A (j + 1)) (S (j + 1)) (N (j + 1))) (hend : A n = p.length) :
    Ret Try.prog 26 #[pv] w fun u w' => ∃ lv, u = .tuple #[.agg (stC (S n) lv), .int .i64 (A n : Int), .int .u64 (N n : Int)] ∧ Ents w' (New w w') lv (S n).log ∧ ((S n).log = [] → lv = .slice none 0 0) ∧ Upd No w w' := by
  obtain ⟨F', hp, hFl⟩ : ∃ F' : Nat → Prop, Rd w F' pv p.length 1 (p.map U8) ∧ ∀ k, F' k → k < w.heap.size := ⟨_, hp.bound, fun k hk => hk.2⟩
  obtain ⟨Ap, c, rfl, hc⟩ := hp.slice_form
  have hAle : ∀ j, j ≤ n → A j ≤ p.length := fun j hj => by
    rcases Nat.lt_or_ge j n with h | h
    · obtain ⟨m, k, b, _, h2, _⟩ := hst j h
      omega
    · obtain rfl : j = n := by omega
      omega
  refine enterRet (vs := [_]) (N := 64) Try.func26 rfl rfl rfl ?_
  have hU := Upd.refl No w
  refine WC.keep [(0, _)] ⟨rfl, trivial⟩ ?_
  refine WC.seq ?_
  refine WC.region ?_
  refine WL.cons (SO.alloc rfl rfl rfl rfl (r_alloc rfl zero_36) ?_)
  intro w1 hu1 hB1 hz1
  have hs1 := hu1.size
  replace hU := hU.trans hu1 (by first | exact (fun _ _ h => h) | exact (fun _ _ h => h.elim) | (intro k hl hk; (try simp only [At, New, Grow, From, No] at hk ⊢); omega) | (intro k hl hk; first | exact hk.elim | (simp only [At, From, No] at *; omega)))
  refine WL.val rfl rfl rfl rfl (r_assign rfl ev_c) ?_
  refine WL.val rfl rfl rfl rfl (r_assign rfl ev_c) ?_
  refine WL.nil ?_
  refine WX.keep [(0, _), (2, _)] ⟨rfl, rfl, trivial⟩ ?_
  refine WX.next ?_
  refine WC.seq ?_
  refine WC.region ?_
  have h2 := hB1
  refine WL.val rfl rfl rfl rfl (r_build (cs := #[_, _, _, _]) (vs := [(1, _)]) rfl ⟨⟨rfl, ev_c⟩, trivial⟩ plc_36 zero_36 rfl) ?_
  refine WL.cons (SO.alloc rfl rfl rfl rfl (r_alloc rfl zero_36) ?_)
  intro w2 hu2 hB2 hz2
  have hs2 := hu2.size
  replace hU := hU.trans hu2 (by first | exact (fun _ _ h => h) | exact (fun _ _ h => h.elim) | (intro k hl hk; (try simp only [At, New, Grow, From, No] at hk ⊢); omega) | (intro k hl hk; first | exact hk.elim | (simp only [At, From, No] at *; omega)))
  replace hB1 := hB1.updA hu2
  replace h2 := h2.upd hu2 (by first | exact (fun h => h) | (simp only [At, No]; omega) | (intro h; rcases h with h | h <;> omega))
  refine WL.cons (SO.storeAll (us := [_, _, _, _]) rfl (ev_t rfl) (ev_t rfl) size_36 hB2 rfl rfl rfl rfl rfl ?_)
  intro w3 hu3 hB2 hz3
  have hs3 := hu3.size
  replace hU := hU.trans hu3 (by first | exact (fun _ _ h => h) | exact (fun _ _ h => h.elim) | (intro k hl hk; (try simp only [At, New, Grow, From, No] at hk ⊢); omega) | (intro k hl hk; first | exact hk.elim | (simp only [At, From, No] at *; omega)))
  replace hB1 := hB1.updA hu3
  replace h2 := h2.upd hu3 (by first | exact (fun h => h) | (simp only [At, No]; omega) | (intro h; rcases h with h | h <;> omega))
  refine WL.nil ?_
  refine WX.keep [(0, _), (2, _), (5, _)] ⟨rfl, rfl, rfl, trivial⟩ ?_
  refine WX.next ?_
  refine WC.seq ?_
  refine WC.region ?_
  have h5 := hB2
  refine WL.cons (SO.alloc rfl rfl rfl rfl (r_alloc rfl zero_29) ?_)
  intro w4 hu4 hB4 hz4
  have hs4 := hu4.size
  replace hU := hU.trans hu4 (by first | exact (fun _ _ h => h) | exact (fun _ _ h => h.elim) | (intro k hl hk; (try simp only [At, New, Grow, From, No] at hk ⊢); omega) | (intro k hl hk; first | exact hk.elim | (simp only [At, From, No] at *; omega)))
  replace hB1 := hB1.updA hu4
  replace h2 := h2.upd hu4 (by first | exact (fun h => h) | (simp only [At, No]; omega) | (intro h; rcases h with h | h <;> omega))
  replace hB2 := hB2.updA hu4
  replace h5 := h5.upd hu4 (by first | exact (fun h => h) | (simp only [At, No]; omega))
  refine WL.val rfl rfl rfl rfl (r_assign rfl ev_c) ?_
  refine WL.cons (SO.store rfl (ev_t rfl) ev_c size_29 hB4 rfl rfl rfl rfl rfl ?_)
  intro w5 hu5 hB4 hz5
  have hs5 := hu5.size
  replace hU := hU.trans hu5 (by first | exact (fun _ _ h => h) | exact (fun _ _ h => h.elim) | (intro k hl hk; (try simp only [At, New, Grow, From, No] at hk ⊢); omega) | (intro k hl hk; first | exact hk.elim | (simp only [At, From, No] at *; omega)))
  replace hB1 := hB1.updA hu5
  replace h2 := h2.upd hu5 (by first | exact (fun h => h) | (simp only [At, No]; omega) | (intro h; rcases h with h | h <;> omega))
  replace hB2 := hB2.updA hu5
  replace h5 := h5.upd hu5 (by first | exact (fun h => h) | (simp only [At, No]; omega))
  refine WL.nil ?_
  refine WX.keep [(0, _), (2, _), (5, _), (6, _), (7, _)] ⟨rfl, rfl, rfl, rfl, rfl, trivial⟩ ?_
  have h7 := hB4
  rw [show w1.heap.size = w.heap.size + 1 by omega] at h5
  rw [show w3.heap.size = w.heap.size + 2 by omega] at h7
  rw [show w1.heap.size = w.heap.size + 1 by omega, show w3.heap.size = w.heap.size + 2 by omega]
  have hbig : w.heap.size + 3 ≤ w5.heap.size := by omega
  refine WX.next ?_
  refine WC.block ?_
  -- loop 1: live [0, 2, 5, 6, 7]
  refine WC.keep [(0, _), (2, _), (5, _), (6, _), (7, _)] ⟨rfl, rfl, rfl, rfl, rfl, trivial⟩ ?_
  refine WC.loop (fun qq E wC => ∃ (j : Nat) (lv : Value), j ≤ n ∧ qq = n - j ∧ Upd No w wC ∧ w.heap.size + 3 ≤ wC.heap.size ∧ Blk wC w.heap.size (stC ⟨0, 0, 0, []⟩ (.slice none 0 0)) 36 ∧ Blk wC (w.heap.size + 1) (stC (S j) lv) 36 ∧ Blk wC (w.heap.size + 2) #[.int .u64 (N j : Int)] 29 ∧ Ents wC (fun k => w.heap.size + 2 < k ∧ k < wC.heap.size) lv (S j).log ∧ ((S j).log = [] → lv = .slice none 0 0) ∧ E = [(0, .slice Ap p.length c), (2, .pointer (some ⟨w.heap.size, 0, none⟩)), (5, .pointer (some ⟨w.heap.size + 1, 0, none⟩)), (6, .int .i64 (A j : Int)), (7, .pointer (some ⟨w.heap.size + 2, 0, none⟩))]) (n) ?_ ?_
  · exact ⟨0, .slice none 0 0, by omega, by omega, hU, hbig, h2, by rw [hS0]; exact h5, by rw [hN0]; exact h7, by rw [hS0]; exact Ents.nil _ _, fun _ => rfl, by rw [hA0]; rfl⟩
  · clear hU h2 h5 h7
    rintro qq E wC ⟨j, lv, hj, rfl, hU, hbigC, h2, h5, h7, hE, hlv, rfl⟩
    have hAj := hAle j hj
    obtain ⟨Al, cl, rfl, hlc⟩ := hE.form
    obtain ⟨m, kk, hmk⟩ : ∃ m kk, lenR (p.drop (A j)) = (m, kk) := ⟨_, _, rfl⟩
    have hml := @lenR_le (p.drop (A j))
    rw [hmk] at hml
    simp only at hml
    have hsl := Rd.sliceB (lo := A j) (h := p.length) (hp.upd hU (fun _ _ _ h => h)) hAj (Nat.le_refl _)
    rw [show (p.drop (A j)).take (p.length - A j) = p.drop (A j) by rw [← List.length_drop]; exact List.take_length] at hsl
    refine WC.block ?_
    refine WC.seq ?_
    refine WC.region ?_
    refine WL.val rfl rfl rfl rfl (r_move rfl (ev_t rfl)) ?_
    refine WL.val rfl rfl rfl rfl (r_move rfl (ev_t rfl)) ?_
    refine WL.val rfl rfl rfl rfl (r_slice (l := A j) (h := p.length) rfl (ev_t rfl) elem_22 size_5 (bnd_some (ev_t rfl) (by omega)) bnd_none (by omega) (by omega) (by omega)) ?_
    refine WL.cons (SO.call (length_ok (by rw [List.length_drop]; exact hsl)) rfl body_34 ⟨(ev_t rfl), trivial⟩ rfl rfl rfl rfl ?_)
    rw [hmk]
    rintro v w6 ⟨rfl, hu6⟩
    have hs6 := hu6.size
    replace hU := hU.trans hu6 (by first | exact (fun _ _ h => h) | exact (fun _ _ h => h.elim) | (intro k hl hk; (try simp only [At, New, Grow, From, No] at hk ⊢); omega) | (intro k hl hk; first | exact hk.elim | (simp only [At, From, No] at *; omega)))
    replace h2 := h2.upd hu6 (by first | exact (fun h => h) | (simp only [At, No]; omega) | (intro h; rcases h with h | h <;> omega))
    replace h5 := h5.upd hu6 (by first | exact (fun h => h) | (simp only [At, No]; omega))
    replace h7 := h7.upd hu6 (by first | exact (fun h => h) | (simp only [At, No]; omega))
    replace hE := hE.upd hu6 (fun k hk hl hS => by first | exact (show False from hS).elim | (simp only [At] at hS; omega))
    refine WL.val rfl rfl rfl rfl (r_move rfl (ev_t rfl)) ?_
    refine WL.val rfl rfl rfl rfl (r_extract rfl (ev_t rfl) rfl) ?_
    refine WL.val rfl rfl rfl rfl (r_extract rfl (ev_t rfl) rfl) ?_
    refine WL.val rfl rfl rfl rfl (r_assign rfl (ev_t rfl)) ?_
    refine WL.val rfl rfl rfl rfl (r_assign rfl (ev_t rfl)) ?_
    refine WL.nil ?_
    refine WX.keep [(0, _), (2, _), (5, _), (6, _), (7, _), (8, _), (9, _)] ⟨rfl, rfl, rfl, rfl, rfl, rfl, rfl, trivial⟩ ?_
    refine WX.next ?_
    refine WC.seq ?_
    refine WC.seq ?_
    refine WC.region ?_
    refine WL.val rfl rfl rfl rfl (r_move rfl (ev_t rfl)) ?_
    refine WL.val rfl rfl rfl rfl (r_lss rfl (ev_t rfl) ev_c) ?_
    refine WL.val rfl rfl rfl rfl (r_move rfl (ev_t rfl)) ?_
    refine WL.cases 22 rfl (fun hb4_2 => ?_) (fun hb4_2 => ?_)
    · try (exfalso; first | (simp at hb4_2; done) | (simp only [decide_eq_true_eq, decide_eq_false_iff_not, Bool.not_eq_true', Bool.not_eq_false', Bool.not_eq_true, Bool.not_eq_false] at hb4_2; omega) | omega)
      all_goals
       try simp only [decide_eq_true_eq, decide_eq_false_iff_not, Bool.not_eq_true', Bool.not_eq_false', Bool.not_eq_true, Bool.not_eq_false, Option.isNone_none, Option.isNone_some, Option.isSome_none, Option.isSome_some, ne_eq, Decidable.not_not] at hb4_2
       obtain rfl : j = n := by
         rcases Nat.lt_or_ge j n with h | h
         · obtain ⟨m', k', b, hL, _⟩ := hst j h
           rw [hmk] at hL
           have := (Prod.mk.inj hL).1
           omega
         · omega
       refine WL.skip rfl rfl rfl ?_
       refine WL.skip rfl rfl rfl ?_
       refine WL.skip rfl rfl rfl ?_
       refine WL.skip rfl rfl rfl ?_
       refine WL.skip rfl rfl rfl ?_
       refine WL.skip rfl rfl rfl ?_
       refine WL.skip rfl rfl rfl ?_
       refine WL.skip rfl rfl rfl ?_
       refine WL.val rfl rfl rfl rfl (r_pickT rfl (ev_t rfl) ev_c) ?_
       refine WL.nil ?_
       refine WX.keep [(0, _), (2, _), (5, _), (6, _), (7, _), (8, _), (9, _), (31, _)] ⟨rfl, rfl, rfl, rfl, rfl, rfl, rfl, rfl, trivial⟩ ?_
       refine WX.next ?_
       refine WC.cond_true rfl (ev_t rfl) ?_
       refine WC.seq ?_
       refine WC.draws' (fun u0_ u1_ => Upd (At w.heap.size) u0_ u1_) (fun j => [0, 0, 0, 1, 0, 0].getD j 0) (.calm 1 (.held 0 (.held 2 (.one 3 (.calm 4 (.calm 5 (.done))))))) mixed (by kernel_rfl) (by repeat (first | with_reducible exact Deaf.body | with_reducible apply Deaf.then | with_reducible apply Deaf.block)) ?_
       intro w7 hu7
       have hz7 := congrArg Array.size hu7.2.2.2
       replace hu7 := Upd.of_draw hu7
       have hs7 := hu7.size
       replace hU := hU.trans hu7 (by first | exact (fun _ _ h => h) | exact (fun _ _ h => h.elim) | (intro k hl hk; (try simp only [At, New, Grow, From, No] at hk ⊢); omega) | (intro k hl hk; first | exact hk.elim | (simp only [At, From, No] at *; omega)))
       replace h2 := h2.upd hu7 (by first | exact (fun h => h) | (simp only [At, No]; omega) | (intro h; rcases h with h | h <;> omega))
       replace h5 := h5.upd hu7 (by first | exact (fun h => h) | (simp only [At, No]; omega))
       replace h7 := h7.upd hu7 (by first | exact (fun h => h) | (simp only [At, No]; omega))
       replace hE := hE.upd hu7 (fun k hk hl hS => by first | exact (show False from hS).elim | (simp only [At] at hS; omega))
       have hS5 := Upd.refl (At w.heap.size) w7
       refine WN.calm _ rfl rfl rfl rfl rfl (fun _ => r_move rfl (ev_t rfl)) ?_
       refine WN.held _ rfl rfl rfl rfl rfl hS5 (fun w' hS => r_loadAgg (vs := [_, _, _, _]) rfl (ev_t rfl) agg_36 size_36 (Blk.cellsL (h5.upd hS (by (try simp only [At, From, No, Grow, New]); omega)))) ?_
       refine WN.held _ rfl rfl rfl rfl rfl hS5 (fun w' hS => r_load rfl (ev_t rfl) flat_29 (Blk.cell (h7.upd hS (by (try simp only [At, From, No, Grow, New]); omega)) rfl)) ?_
       refine WN.step _ rfl (SO.storeAll (us := [_, _, _, _]) rfl (ev_t rfl) (ev_t rfl) size_36 h2 rfl rfl rfl rfl rfl ?_)
       intro w8 hu8 h2 hz8
       have hs8 := hu8.size
       replace hS5 := Upd.transA hS5 hu8
       replace hU := hU.trans hu8 (by first | exact (fun _ _ h => h) | exact (fun _ _ h => h.elim) | (intro k hl hk; (try simp only [At, New, Grow, From, No] at hk ⊢); omega) | (intro k hl hk; first | exact hk.elim | (simp only [At, From, No] at *; omega)))
       replace h5 := h5.upd hu8 (by first | exact (fun h => h) | (simp only [At, No]; omega))
       replace h7 := h7.upd hu8 (by first | exact (fun h => h) | (simp only [At, No]; omega))
       replace hE := hE.upd hu8 (fun k hk hl hS => by first | exact (show False from hS).elim | (simp only [At] at hS; omega))
       refine ⟨hS5, ?_⟩
       refine WN.calm _ rfl rfl rfl rfl rfl (fun _ => r_assign rfl (ev_t rfl)) ?_
       refine WN.calm _ rfl rfl rfl rfl rfl (fun _ => r_assign rfl (ev_t rfl)) ?_
       refine WN.done ?_
       refine WX.keep [(2, _), (3, _), (4, _)] ⟨rfl, rfl, rfl, trivial⟩ ?_
       refine WX.next ?_
       refine WC.ret ?_
       refine WX.thenRet ?_
       refine WX.blockRet ?_
       refine WX.thenRet ?_
       refine WX.blockRet ?_
       refine WX.retM (l := [.cell 2 36, .tmp 3, .tmp 4]) (vs := [_, _, _]) rfl ⟨⟨_, [_, _, _, _], rfl, agg_36, size_36, (Blk.cellsL h2), rfl⟩, ⟨rfl, ⟨rfl, trivial⟩⟩⟩ ?_
       exact ⟨_, rfl, hE.mono fun k hk => by simp only [New]; omega, hlv, hU⟩
    · try (exfalso; first | (simp at hb4_2; done) | (simp only [decide_eq_true_eq, decide_eq_false_iff_not, Bool.not_eq_true', Bool.not_eq_false', Bool.not_eq_true, Bool.not_eq_false] at hb4_2; omega) | omega)
      all_goals
       try simp only [decide_eq_true_eq, decide_eq_false_iff_not, Bool.not_eq_true', Bool.not_eq_false', Bool.not_eq_true, Bool.not_eq_false, Option.isNone_none, Option.isNone_some, Option.isSome_none, Option.isSome_some, ne_eq, Decidable.not_not] at hb4_2
       have hjn : j < n := by
         rcases Nat.lt_or_ge j n with h | h
         · exact h
         · exfalso
           obtain rfl : j = n := by omega
           rw [hend, List.drop_length] at hmk
           have := (Prod.mk.inj hmk).1
           omega
       obtain ⟨m', k', b, hL, hle, hop, htk, hA'⟩ := hst j hjn
       rw [hmk] at hL
       obtain ⟨rfl, rfl⟩ := Prod.mk.inj hL
       refine WL.val rfl rfl rfl rfl (r_move rfl (ev_t rfl)) ?_
       refine WL.val rfl rfl rfl rfl (r_move rfl (ev_t rfl)) ?_
       refine WL.val rfl rfl rfl rfl (r_lenSlice (ts := #[]) rfl (ev_t rfl) elem_22) ?_
       refine WL.val rfl rfl rfl rfl (r_move rfl (ev_t rfl)) ?_
       first | refine WL.val rfl rfl rfl rfl (r_subN rfl (ev_t rfl) (ev_t rfl) (by simp only [inK]; omega)) ?_ | refine WL.val rfl rfl rfl rfl (r_sub rfl (ev_t rfl) (ev_t rfl)) ?_
       refine WL.val rfl rfl rfl rfl (r_move rfl (ev_t rfl)) ?_
       first | refine WL.val rfl rfl rfl rfl (r_subN rfl (ev_t rfl) (ev_t rfl) (by simp only [inK]; omega)) ?_ | refine WL.val rfl rfl rfl rfl (r_sub rfl (ev_t rfl) (ev_t rfl)) ?_
       refine WL.val rfl rfl rfl rfl (r_gtr rfl (ev_t rfl) (ev_t rfl)) ?_
       refine WL.val rfl rfl rfl rfl (r_pickF rfl (ev_t rfl) (ev_t rfl)) ?_
       refine WL.nil ?_
       refine WX.keep [(0, _), (2, _), (5, _), (6, _), (7, _), (8, _), (9, _), (31, _)] ⟨rfl, rfl, rfl, rfl, rfl, rfl, rfl, rfl, trivial⟩ ?_
       refine WX.next ?_
       refine WC.cond rfl (ev_t rfl) (fun hc4 => ?_) (fun hc4 => ?_)
       · try simp only [decide_eq_true_eq, decide_eq_false_iff_not, Bool.not_eq_true', Bool.not_eq_false', Bool.not_eq_true, Bool.not_eq_false, Option.isNone_none, Option.isNone_some, Option.isSome_none, Option.isSome_some, ne_eq, Decidable.not_not] at hc4
         exfalso
         omega
       · try (exfalso; first | (simp at hc4; done) | (simp only [decide_eq_true_eq, decide_eq_false_iff_not, Bool.not_eq_true', Bool.not_eq_false', Bool.not_eq_true, Bool.not_eq_false] at hc4; omega) | omega)
         all_goals
          try simp only [decide_eq_true_eq, decide_eq_false_iff_not, Bool.not_eq_true', Bool.not_eq_false', Bool.not_eq_true, Bool.not_eq_false, Option.isNone_none, Option.isNone_some, Option.isSome_none, Option.isSome_some, ne_eq, Decidable.not_not] at hc4
          refine WC.skip ?_
          refine WX.next ?_
          refine WC.seq ?_
          refine WC.region ?_
          refine WL.val rfl rfl rfl rfl (r_move rfl (ev_t rfl)) ?_
          refine WL.val rfl rfl rfl rfl (r_move rfl (ev_t rfl)) ?_
          refine WL.val rfl rfl rfl rfl (r_move rfl (ev_t rfl)) ?_
          first | refine WL.val rfl rfl rfl rfl (r_addN rfl (ev_t rfl) (ev_t rfl) (by simp only [inK]; omega)) ?_ | refine WL.val rfl rfl rfl rfl (r_add rfl (ev_t rfl) (ev_t rfl)) ?_
          refine WL.val rfl rfl rfl rfl (r_move rfl (ev_t rfl)) ?_
          refine WL.val rfl rfl rfl rfl (r_move rfl (ev_t rfl)) ?_
          first | refine WL.val rfl rfl rfl rfl (r_addN rfl (ev_t rfl) (ev_t rfl) (by simp only [inK]; omega)) ?_ | refine WL.val rfl rfl rfl rfl (r_add rfl (ev_t rfl) (ev_t rfl)) ?_
          refine WL.val rfl rfl rfl rfl (r_move rfl (ev_t rfl)) ?_
          first | refine WL.val rfl rfl rfl rfl (r_addN rfl (ev_t rfl) (ev_t rfl) (by simp only [inK]; omega)) ?_ | refine WL.val rfl rfl rfl rfl (r_add rfl (ev_t rfl) (ev_t rfl)) ?_
          refine WL.val rfl rfl rfl rfl (r_slice (l := A j + kk) (h := A j + kk + m') rfl (ev_t rfl) elem_22 size_5 (bnd_some (ev_t rfl) (by omega)) (bnd_some (ev_t rfl) (by omega)) (by omega) (by omega) (by omega)) ?_
          refine WL.cons (SO.call (open_ok (l := (p.drop (A j + kk)).take m') (by have h9 := Rd.sliceB (lo := A j + kk) (h := A j + kk + m') (hp.upd hU (fun _ _ _ h => h)) (by omega) hle; simpa only [show A j + kk + m' - (A j + kk) = m' by omega] using h9) (by rw [List.length_take]; omega)) rfl body_35 ⟨(ev_t rfl), trivial⟩ rfl rfl rfl rfl ?_)
          rw [hop]
          rintro v w9 ⟨u, rfl, hu, hu9⟩
          change Own _ _ _ _ _ b.length (b.map U8) at hu
          have hbl : b.length ≤ p.length := by
            have h9 := openB_len ((p.drop (A j + kk)).take m')
            rw [hop, List.length_take, List.length_drop] at h9
            simp only at h9
            omega
          have hs9 := hu9.size
          replace hU := hU.trans hu9 (by first | exact (fun _ _ h => h) | exact (fun _ _ h => h.elim) | (intro k hl hk; (try simp only [At, New, Grow, From, No] at hk ⊢); omega) | (intro k hl hk; first | exact hk.elim | (simp only [At, From, No] at *; omega)))
          replace h2 := h2.upd hu9 (by first | exact (fun h => h) | (simp only [At, No]; omega) | (intro h; rcases h with h | h <;> omega))
          replace h5 := h5.upd hu9 (by first | exact (fun h => h) | (simp only [At, No]; omega))
          replace h7 := h7.upd hu9 (by first | exact (fun h => h) | (simp only [At, No]; omega))
          replace hE := hE.upd hu9 (fun k hk hl hS => by first | exact (show False from hS).elim | (simp only [At] at hS; omega))
          refine WL.val rfl rfl rfl rfl (r_move rfl (ev_t rfl)) ?_
          refine WL.val rfl rfl rfl rfl (r_extract rfl (ev_t rfl) rfl) ?_
          refine WL.val rfl rfl rfl rfl (r_extract rfl (ev_t rfl) rfl) ?_
          refine WL.val rfl rfl rfl rfl (r_assign rfl (ev_t rfl)) ?_
          refine WL.val rfl rfl rfl rfl (r_assign rfl (ev_t rfl)) ?_
          refine WL.nil ?_
          refine WX.keep [(0, _), (2, _), (5, _), (6, _), (7, _), (8, _), (9, _), (10, _), (11, _)] ⟨rfl, rfl, rfl, rfl, rfl, rfl, rfl, rfl, rfl, trivial⟩ ?_
          refine WX.next ?_
          refine WC.seq ?_
          refine WC.seq ?_
          refine WC.region ?_
          refine WL.val rfl rfl rfl rfl (r_move rfl (ev_t rfl)) ?_
          refine WL.val rfl rfl rfl rfl (r_neq rfl (ev_t rfl) ev_c) ?_
          refine WL.val rfl rfl rfl rfl (r_move rfl (ev_t rfl)) ?_
          refine WL.cases 51 rfl (fun hb7_2 => ?_) (fun hb7_2 => ?_)
          · try (exfalso; first | (simp at hb7_2; done) | (simp only [decide_eq_true_eq, decide_eq_false_iff_not, Bool.not_eq_true', Bool.not_eq_false', Bool.not_eq_true, Bool.not_eq_false] at hb7_2; omega) | omega)
            all_goals
             try simp only [decide_eq_true_eq, decide_eq_false_iff_not, Bool.not_eq_true', Bool.not_eq_false', Bool.not_eq_true, Bool.not_eq_false, Option.isNone_none, Option.isNone_some, Option.isSome_none, Option.isSome_some, ne_eq, Decidable.not_not] at hb7_2
             refine WL.skip rfl rfl rfl ?_
             refine WL.skip rfl rfl rfl ?_
             refine WL.skip rfl rfl rfl ?_
             refine WL.val rfl rfl rfl rfl (r_pickT rfl (ev_t rfl) ev_c) ?_
             refine WL.nil ?_
             refine WX.keep [(0, _), (2, _), (5, _), (6, _), (7, _), (8, _), (9, _), (55, _)] ⟨rfl, rfl, rfl, rfl, rfl, rfl, rfl, rfl, trivial⟩ ?_
             refine WX.next ?_
             refine WC.cond_true rfl (ev_t rfl) ?_
             refine WC.seq ?_
             refine WC.draws' (fun u0_ u1_ => Upd No u0_ u1_) (fun j => [0, 0, 0, 1, 0, 0].getD j 0) (.calm 1 (.held 0 (.held 2 (.one 3 (.calm 4 (.calm 5 (.done))))))) mixed (by kernel_rfl) (by repeat (first | with_reducible exact Deaf.body | with_reducible apply Deaf.then | with_reducible apply Deaf.block)) ?_
             intro w10 hu10
             have hz10 := congrArg Array.size hu10.2.2.2
             replace hu10 := Upd.of_draw hu10
             have hs10 := hu10.size
             replace hU := hU.trans hu10 (by first | exact (fun _ _ h => h) | exact (fun _ _ h => h.elim) | (intro k hl hk; (try simp only [At, New, Grow, From, No] at hk ⊢); omega) | (intro k hl hk; first | exact hk.elim | (simp only [At, From, No] at *; omega)))
             replace h2 := h2.upd hu10 (by first | exact (fun h => h) | (simp only [At, No]; omega) | (intro h; rcases h with h | h <;> omega))
             replace h5 := h5.upd hu10 (by first | exact (fun h => h) | (simp only [At, No]; omega))
             replace h7 := h7.upd hu10 (by first | exact (fun h => h) | (simp only [At, No]; omega))
             replace hE := hE.upd hu10 (fun k hk hl hS => by first | exact (show False from hS).elim | (simp only [At] at hS; omega))
             have hS8 := Upd.refl No w10
             refine WN.calm _ rfl rfl rfl rfl rfl (fun _ => r_move rfl (ev_t rfl)) ?_
             fail -- load 8.0: no facts
          · try (exfalso; first | (simp at hb7_2; done) | (simp only [decide_eq_true_eq, decide_eq_false_iff_not, Bool.not_eq_true', Bool.not_eq_false', Bool.not_eq_true, Bool.not_eq_false] at hb7_2; omega) | omega)
            all_goals
             try simp only [decide_eq_true_eq, decide_eq_false_iff_not, Bool.not_eq_true', Bool.not_eq_false', Bool.not_eq_true, Bool.not_eq_false, Option.isNone_none, Option.isNone_some, Option.isSome_none, Option.isSome_some, ne_eq, Decidable.not_not] at hb7_2
             refine WL.val rfl rfl rfl rfl (r_move rfl (ev_t rfl)) ?_
             refine WL.cons (SO.call (take_ok (hu.rd (by omega)) (fun k hk => by simp only [New] at hk; omega) h5 h7 (by omega) hE (fun k hk => by omega) hlv htk) rfl body_36 ⟨(ev_t rfl), (ev_t rfl), (ev_t rfl), trivial⟩ rfl rfl rfl rfl ?_)
             rintro v w11 ⟨rfl, lv', h5, h7, hE, hlv', hu11⟩
             have hEm := hE.mono (F' := fun k => w.heap.size + 2 < k ∧ k < w11.heap.size) (fun k hk => by have := hu11.size; simp only [Grow] at hk; omega)
             have hs11 := hu11.size
             replace hU := hU.trans hu11 (by first | exact (fun _ _ h => h) | exact (fun _ _ h => h.elim) | (intro k hl hk; (try simp only [At, New, Grow, From, No] at hk ⊢); omega) | (intro k hl hk; first | exact hk.elim | (simp only [At, From, No] at *; omega)))
             replace h2 := h2.upd hu11 (by first | exact (fun h => h) | (simp only [At, No]; omega) | (intro h; rcases h with h | h <;> omega))
             refine WL.val rfl rfl rfl rfl (r_not rfl (ev_t rfl)) ?_
             refine WL.val rfl rfl rfl rfl (r_pickF rfl (ev_t rfl) (ev_t rfl)) ?_
             refine WL.nil ?_
             refine WX.keep [(0, _), (2, _), (5, _), (6, _), (7, _), (8, _), (9, _), (55, _)] ⟨rfl, rfl, rfl, rfl, rfl, rfl, rfl, rfl, trivial⟩ ?_
             refine WX.next ?_
             refine WC.cond rfl (ev_t rfl) (fun hc7 => ?_) (fun hc7 => ?_)
             · try (exfalso; first | (simp at hc7; done) | (simp only [decide_eq_true_eq, decide_eq_false_iff_not, Bool.not_eq_true', Bool.not_eq_false', Bool.not_eq_true, Bool.not_eq_false] at hc7; omega) | omega)
               all_goals
                try simp only [decide_eq_true_eq, decide_eq_false_iff_not, Bool.not_eq_true', Bool.not_eq_false', Bool.not_eq_true, Bool.not_eq_false, Option.isNone_none, Option.isNone_some, Option.isSome_none, Option.isSome_some, ne_eq, Decidable.not_not] at hc7
                refine WC.seq ?_
                refine WC.draws' (fun u0_ u1_ => Upd No u0_ u1_) (fun j => [0, 0, 0, 1, 0, 0].getD j 0) (.calm 1 (.held 0 (.held 2 (.one 3 (.calm 4 (.calm 5 (.done))))))) mixed (by kernel_rfl) (by repeat (first | with_reducible exact Deaf.body | with_reducible apply Deaf.then | with_reducible apply Deaf.block)) ?_
                intro w12 hu12
                have hz12 := congrArg Array.size hu12.2.2.2
                replace hu12 := Upd.of_draw hu12
                have hs12 := hu12.size
                replace hU := hU.trans hu12 (by first | exact (fun _ _ h => h) | exact (fun _ _ h => h.elim) | (intro k hl hk; (try simp only [At, New, Grow, From, No] at hk ⊢); omega) | (intro k hl hk; first | exact hk.elim | (simp only [At, From, No] at *; omega)))
                replace h2 := h2.upd hu12 (by first | exact (fun h => h) | (simp only [At, No]; omega) | (intro h; rcases h with h | h <;> omega))
                replace h5 := h5.upd hu12 (by first | exact (fun h => h) | (simp only [At, No]; omega))
                replace h7 := h7.upd hu12 (by first | exact (fun h => h) | (simp only [At, No]; omega))
                replace hE := hE.upd hu12 (fun k hk hl hS => by first | exact (show False from hS).elim | (simp only [At] at hS; omega))
                have hS8 := Upd.refl No w12
                refine WN.calm _ rfl rfl rfl rfl rfl (fun _ => r_move rfl (ev_t rfl)) ?_
                fail -- load 8.0: no facts
             · try (exfalso; first | (simp at hc7; done) | (simp only [decide_eq_true_eq, decide_eq_false_iff_not, Bool.not_eq_true', Bool.not_eq_false', Bool.not_eq_true, Bool.not_eq_false] at hc7; omega) | omega)
               all_goals
                try simp only [decide_eq_true_eq, decide_eq_false_iff_not, Bool.not_eq_true', Bool.not_eq_false', Bool.not_eq_true, Bool.not_eq_false, Option.isNone_none, Option.isNone_some, Option.isSome_none, Option.isSome_some, ne_eq, Decidable.not_not] at hc7
                refine WC.skip ?_
                refine WX.next ?_
                refine WC.region ?_
                refine WL.val rfl rfl rfl rfl (r_move rfl (ev_t rfl)) ?_
                refine WL.val rfl rfl rfl rfl (r_move rfl (ev_t rfl)) ?_
                refine WL.val rfl rfl rfl rfl (r_move rfl (ev_t rfl)) ?_
                first | refine WL.val rfl rfl rfl rfl (r_addN rfl (ev_t rfl) (ev_t rfl) (by simp only [inK]; omega)) ?_ | refine WL.val rfl rfl rfl rfl (r_add rfl (ev_t rfl) (ev_t rfl)) ?_
                first | refine WL.val rfl rfl rfl rfl (r_addN rfl (ev_t rfl) (ev_t rfl) (by simp only [inK]; omega)) ?_ | refine WL.val rfl rfl rfl rfl (r_add rfl (ev_t rfl) (ev_t rfl)) ?_
                refine WL.val rfl rfl rfl rfl (r_assign rfl (ev_t rfl)) ?_
                refine WL.nil ?_
                refine WX.keep [(0, _), (2, _), (5, _), (6, _), (7, _)] ⟨rfl, rfl, rfl, rfl, rfl, trivial⟩ ?_
                refine WX.blockNormal ?_
                refine WX.meet [(0, _), (2, _), (5, _), (6, _), (7, _)] ⟨rfl, rfl, rfl, rfl, rfl, trivial⟩ ?_
                exact ⟨n - (j + 1), by omega, j + 1, lv', by omega, rfl, hU, by have := hU.size; omega, h2, h5, h7, hEm, hlv', by rw [hA', show ((A j + kk + m' : Nat) : Int) = (A j : Int) + ((kk : Int) + (m' : Int)) by omega]⟩
end Go.Proofs.Ytnjfhmlfpfkllaa

/-
  The drum: what it is in plain Lean, and how it lies in memory.
-/
namespace Go.Proofs.Ytnjfhmlfpfkllaa
open Go
set_option linter.unusedSimpArgs false
set_option linter.unusedVariables false

structure Trk where
  sure : List UInt8
  now : List UInt8
  fresh : Bool
structure DS where
  l : List Trk
  most : Int
  ops : Int
  armed : Int
  off : Bool

def armB (armed : Int) (off : Bool) : Int × Bool := if 0 < armed then (armed - 1, decide (armed - 1 = 0)) else (armed, off)
def DS.begin (D : DS) : DS := { D with ops := IntKind.i64.wrap (D.ops + 1), armed := (armB D.armed D.off).1, off := (armB D.armed D.off).2 }
def lookN (n : Nat) (off : Bool) (i : Int) : Nat := if i < 0 ∨ (n : Int) ≤ i then 1 else if off = true then 12 else 0
def DS.look (D : DS) (i : Int) : Nat := lookN D.l.length D.off i
def DS.code (D : DS) : Nat := if D.off = true then 12 else 0
def DS.setT (D : DS) (i : Nat) (t : Trk) : DS := { D with l := D.l.set i t }
def DS.track (D : DS) (i : Nat) : Trk := D.l.getD i ⟨[], [], false⟩
def DS.append (D : DS) (i : Int) (q : List UInt8) : DS × Nat :=
  if D.look i ≠ 0 then (D, D.look i) else
  if D.most - (D.track i.toNat).now.length < q.length then (D, 13) else
  (D.begin.setT i.toNat { D.track i.toNat with now := (D.track i.toNat).now ++ q }, D.begin.code)
def DS.write (D : DS) (i : Int) (q : List UInt8) : DS × Nat :=
  if D.look i ≠ 0 then (D, D.look i) else
  if D.most < q.length then (D, 13) else
  (D.begin.setT i.toNat { D.track i.toNat with now := q, fresh := true }, D.begin.code)
def DS.sync (D : DS) (i : Int) : DS × Nat :=
  if D.look i ≠ 0 then (D, D.look i) else
  if D.begin.off = true then (D.begin, 12) else
  (D.begin.setT i.toNat { sure := (D.track i.toNat).now, now := (D.track i.toNat).now, fresh := false }, 0)
def DS.read (D : DS) (i : Int) : List UInt8 × Nat := if D.look i ≠ 0 then ([], D.look i) else ((D.track i.toNat).now, 0)
/-- what is durable behind a fall -/
def fallS (t : Trk) (cut : Int) : List UInt8 :=
  if t.fresh = true ∧ 0 ≤ cut then t.now.take cut.toNat
  else if t.fresh = false ∧ 0 < cut then t.now.take (t.sure.length + (min cut t.now.length).toNat)
  else t.sure
def fallT (t : Trk) (cut : Int) : Trk := { sure := fallS t cut, now := fallS t cut, fresh := false }
def fallL (l : List Trk) (cuts : List Int) : List Trk := l.zipIdx.map fun x => fallT x.1 (cuts.getD x.2 (-1))
def DS.restart (D : DS) (cuts : List Int) : DS := { D with l := fallL D.l cuts, armed := 0, off := false }

/-- what holds of a drum -/
structure DS.WF (D : DS) : Prop where
  most : 0 ≤ D.most ∧ D.most ≤ 1048576
  len : D.l.length ≤ 8
  armed : inK .i64 D.armed
  trk : ∀ t ∈ D.l, (t.sure.length : Int) ≤ D.most ∧ (t.now.length : Int) ≤ D.most

/-- a track as it lies: the slices, the mark, the blocks of the slices -/
structure TrkV where
  sv : Value
  nv : Value
  fr : Bool
  FS : Nat → Prop
  FN : Nat → Prop
def trkC (l : List TrkV) : List Value := l.flatMap fun t => [t.sv, t.nv, .bool t.fr]
theorem trkC_cons (t : TrkV) (l : List TrkV) : trkC (t :: l) = t.sv :: t.nv :: .bool t.fr :: trkC l := rfl
theorem trkC_length : ∀ l : List TrkV, (trkC l).length = l.length * 3
  | [] => rfl
  | t :: l => by rw [trkC_cons, List.length_cons, List.length_cons, List.length_cons, List.length_cons, trkC_length l]; omega
theorem trkC_get : ∀ {l : List TrkV} {i : Nat} {t : TrkV}, l[i]? = some t → (trkC l)[i * 3]? = some t.sv ∧ (trkC l)[i * 3 + 1]? = some t.nv ∧ (trkC l)[i * 3 + 2]? = some (.bool t.fr)
  | [], i, t, h => by simp at h
  | a :: l, 0, t, h => by
    simp only [List.getElem?_cons_zero, Option.some.injEq] at h
    subst h
    exact ⟨rfl, rfl, rfl⟩
  | a :: l, i + 1, t, h => by
    have := trkC_get (l := l) (i := i) (t := t) (by simpa using h)
    rw [trkC_cons, show (i + 1) * 3 = i * 3 + 1 + 1 + 1 by omega]
    simpa using this
theorem trkC_set : ∀ {l : List TrkV} {i : Nat} {t : TrkV}, l[i]? = some t →
    (∀ v, (trkC l).set (i * 3) v = trkC (l.set i { t with sv := v })) ∧ (∀ v, (trkC l).set (i * 3 + 1) v = trkC (l.set i { t with nv := v })) ∧ (∀ b, (trkC l).set (i * 3 + 2) (.bool b) = trkC (l.set i { t with fr := b }))
  | [], i, t, h => by simp at h
  | a :: l, 0, t, h => by
    simp only [List.getElem?_cons_zero, Option.some.injEq] at h
    subst h
    exact ⟨fun _ => rfl, fun _ => rfl, fun _ => rfl⟩
  | a :: l, i + 1, t, h => by
    have := trkC_set (l := l) (i := i) (t := t) (by simpa using h)
    rw [trkC_cons, show (i + 1) * 3 = i * 3 + 1 + 1 + 1 by omega]
    refine ⟨fun v => ?_, fun v => ?_, fun v => ?_⟩
    · rw [List.set_cons_succ, List.set_cons_succ, List.set_cons_succ, this.1 v]; rfl
    · rw [List.set_cons_succ, List.set_cons_succ, List.set_cons_succ, this.2.1 v]; rfl
    · rw [List.set_cons_succ, List.set_cons_succ, List.set_cons_succ, this.2.2 v]; rfl

structure TrkOK (w : World) (t : TrkV) (a : Trk) : Prop where
  sure : Own w t.FS 5 1 t.sv a.sure.length (a.sure.map U8)
  now : Own w t.FN 5 1 t.nv a.now.length (a.now.map U8)
  fr : t.fr = a.fresh
theorem TrkOK.upd {w w' : World} {t : TrkV} {a : Trk} {S : Nat → Prop} (h : TrkOK w t a) (hu : Upd S w w') (hn : ∀ k, t.FS k ∨ t.FN k → k < w.heap.size → ¬ S k) : TrkOK w' t a :=
  ⟨h.sure.upd hu fun k hk => hn k (.inl hk), h.now.upd hu fun k hk => hn k (.inr hk), h.fr⟩

/-- the drum's own block -/
def hdD (g n : Nat) (D : DS) : Array Value := #[.slice (some ⟨g, 0, none⟩) n n, .int .i64 D.most, .int .i64 D.ops, .int .i64 D.armed, .bool D.off]

/-- the drum lies there: p its block, g its row's, l its tracks -/
structure DrumAt (w : World) (F : Nat → Prop) (p g : Nat) (l : List TrkV) (D : DS) : Prop where
  hd : Blk w p (hdD g D.l.length D) 62
  row : Blk w g (trkC l).toArray 64
  len : l.length = D.l.length
  ok : ∀ (i : Nat) t a, l[i]? = some t → D.l[i]? = some a → TrkOK w t a
  apart : ∀ (i j : Nat) t u, l[i]? = some t → l[j]? = some u → i ≠ j → ∀ k, t.FS k ∨ t.FN k → ¬ (u.FS k ∨ u.FN k)
  two : ∀ (i : Nat) t, l[i]? = some t → ∀ k, t.FS k → ¬ t.FN k
  fp : ∀ (i : Nat) t, l[i]? = some t → ∀ k, t.FS k ∨ t.FN k → F k ∧ k ≠ p ∧ k ≠ g ∧ k < w.heap.size
  own : F p ∧ F g
  wf : D.WF
def IsD (w : World) (F : Nat → Prop) (p : Nat) (D : DS) : Prop := ∃ g l, DrumAt w F p g l D

theorem DrumAt.ne {w : World} {F : Nat → Prop} {p g : Nat} {l : List TrkV} {D : DS} (h : DrumAt w F p g l D) : p ≠ g := h.hd.ne h.row (by decide)
theorem DrumAt.mono {w : World} {F F' : Nat → Prop} {p g : Nat} {l : List TrkV} {D : DS} (h : DrumAt w F p g l D) (hF : ∀ k, F k → k < w.heap.size → F' k) : DrumAt w F' p g l D :=
  { h with fp := fun i t ht k hk => by have := h.fp i t ht k hk; exact ⟨hF k this.1 this.2.2.2, this.2⟩, own := ⟨hF p h.own.1 h.hd.lt, hF g h.own.2 h.row.lt⟩ }
theorem DrumAt.upd {w w' : World} {F S : Nat → Prop} {p g : Nat} {l : List TrkV} {D : DS} (h : DrumAt w F p g l D) (hu : Upd S w w') (hn : ∀ k, F k → k < w.heap.size → ¬ S k) : DrumAt w' F p g l D :=
  { h with
    hd := h.hd.upd hu (hn p h.own.1 h.hd.lt)
    row := h.row.upd hu (hn g h.own.2 h.row.lt)
    ok := fun i t a ht ha => (h.ok i t a ht ha).upd hu fun k hk hl => hn k (h.fp i t ht k hk).1 hl
    fp := fun i t ht k hk => by have := h.fp i t ht k hk; exact ⟨this.1, this.2.1, this.2.2.1, Nat.lt_of_lt_of_le this.2.2.2 hu.size⟩ }
theorem IsD.mono {w : World} {F F' : Nat → Prop} {p : Nat} {D : DS} (h : IsD w F p D) (hF : ∀ k, F k → k < w.heap.size → F' k) : IsD w F' p D := by
  obtain ⟨g, l, h⟩ := h
  exact ⟨g, l, h.mono hF⟩
theorem IsD.upd {w w' : World} {F S : Nat → Prop} {p : Nat} {D : DS} (h : IsD w F p D) (hu : Upd S w w') (hn : ∀ k, F k → k < w.heap.size → ¬ S k) : IsD w' F p D := by
  obtain ⟨g, l, h⟩ := h
  exact ⟨g, l, h.upd hu hn⟩
theorem IsD.wf {w : World} {F : Nat → Prop} {p : Nat} {D : DS} (h : IsD w F p D) : D.WF := by
  obtain ⟨g, l, h⟩ := h
  exact h.wf

/-- the blocks of one track, its row and the drum's own -/
def trkS (p g : Nat) (t : TrkV) : Nat → Prop := fun k => k = p ∨ k = g ∨ t.FS k ∨ t.FN k

/-- one track is another one -/
theorem DrumAt.put {w w' : World} {F : Nat → Prop} {p g i : Nat} {l : List TrkV} {D D' : DS} {t t' : TrkV} {a' : Trk} (h : DrumAt w F p g l D) (ht : l[i]? = some t) (hu : Upd (trkS p g t) w w')
    (hhd : Blk w' p (hdD g D.l.length D') 62) (hrow : Blk w' g (trkC (l.set i t')).toArray 64) (hok : TrkOK w' t' a') (hl : D'.l = D.l.set i a') (hwf : D'.WF)
    (hS : ∀ k, t'.FS k ∨ t'.FN k → (t.FS k ∨ t.FN k ∨ w.heap.size ≤ k) ∧ k < w'.heap.size) (h2 : ∀ k, t'.FS k → ¬ t'.FN k) : DrumAt w' (Grow F w w') p g (l.set i t') D' := by
  have hi : i < l.length := (List.getElem?_eq_some_iff.1 ht).1
  have hlp := h.hd.lt
  have hlg := h.row.lt
  have old : ∀ (j : Nat) u, l[j]? = some u → i ≠ j → ∀ k, u.FS k ∨ u.FN k → ¬ (t'.FS k ∨ t'.FN k) := fun j u hj hij k hk hk' => by
    have h1 := hS k hk'
    have h3 := h.fp j u hj k hk
    rcases h1.1 with h4 | h4 | h4
    · exact h.apart i j t u ht hj hij k (.inl h4) hk
    · exact h.apart i j t u ht hj hij k (.inr h4) hk
    · omega
  have get : ∀ (j : Nat) u, (l.set i t')[j]? = some u → (i = j ∧ u = t') ∨ (i ≠ j ∧ l[j]? = some u) := fun j u hj => by
    rw [List.getElem?_set] at hj
    split at hj
    · rename_i e
      injection hj with hj
      exact .inl ⟨e, hj.symm⟩
    · exact .inr ⟨by assumption, hj⟩
  refine ⟨?_, hrow, by rw [List.length_set, hl, List.length_set, h.len], fun j u a hj ha => ?_, fun j j' u u' hj hj' hne k hk hk' => ?_, fun j u hj k hk hk' => ?_, fun j u hj k hk => ?_, ⟨.inl h.own.1, .inl h.own.2⟩, hwf⟩
  · rw [hl, List.length_set]; exact hhd
  · rw [hl] at ha
    rcases get j u hj with ⟨rfl, rfl⟩ | ⟨hij, hj⟩
    · rw [List.getElem?_set_self (by rw [← h.len]; exact hi)] at ha
      injection ha with ha
      subst ha
      exact hok
    · rw [List.getElem?_set_ne hij] at ha
      refine (h.ok j u a hj ha).upd hu fun k hk hl hSk => ?_
      have h3 := h.fp j u hj k hk
      rcases hSk with h4 | h4 | h4
      · exact h3.2.1 h4
      · exact h3.2.2.1 h4
      · exact h.apart i j t u ht hj hij k h4 hk
  · rcases get j u hj with ⟨e0, e1⟩ | ⟨hij, hn⟩ <;> rcases get j' u' hj' with ⟨e, e2⟩ | ⟨hij', hn'⟩
    · exact hne (e0.symm.trans e)
    · exact old j' u' hn' hij' k hk' (e1 ▸ hk)
    · exact old j u hn hij k hk (e2 ▸ hk')
    · exact h.apart j j' u u' hn hn' hne k hk hk'
  · rcases get j u hj with ⟨rfl, rfl⟩ | ⟨hij, hj⟩
    · exact h2 k hk hk'
    · exact h.two j u hj k hk hk'
  · rcases get j u hj with ⟨rfl, rfl⟩ | ⟨hij, hj⟩
    · have h1 := hS k hk
      rcases h1.1 with h4 | h4 | h4
      · have h5 := h.fp i t ht k (.inl h4); exact ⟨.inl h5.1, h5.2.1, h5.2.2.1, h1.2⟩
      · have h5 := h.fp i t ht k (.inr h4); exact ⟨.inl h5.1, h5.2.1, h5.2.2.1, h1.2⟩
      · exact ⟨.inr ⟨h4, h1.2⟩, by omega, by omega, h1.2⟩
    · have h5 := h.fp j u hj k hk
      exact ⟨.inl h5.1, h5.2.1, h5.2.2.1, Nat.lt_of_lt_of_le h5.2.2.2 hu.size⟩
/-- only the drum's own block changes -/
theorem DrumAt.head {w w' : World} {F : Nat → Prop} {p g : Nat} {l : List TrkV} {D D' : DS} (h : DrumAt w F p g l D) (hu : Upd (At p) w w') (hhd : Blk w' p (hdD g D.l.length D') 62) (hl : D'.l = D.l) (hwf : D'.WF) : DrumAt w' F p g l D' :=
  { hd := by rw [hl]; exact hhd
    row := h.row.upd hu (fun e => h.ne e.symm)
    len := by rw [hl]; exact h.len
    ok := fun i t a ht ha => (h.ok i t a ht (by rw [← hl]; exact ha)).upd hu fun k hk hl e => (h.fp i t ht k hk).2.1 e
    apart := h.apart
    two := h.two
    fp := fun i t ht k hk => by have := h.fp i t ht k hk; exact ⟨this.1, this.2.1, this.2.2.1, Nat.lt_of_lt_of_le this.2.2.2 hu.size⟩
    own := h.own
    wf := hwf }

theorem DS.WF.begin {D : DS} (h : D.WF) : D.begin.WF := ⟨h.most, h.len, by
  have := h.armed
  simp only [DS.begin, armB, inK] at this ⊢
  split <;> simp only <;> omega, h.trk⟩
theorem DS.WF.setT {D : DS} (h : D.WF) {i : Nat} {t : Trk} (hs : (t.sure.length : Int) ≤ D.most) (hn : (t.now.length : Int) ≤ D.most) : (D.setT i t).WF := ⟨h.most, by simp only [DS.setT, List.length_set]; exact h.len, h.armed, fun u hu => by
  rcases List.mem_or_eq_of_mem_set hu with hu | rfl
  · exact h.trk u hu
  · exact ⟨hs, hn⟩⟩
theorem DS.track_get {D : DS} {i : Nat} (h : i < D.l.length) : D.l[i]? = some (D.track i) := by
  simp [DS.track, List.getElem?_eq_getElem h]
theorem DS.track_mem {D : DS} {i : Nat} (h : i < D.l.length) : D.track i ∈ D.l := List.mem_of_getElem? (DS.track_get h)
theorem fallS_len (t : Trk) (cut : Int) : (fallS t cut).length ≤ max t.sure.length t.now.length := by
  unfold fallS
  split
  · rw [List.length_take]; omega
  · split
    · rw [List.length_take]; omega
    · omega
end Go.Proofs.Ytnjfhmlfpfkllaa
