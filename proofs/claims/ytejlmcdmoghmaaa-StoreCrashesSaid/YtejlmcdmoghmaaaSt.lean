/-
  The store: lay, unlay, Snap.
-/
import Derived.Test.YtejlmcdmoghmaaaStQ
namespace Go.Proofs.Ytejlmcdmoghmaaa
open Go
set_option linter.unusedSimpArgs false
set_option linter.unusedVariables false

theorem IsR.lt {w : World} {F : Nat → Prop} {g : Nat} {s : Option (List UInt8)} (h : IsR w F g s) : g < w.heap.size := by
  cases s with
  | none => obtain ⟨A, n, c, hb⟩ := h; exact hb.lt
  | some l => obtain ⟨A, c, hb, hr⟩ := h; exact hb.lt

theorem lay_ok {w : World} {F : Nat → Prop} {dv : Value} {n : Nat} {s : Sn} (hr : Rd w F dv n 1 (s.data.map U8)) (hs : s.ok) :
    Ret Try.prog 43 #[.agg #[.int .u64 (s.idx : Int), .int .u64 (s.term : Int), dv]] w fun v w' => Own w' (New w w') 5 1 v (layB s).length ((layB s).map U8) ∧ Upd No w w' := by
  have h1 := encU_len_le hs.1
  have h2 := encU_len_le hs.2.1
  have h3 := hs.2.2
  have h4 := layB_len hs
  have h5 := encU_len_le (n := s.data.length) (by omega)
  replace hr := hr.bound
  obtain ⟨Ad, cd, rfl, hcd⟩ := hr.slice_form
  refine enterRet (vs := [_]) (N := 18) Try.func43 rfl rfl rfl ?_
  have hU := Upd.refl No w
  refine WC.keep [(0, _)] ⟨rfl, trivial⟩ ?_
  refine WC.seq ?_
  refine WC.region ?_
  refine WL.cons (SO.alloc rfl rfl rfl rfl (r_boxAgg rfl (ev_t rfl)) ?_)
  intro w1 hu1 hB1 hz1
  have hs1 := hu1.size
  replace hU := hU.transA hu1
  replace hr := hr.upd hu1 (by first | exact (fun _ _ _ h => h) | (intro k hk hl hS; have := hk.2; simp only [At, New, Grow, From, No] at hS; omega))
  refine WL.val rfl rfl rfl rfl (r_assign rfl ev_c) ?_
  refine WL.nil ?_
  refine WX.keep [(1, _)] ⟨rfl, trivial⟩ ?_
  refine WX.next ?_
  refine WC.seq ?_
  refine WC.region ?_
  refine WL.val rfl rfl rfl rfl (r_build (cs := #[_]) (vs := []) rfl trivial plc_104 zero_104 rfl) ?_
  refine WL.cons (SO.alloc rfl rfl rfl rfl (r_boxAgg rfl (ev_t rfl)) ?_)
  intro w2 hu2 hB2 hz2
  have hs2 := hu2.size
  replace hU := hU.transA hu2
  replace hr := hr.upd hu2 (by first | exact (fun _ _ _ h => h) | (intro k hk hl hS; have := hk.2; simp only [At, New, Grow, From, No] at hS; omega))
  replace hB1 := hB1.updA hu2
  refine WL.val rfl rfl rfl rfl (r_assign rfl (ev_t rfl)) ?_
  refine WL.nil ?_
  refine WX.keep [(1, _), (3, _)] ⟨rfl, rfl, trivial⟩ ?_
  have hwr := IsW.of (M := At _) hB2 rfl
  refine WX.next ?_
  refine WC.seq ?_
  refine WC.draws' (fun u0_ u1_ => Upd (At w1.heap.size) u0_ u1_) (fun j => [0, 0, 0, 1, 0, 0, 1, 0, 0, 2, 2, 2, 0].getD j 0) (.calm 0 (.calm 1 (.calm 4 (.calm 7 (.held 2 (.held 5 (.held 8 (.one 3 (.one 6 (.one 9 (.one 10 (.one 11 (.calm 12 (.done)))))))))))))) mixed (by kernel_rfl) (by repeat (first | with_reducible exact Deaf.body | with_reducible apply Deaf.then | with_reducible apply Deaf.block)) ?_
  intro w3 hu3
  have hz3 := congrArg Array.size hu3.2.2.2
  replace hu3 := Upd.of_draw hu3
  have hs3 := hu3.size
  replace hU := hU.transA hu3
  replace hr := hr.upd hu3 (by first | exact (fun _ _ _ h => h) | (intro k hk hl hS; have := hk.2; simp only [At, New, Grow, From, No] at hS; omega))
  replace hB1 := hB1.updA hu3
  have hS2 := Upd.refl (At w1.heap.size) w3
  replace hwr := hwr.upd hu3 (fun _ _ _ h => h)
  refine WN.calm _ rfl rfl rfl rfl rfl (fun _ => r_move rfl (ev_t rfl)) ?_
  first | refine WN.calm _ rfl rfl rfl rfl rfl (fun _ => r_field0 rfl (ev_t rfl) fld_50_0) ?_ | refine WN.calm _ rfl rfl rfl rfl rfl (fun _ => r_fieldAt rfl (ev_t rfl) fld_50_0) ?_
  first | refine WN.calm _ rfl rfl rfl rfl rfl (fun _ => r_field0 rfl (ev_t rfl) fld_50_1) ?_ | refine WN.calm _ rfl rfl rfl rfl rfl (fun _ => r_fieldAt rfl (ev_t rfl) fld_50_1) ?_
  first | refine WN.calm _ rfl rfl rfl rfl rfl (fun _ => r_field0 rfl (ev_t rfl) fld_50_2) ?_ | refine WN.calm _ rfl rfl rfl rfl rfl (fun _ => r_fieldAt rfl (ev_t rfl) fld_50_2) ?_
  refine WN.held _ rfl rfl rfl rfl rfl hS2 (fun w' hS => r_load rfl (ev_t rfl) flat_48 (Blk.cell (hB1.upd hS (by (try simp only [At, From, No, Grow, New]); omega)) rfl)) ?_
  refine WN.held _ rfl rfl rfl rfl rfl hS2 (fun w' hS => r_load rfl (ev_t rfl) flat_48 (Blk.cell (hB1.upd hS (by (try simp only [At, From, No, Grow, New]); omega)) rfl)) ?_
  refine WN.held _ rfl rfl rfl rfl rfl hS2 (fun w' hS => r_load rfl (ev_t rfl) flat_22 (Blk.cell (hB1.upd hS (by (try simp only [At, From, No, Grow, New]); omega)) rfl)) ?_
  refine WN.step _ rfl (SO.call (wuint_ok hwr hs.1 (by simp)) rfl body_52 ⟨(ev_t rfl), (ev_t rfl), trivial⟩ rfl rfl rfl rfl ?_)
  rintro v w4 ⟨rfl, hwr, hu4⟩
  have hs4 := hu4.size
  replace hS2 := Upd.transA hS2 hu4
  replace hU := hU.transA hu4
  replace hr := hr.upd hu4 (by first | exact (fun _ _ _ h => h) | (intro k hk hl hS; have := hk.2; simp only [At, New, Grow, From, No] at hS; omega))
  replace hB1 := hB1.updA hu4
  refine ⟨hS2, ?_⟩
  refine WN.step _ rfl (SO.call (wuint_ok hwr hs.2.1 (by simp; omega)) rfl body_52 ⟨(ev_t rfl), (ev_t rfl), trivial⟩ rfl rfl rfl rfl ?_)
  rintro v w5 ⟨rfl, hwr, hu5⟩
  have hs5 := hu5.size
  replace hS2 := Upd.transA hS2 hu5
  replace hU := hU.transA hu5
  replace hr := hr.upd hu5 (by first | exact (fun _ _ _ h => h) | (intro k hk hl hS; have := hk.2; simp only [At, New, Grow, From, No] at hS; omega))
  replace hB1 := hB1.updA hu5
  refine ⟨hS2, ?_⟩
  refine WN.step _ rfl (SO.call (wbytes_ok hwr hr (fun k hk hM => by have := hk.2; simp only [At, Grow] at hM; omega) (by simp; omega)) rfl body_53 ⟨(ev_t rfl), (ev_t rfl), trivial⟩ rfl rfl rfl rfl ?_)
  rintro v w6 ⟨rfl, hwr, hu6⟩
  have hs6 := hu6.size
  try replace hS2 := Upd.transA hS2 hu6
  replace hU := hU.transA hu6
  replace hr := hr.upd hu6 (by first | exact (fun _ _ _ h => h) | (intro k hk hl hS; have := hk.2; simp only [At, New, Grow, From, No] at hS; omega))
  replace hB1 := hB1.updA hu6
  refine ⟨trivial, ?_⟩
  refine WN.step _ rfl (SO.call (wdone_ok hwr (by simp; omega)) rfl body_54 ⟨(ev_t rfl), trivial⟩ rfl rfl rfl rfl ?_)
  rintro v w7 ⟨ho, hu7⟩
  have hs7 := hu7.size
  try replace hS2 := Upd.transA hS2 hu7
  replace hU := hU.transA hu7
  replace hr := hr.upd hu7 (by first | exact (fun _ _ _ h => h) | (intro k hk hl hS; have := hk.2; simp only [At, New, Grow, From, No] at hS; omega))
  replace hB1 := hB1.updA hu7
  refine ⟨trivial, ?_⟩
  refine WN.step _ rfl (SO.call (seal_ok (l := bodyB s) (by simpa [bodyB] using ho.rd (by simp; omega)) (by unfold layB at h4; rw [sealB_length] at h4; omega)) rfl body_51 ⟨(ev_t rfl), trivial⟩ rfl rfl rfl rfl ?_)
  rintro v w8 ⟨hv, hu8⟩
  have hs8 := hu8.size
  try replace hS2 := Upd.transA hS2 hu8
  replace hU := hU.transA hu8
  replace hr := hr.upd hu8 (by first | exact (fun _ _ _ h => h) | (intro k hk hl hS; have := hk.2; simp only [At, New, Grow, From, No] at hS; omega))
  replace hB1 := hB1.updA hu8
  refine ⟨trivial, ?_⟩
  refine WN.calm _ rfl rfl rfl rfl rfl (fun _ => r_assign rfl (ev_t rfl)) ?_
  refine WN.done ?_
  refine WX.keep [(2, _)] ⟨rfl, trivial⟩ ?_
  refine WX.next ?_
  refine WC.ret ?_
  refine WX.retE1 rfl rfl ?_
  exact ⟨hv.mono (fun k hk => ⟨by have := hk.1; omega, hk.2⟩), hU⟩

theorem unlay_ok' {w : World} {F : Nat → Prop} {pv : Value} {n : Nat} {p : List UInt8} (hr : Rd w F pv n 1 (p.map U8)) (hp : p.length ≤ 1048576) :
    Ret Try.prog 44 #[pv] w fun v w' => ∃ (i t : Nat) (dv : Value) (d : List UInt8), v = .tuple #[.agg #[.int .u64 (i : Int), .int .u64 (t : Int), dv], .bool (unlayB p).isSome] ∧ Own w' (New w w') 5 1 dv d.length (d.map U8) ∧ (∀ s, unlayB p = some s → s = ⟨i, t, d⟩) ∧ Upd No w w' ∧ d.length ≤ 140737488355328 := by
  replace hr := hr.bound
  refine enterRet (vs := [_]) (N := 28) Try.func44 rfl rfl rfl ?_
  have hU := Upd.refl No w
  refine WC.keep [(0, _)] ⟨rfl, trivial⟩ ?_
  refine WC.seq ?_
  refine WC.region ?_
  refine WL.cons (SO.alloc rfl rfl rfl rfl (r_alloc rfl zero_50) ?_)
  intro w1 hu1 hB1 hz1
  have hs1 := hu1.size
  replace hU := hU.transA hu1
  replace hr := hr.updA hu1
  refine WL.val rfl rfl rfl rfl (r_assign rfl ev_c) ?_
  refine WL.nil ?_
  refine WX.keep [(0, _), (2, _)] ⟨rfl, rfl, trivial⟩ ?_
  refine WX.next ?_
  refine WC.seq ?_
  refine WC.region ?_
  refine WL.val rfl rfl rfl rfl (r_move rfl (ev_t rfl)) ?_
  refine WL.cons (SO.call (open_ok hr (by omega)) rfl body_55 ⟨(ev_t rfl), trivial⟩ rfl rfl rfl rfl ?_)
  rintro v w2 ⟨u, rfl, ho, hu2⟩
  have hs2 := hu2.size
  replace hU := hU.transA hu2
  replace hr := hr.updA hu2
  replace hB1 := hB1.updA hu2
  refine WL.val rfl rfl rfl rfl (r_move rfl (ev_t rfl)) ?_
  refine WL.val rfl rfl rfl rfl (r_extract rfl (ev_t rfl) rfl) ?_
  refine WL.val rfl rfl rfl rfl (r_extract rfl (ev_t rfl) rfl) ?_
  refine WL.val rfl rfl rfl rfl (r_assign rfl (ev_t rfl)) ?_
  refine WL.val rfl rfl rfl rfl (r_assign rfl (ev_t rfl)) ?_
  refine WL.nil ?_
  refine WX.keep [(2, _), (4, _), (5, _)] ⟨rfl, rfl, rfl, trivial⟩ ?_
  refine WX.next ?_
  refine WC.seq ?_
  refine WC.seq ?_
  refine WC.region ?_
  refine WL.val rfl rfl rfl rfl (r_move rfl (ev_t rfl)) ?_
  refine WL.val rfl rfl rfl rfl (r_neq rfl (ev_t rfl) ev_c) ?_
  refine WL.nil ?_
  refine WX.keep [(2, _), (4, _), (14, _)] ⟨rfl, rfl, rfl, trivial⟩ ?_
  refine WX.next ?_
  refine WC.cond rfl (ev_t rfl) (fun hc2 => ?_) (fun hc2 => ?_)
  · try (exfalso; first | (simp at hc2; done) | (simp only [decide_eq_true_eq, decide_eq_false_iff_not, Bool.not_eq_true', Bool.not_eq_false', Bool.not_eq_true, Bool.not_eq_false] at hc2; omega) | omega)
    all_goals
     try simp only [decide_eq_true_eq, decide_eq_false_iff_not, Bool.not_eq_true', Bool.not_eq_false', Bool.not_eq_true, Bool.not_eq_false, Option.isNone_none, Option.isNone_some, Option.isSome_none, Option.isSome_some, ne_eq, Decidable.not_not] at hc2
     refine WC.seq ?_
     refine WC.region ?_
     refine WL.val rfl rfl rfl rfl (r_build (cs := #[_, _, _]) (vs := []) rfl trivial plc_50 zero_50 rfl) ?_
     refine WL.cons (SO.storeAll (us := [_, _, _]) rfl (ev_t rfl) (ev_t rfl) size_50 hB1 rfl rfl rfl rfl rfl ?_)
     intro w3 hu3 hB1 hz3
     have hs3 := hu3.size
     replace hU := hU.transA hu3
     replace ho := ho.upd hu3 (by first | exact (fun _ _ _ h => h) | (intro k hk hl hS; simp only [At, New, Grow, From, No] at *; omega))
     refine WL.val rfl rfl rfl rfl (r_assign rfl ev_c) ?_
     refine WL.nil ?_
     refine WX.keep [(2, _), (3, _)] ⟨rfl, rfl, trivial⟩ ?_
     refine WX.next ?_
     refine WC.ret ?_
     refine WX.thenRet ?_
     refine WX.retM (l := [.cell 2 50, .tmp 3]) (vs := [_, _]) rfl ⟨⟨_, [_, _, _], rfl, agg_50, size_50, (Blk.cellsL hB1), rfl⟩, ⟨rfl, trivial⟩⟩ ?_
     have hn : unlayB p = none := by unfold unlayB; rw [if_neg (by omega)]
     rw [hn]
     exact ⟨0, 0, .slice none 0 0, [], rfl, Own.nil _ _ _ _, (fun s h => by cases h), hU, by simp⟩
  · try (exfalso; first | (simp at hc2; done) | (simp only [decide_eq_true_eq, decide_eq_false_iff_not, Bool.not_eq_true', Bool.not_eq_false', Bool.not_eq_true, Bool.not_eq_false] at hc2; omega) | omega)
    all_goals
     try simp only [decide_eq_true_eq, decide_eq_false_iff_not, Bool.not_eq_true', Bool.not_eq_false', Bool.not_eq_true, Bool.not_eq_false, Option.isNone_none, Option.isNone_some, Option.isSome_none, Option.isSome_some, ne_eq, Decidable.not_not] at hc2
     refine WC.skip ?_
     refine WX.next ?_
     refine WC.seq ?_
     have hz : (openB p).2 = 0 := by omega
     have hol : (openB p).1.length ≤ 1048576 := by rw [(openB_zero hz).2, List.length_take]; omega
     obtain ⟨b, hb⟩ : ∃ b, b = (openB p).1 := ⟨_, rfl⟩
     rw [← hb] at ho hol
     obtain ⟨i, s1, h1⟩ : ∃ i s1, uintR (some b) = (i, s1) := ⟨_, _, rfl⟩
     obtain ⟨t, s2, h2⟩ : ∃ t s2, uintR s1 = (t, s2) := ⟨_, _, rfl⟩
     obtain ⟨d, s3, h3⟩ : ∃ d s3, bytesR 1048576 s2 = (d, s3) := ⟨_, _, rfl⟩
     have hun : unlayB p = if s3 = some [] then some ⟨i, t, d⟩ else none := by
       unfold unlayB parseB
       rw [if_pos hz, ← hb, h1]
       simp only
       rw [h2]
       simp only
       rw [h3]
     refine WC.region ?_
     refine WL.val rfl rfl rfl rfl (r_move rfl (ev_t rfl)) ?_
     refine WL.cons (SO.call (newReader_ok (ho.rd (by omega))) rfl body_56 ⟨(ev_t rfl), trivial⟩ rfl rfl rfl rfl ?_)
     rintro v w4 ⟨rfl, hrd, hu4⟩
     have hgl := hrd.lt
     have hs4 := hu4.size
     replace hU := hU.transA hu4
     replace hB1 := hB1.updA hu4
     replace ho := ho.upd hu4 (by first | exact (fun _ _ _ h => h) | (intro k hk hl hS; simp only [At, New, Grow, From, No] at *; omega))
     refine WL.val rfl rfl rfl rfl (r_assign rfl (ev_t rfl)) ?_
     refine WL.nil ?_
     refine WX.keep [(2, _), (6, _)] ⟨rfl, rfl, trivial⟩ ?_
     refine WX.next ?_
     refine WC.seq ?_
     refine WC.region ?_
     refine WL.val rfl rfl rfl rfl (r_move rfl (ev_t rfl)) ?_
     refine WL.cons (SO.call (ruint_ok hrd (fun h => by simp only [New] at h; omega) h1) rfl body_57 ⟨(ev_t rfl), trivial⟩ rfl rfl rfl rfl ?_)
     rintro v w5 ⟨rfl, hrd, hu5⟩
     have hs5 := hu5.size
     replace hU := hU.transA hu5
     replace hB1 := hB1.updA hu5
     replace ho := ho.upd hu5 (by first | exact (fun _ _ _ h => h) | (intro k hk hl hS; simp only [At, New, Grow, From, No] at *; omega))
     refine WL.val rfl rfl rfl rfl (r_move rfl (ev_t rfl)) ?_
     refine WL.cons (SO.call (ruint_ok hrd (fun h => by simp only [New] at h; omega) h2) rfl body_57 ⟨(ev_t rfl), trivial⟩ rfl rfl rfl rfl ?_)
     rintro v w6 ⟨rfl, hrd, hu6⟩
     have hs6 := hu6.size
     replace hU := hU.transA hu6
     replace hB1 := hB1.updA hu6
     replace ho := ho.upd hu6 (by first | exact (fun _ _ _ h => h) | (intro k hk hl hS; simp only [At, New, Grow, From, No] at *; omega))
     refine WL.val rfl rfl rfl rfl (r_move rfl (ev_t rfl)) ?_
     refine WL.cons (SO.call (bytes_ok hrd (fun h => by simp only [New] at h; omega) (by simp [inK]) h3) rfl body_58 ⟨(ev_t rfl), ev_c, trivial⟩ rfl rfl rfl rfl ?_)
     rintro v w7 ⟨hd, hrd, hu7, hdl⟩
     have hs7 := hu7.size
     replace hU := hU.transA hu7
     replace hB1 := hB1.updA hu7
     replace ho := ho.upd hu7 (by first | exact (fun _ _ _ h => h) | (intro k hk hl hS; simp only [At, New, Grow, From, No] at *; omega))
     obtain ⟨Ad, cd, rfl, hcd⟩ := Own.form hd
     refine WL.val rfl rfl rfl rfl (r_build (cs := #[_, _, _]) (vs := [(0, _), (1, _), (2, _)]) rfl ⟨⟨rfl, (ev_t rfl)⟩, ⟨rfl, (ev_t rfl)⟩, ⟨rfl, (ev_t rfl)⟩, trivial⟩ plc_50 zero_50 rfl) ?_
     refine WL.cons (SO.alloc rfl rfl rfl rfl (r_alloc rfl zero_50) ?_)
     intro w8 hu8 hB8 hz8
     have hs8 := hu8.size
     replace hU := hU.transA hu8
     replace hB1 := hB1.updA hu8
     replace hd := hd.upd hu8 (by first | exact (fun _ _ _ h => h) | (intro k hk hl hS; simp only [At, New, Grow, From, No] at *; omega))
     replace hrd := hrd.upd hu8 (by first | exact (fun h => h) | (simp only [At]; omega)) (by first | exact (fun _ _ _ h => h) | (intro k hk hl hS; simp only [At, New, Grow, From, No] at *; omega))
     refine WL.cons (SO.storeAll (us := [_, _, _]) rfl (ev_t rfl) (ev_t rfl) size_50 hB8 rfl rfl rfl rfl rfl ?_)
     intro w9 hu9 hB8 hz9
     have hs9 := hu9.size
     replace hU := hU.transA hu9
     replace hB1 := hB1.updA hu9
     replace hd := hd.upd hu9 (by first | exact (fun _ _ _ h => h) | (intro k hk hl hS; simp only [At, New, Grow, From, No] at *; omega))
     replace hrd := hrd.upd hu9 (by first | exact (fun h => h) | (simp only [At]; omega)) (by first | exact (fun _ _ _ h => h) | (intro k hk hl hS; simp only [At, New, Grow, From, No] at *; omega))
     refine WL.nil ?_
     refine WX.keep [(2, _), (6, _), (7, _)] ⟨rfl, rfl, rfl, trivial⟩ ?_
     refine WX.next ?_
     refine WC.seq ?_
     refine WC.draws' (fun u0_ u1_ => Upd (At w.heap.size) u0_ u1_) (fun j => [0, 0, 1, 2, 0].getD j 0) (.calm 1 (.held 0 (.one 2 (.one 3 (.calm 4 (.done)))))) mixed (by kernel_rfl) (by repeat (first | with_reducible exact Deaf.body | with_reducible apply Deaf.then | with_reducible apply Deaf.block)) ?_
     intro w10 hu10
     have hz10 := congrArg Array.size hu10.2.2.2
     replace hu10 := Upd.of_draw hu10
     have hs10 := hu10.size
     replace hU := hU.transA hu10
     replace hB1 := hB1.updA hu10
     replace hd := hd.upd hu10 (by first | exact (fun _ _ _ h => h) | (intro k hk hl hS; simp only [At, New, Grow, From, No] at *; omega))
     replace hrd := hrd.upd hu10 (by first | exact (fun h => h) | (simp only [At]; omega)) (by first | exact (fun _ _ _ h => h) | (intro k hk hl hS; simp only [At, New, Grow, From, No] at *; omega))
     replace hB8 := hB8.updA hu10
     have hS6 := Upd.refl (At w.heap.size) w10
     refine WN.calm _ rfl rfl rfl rfl rfl (fun _ => r_move rfl (ev_t rfl)) ?_
     refine WN.held _ rfl rfl rfl rfl rfl hS6 (fun w' hS => r_loadAgg (vs := [_, _, _]) rfl (ev_t rfl) agg_50 size_50 (Blk.cellsL (hB8.upd hS (by (try simp only [At, From, No, Grow, New]); omega)))) ?_
     refine WN.step _ rfl (SO.call (end_ok hrd) rfl body_59 ⟨(ev_t rfl), trivial⟩ rfl rfl rfl rfl ?_)
     rintro v _ ⟨rfl, rfl⟩
     refine ⟨hS6, ?_⟩
     refine WN.step _ rfl (SO.storeAll (us := [_, _, _]) rfl (ev_t rfl) (ev_t rfl) size_50 hB1 rfl rfl rfl rfl rfl ?_)
     intro w12 hu12 hB1 hz12
     have hs12 := hu12.size
     try replace hS6 := Upd.transA hS6 hu12
     replace hU := hU.transA hu12
     replace hd := hd.upd hu12 (by first | exact (fun _ _ _ h => h) | (intro k hk hl hS; simp only [At, New, Grow, From, No] at *; omega))
     replace hrd := hrd.upd hu12 (by first | exact (fun h => h) | (simp only [At]; omega)) (by first | exact (fun _ _ _ h => h) | (intro k hk hl hS; simp only [At, New, Grow, From, No] at *; omega))
     replace hB8 := hB8.updA hu12
     refine ⟨trivial, ?_⟩
     refine WN.calm _ rfl rfl rfl rfl rfl (fun _ => r_assign rfl (ev_t rfl)) ?_
     refine WN.done ?_
     refine WX.keep [(2, _), (3, _)] ⟨rfl, rfl, trivial⟩ ?_
     refine WX.next ?_
     refine WC.ret ?_
     refine WX.retM (l := [.cell 2 50, .tmp 3]) (vs := [_, _]) rfl ⟨⟨_, [_, _, _], rfl, agg_50, size_50, (Blk.cellsL hB1), rfl⟩, ⟨rfl, trivial⟩⟩ ?_
     rw [hun]
     refine ⟨i, t, .slice Ad d.length cd, d, ?_, hd.mono (fun k hk => ⟨by have := hk.1; omega, by have := hk.2; omega⟩), fun s h => ?_, hU, hdl⟩
     · by_cases hz3 : s3 = some []
       · rw [if_pos hz3, decide_eq_true hz3]; rfl
       · rw [if_neg hz3, decide_eq_false hz3]; rfl
     · split at h
       · injection h with h; exact h.symm
       · cases h
end Go.Proofs.Ytejlmcdmoghmaaa
