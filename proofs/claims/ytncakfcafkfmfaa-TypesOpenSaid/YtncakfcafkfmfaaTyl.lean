/-
  law 06: the document's example; TypesOccurs.
-/
import Derived.Test.YtncakfcafkfmfaaTyk
import Derived.Test.YtncakfcafkfmfaaTyW
namespace Go.Proofs.Ytncakfcafkfmfaa
open Go
set_option linter.unusedSimpArgs false
set_option linter.unusedVariables false

theorem tv_leaf {w : World} {F : Nat → Prop} (n : Nm) (m : Int) : TV w F (.string ⟨n.1.toArray⟩, .int .i64 m, .slice none 0 0) (.c n []) :=
  .mk (t := .c n []) (xs := []) (fun x e => by cases e) (Rd.nil w F 3) rfl (Nat.zero_le _) (fun i c k h => by simp at h)
theorem tv_row1 {w : World} {F : Nat → Prop} {g : Nat} {m : Int} {a b c : Value} {x : Ty} (n : Nm) (h : Blk w g #[a, b, c] typ) (hx : TV w F (a, b, c) x) (hg : F g) : TV w F (.string ⟨n.1.toArray⟩, .int .i64 m, .slice (some ⟨g, 0, none⟩) 1 1) (.c n [x]) :=
  TV.kids (t := .c n [x]) (xs := [(a, b, c)]) (fun y e => by cases e) ((Rd.of_blk (F := F) (n := 1) (sz := 3) h hg rfl (by omega))) (by simp [Ty.kids]) ((TVs.nil w F).snoc hx)
theorem tv_row2 {w : World} {F : Nat → Prop} {g : Nat} {m : Int} {a b c a' b' c' : Value} {x y : Ty} (n : Nm) (h : Blk w g #[a, b, c, a', b', c'] typ) (hx : TV w F (a, b, c) x) (hy : TV w F (a', b', c') y) (hg : F g) : TV w F (.string ⟨n.1.toArray⟩, .int .i64 m, .slice (some ⟨g, 0, none⟩) 2 2) (.c n [x, y]) :=
  TV.kids (t := .c n [x, y]) (xs := [(a, b, c), (a', b', c')]) (fun y e => by cases e) ((Rd.of_blk (F := F) (n := 2) (sz := 3) h hg rfl (by omega))) (by simp [Ty.kids]) (((TVs.nil w F).snoc hx).snoc hy)
theorem IsS.nilF {w : World} {F F' : Nat → Prop} {p m1 m2 : Nat} {D : Dn} {nn : Int} (h : IsS w F p m1 m2 [] D nn []) : IsS w F' p m1 m2 [] D nn [] := { h with tv := TVs.nil _ _ }
/-- a kid's name in a row that was read -/
theorem kid_nm {w : World} {F : Nat → Prop} {A : Option Addr} {n c i : Nat} {xs : List C3} {ts : List Ty} {t : Ty} (hr : Rd w F (.slice A n c) n 3 (xs.flatMap c3)) (hk : TVs w F xs ts) (hn : ts.length = n) (ht : ts[i]? = some t) :
    ∃ b off, A = some ⟨b, off, none⟩ ∧ (xs.flatMap c3)[i * 3]? = some (.string ⟨t.nm.toArray⟩) := by
  have hi : i < ts.length := (List.getElem?_eq_some_iff.1 ht).1
  obtain ⟨b, off, rfl, _⟩ := hr.open (by omega)
  have hl : i < xs.length := by have := hk.1; omega
  have hx : xs[i]? = some xs[i] := List.getElem?_eq_getElem hl
  have htv := hk.2 i _ t hx ht
  generalize xs[i] = cc at *
  obtain ⟨a1, a2, a3⟩ := cc
  obtain ⟨m, A', k', xk, rfl, rfl, rfl, _⟩ := htv.open
  exact ⟨b, off, rfl, flatMap_get c3_len hx 0 _ rfl⟩

set_option maxHeartbeats 4000000 in
theorem awake_ok {w : World} : Ret Try.prog 10 #[] w fun v w' => v = .bool true ∧ Upd No w w' := by
  obtain ⟨σ', D', N, hun, hwf, ht1, ht2⟩ := awake_un
  refine enterRet (vs := []) (N := 37) Try.func10 rfl rfl rfl ?_
  have hU := Upd.refl No w
  refine WC.keep [] trivial ?_
  refine WC.seq ?_
  refine WC.region ?_
  refine WL.val rfl rfl rfl rfl (r_assign rfl ev_c) ?_
  refine WL.nil ?_
  refine WX.keep [] trivial ?_
  refine WX.next ?_
  refine WC.seq ?_
  refine WC.region ?_
  refine WL.cons (SO.call (tnew_ok (F := fun _ => False)) rfl body_11 ⟨ev_c, trivial⟩ rfl rfl rfl rfl ?_)
  rintro v w1 ⟨p, m1, m2, rfl, hI, hMut, hu1⟩
  obtain ⟨hlp, hl1, hl2⟩ := hI.lt
  have hs1 := hu1.size
  replace hU := hU.trans hu1 (by first | exact (fun _ _ h => h) | exact (fun _ _ h => h.elim) | (intro k hl hk; (try simp only [At, New, Grow, From, No] at hk ⊢); omega) | (intro k hl hk; have := hMut k hk; simp only [New] at this; omega))
  refine WL.val rfl rfl rfl rfl (r_assign rfl (ev_t rfl)) ?_
  refine WL.nil ?_
  refine WX.keep [(1, _)] ⟨rfl, trivial⟩ ?_
  refine WX.next ?_
  refine WC.seq ?_
  refine WC.region ?_
  refine WL.val rfl rfl rfl rfl (r_build (cs := #[_, _, _]) (vs := [(1, _)]) rfl ⟨⟨rfl, ev_c⟩, trivial⟩ plc_28 zero_28 rfl) ?_
  refine WL.cons (SO.call (of_ok) rfl body_13 ⟨ev_c, ev_c, trivial⟩ rfl rfl rfl rfl ?_)
  rintro v w2 ⟨rfl, hu2⟩
  have hs2 := hu2.size
  replace hU := hU.trans hu2 (by first | exact (fun _ _ h => h) | exact (fun _ _ h => h.elim) | (intro k hl hk; (try simp only [At, New, Grow, From, No] at hk ⊢); omega) | (intro k hl hk; have := hMut k hk; simp only [New] at this; omega))
  replace hI := hI.upd hu2 (fun k hk hl hS => by first | exact (show False from hS).elim | (simp only [At] at hS; subst hS; rcases hk with hk | hk; have := hMut _ hk; simp only [New] at this; omega; exact hk.elim))
  refine WL.cons (SO.alloc rfl rfl rfl rfl (r_buildSlice (cs := #[_, _, _, _, _, _]) (vs := [(0, _), (1, _)]) rfl ⟨⟨rfl, (ev_t rfl)⟩, ⟨rfl, (ev_t rfl)⟩, trivial⟩ row_26 rfl rfl) ?_)
  intro w3 hu3 hB3 hz3
  have hs3 := hu3.size
  replace hU := hU.trans hu3 (by first | exact (fun _ _ h => h) | exact (fun _ _ h => h.elim) | (intro k hl hk; (try simp only [At, New, Grow, From, No] at hk ⊢); omega) | (intro k hl hk; have := hMut k hk; simp only [New] at this; omega))
  replace hI := hI.upd hu3 (fun k hk hl hS => by first | exact (show False from hS).elim | (simp only [At] at hS; subst hS; rcases hk with hk | hk; have := hMut _ hk; simp only [New] at this; omega; exact hk.elim))
  have hb1 := hB3
  refine WL.cons (SO.call (of_ok) rfl body_13 ⟨ev_c, (ev_t rfl), trivial⟩ rfl rfl rfl rfl ?_)
  rintro v w4 ⟨rfl, hu4⟩
  have hs4 := hu4.size
  replace hU := hU.trans hu4 (by first | exact (fun _ _ h => h) | exact (fun _ _ h => h.elim) | (intro k hl hk; (try simp only [At, New, Grow, From, No] at hk ⊢); omega) | (intro k hl hk; have := hMut k hk; simp only [New] at this; omega))
  replace hI := hI.upd hu4 (fun k hk hl hS => by first | exact (show False from hS).elim | (simp only [At] at hS; subst hS; rcases hk with hk | hk; have := hMut _ hk; simp only [New] at this; omega; exact hk.elim))
  replace hb1 := hb1.upd hu4 (by first | exact (fun h => h) | (simp only [At]; omega) | (intro hS; have := hMut _ hS; simp only [New] at this; omega))
  refine WL.cons (SO.alloc rfl rfl rfl rfl (r_alloc rfl zero_28) ?_)
  intro w5 hu5 hB5 hz5
  have hs5 := hu5.size
  replace hU := hU.trans hu5 (by first | exact (fun _ _ h => h) | exact (fun _ _ h => h.elim) | (intro k hl hk; (try simp only [At, New, Grow, From, No] at hk ⊢); omega) | (intro k hl hk; have := hMut k hk; simp only [New] at this; omega))
  replace hI := hI.upd hu5 (fun k hk hl hS => by first | exact (show False from hS).elim | (simp only [At] at hS; subst hS; rcases hk with hk | hk; have := hMut _ hk; simp only [New] at this; omega; exact hk.elim))
  replace hb1 := hb1.upd hu5 (by first | exact (fun h => h) | (simp only [At]; omega) | (intro hS; have := hMut _ hS; simp only [New] at this; omega))
  refine WL.cons (SO.storeAll (us := [_, _, _]) rfl (ev_t rfl) (ev_t rfl) size_28 hB5 rfl rfl rfl rfl rfl ?_)
  intro w6 hu6 hB5 hz6
  have hs6 := hu6.size
  replace hU := hU.trans hu6 (by first | exact (fun _ _ h => h) | exact (fun _ _ h => h.elim) | (intro k hl hk; (try simp only [At, New, Grow, From, No] at hk ⊢); omega) | (intro k hl hk; have := hMut k hk; simp only [New] at this; omega))
  replace hI := hI.upd hu6 (fun k hk hl hS => by first | exact (show False from hS).elim | (simp only [At] at hS; subst hS; rcases hk with hk | hk; have := hMut _ hk; simp only [New] at this; omega; exact hk.elim))
  replace hb1 := hb1.upd hu6 (by first | exact (fun h => h) | (simp only [At]; omega) | (intro hS; have := hMut _ hS; simp only [New] at this; omega))
  refine WL.nil ?_
  refine WX.keep [(1, _), (2, _)] ⟨rfl, rfl, trivial⟩ ?_
  refine WX.next ?_
  refine WC.seq ?_
  refine WC.region ?_
  have hb2 := hB5
  refine WL.cons (SO.call (of_ok) rfl body_13 ⟨ev_c, ev_c, trivial⟩ rfl rfl rfl rfl ?_)
  rintro v w7 ⟨rfl, hu7⟩
  have hs7 := hu7.size
  replace hU := hU.trans hu7 (by first | exact (fun _ _ h => h) | exact (fun _ _ h => h.elim) | (intro k hl hk; (try simp only [At, New, Grow, From, No] at hk ⊢); omega) | (intro k hl hk; have := hMut k hk; simp only [New] at this; omega))
  replace hI := hI.upd hu7 (fun k hk hl hS => by first | exact (show False from hS).elim | (simp only [At] at hS; subst hS; rcases hk with hk | hk; have := hMut _ hk; simp only [New] at this; omega; exact hk.elim))
  replace hb1 := hb1.upd hu7 (by first | exact (fun h => h) | (simp only [At]; omega) | (intro hS; have := hMut _ hS; simp only [New] at this; omega))
  replace hB5 := hB5.upd hu7 (by first | exact (fun h => h) | (simp only [At]; omega) | (intro hS; have := hMut _ hS; simp only [New] at this; omega))
  replace hb2 := hb2.upd hu7 (by first | exact (fun h => h) | (simp only [At]; omega) | (intro hS; have := hMut _ hS; simp only [New] at this; omega))
  refine WL.val rfl rfl rfl rfl (r_build (cs := #[_, _, _]) (vs := [(1, _)]) rfl ⟨⟨rfl, ev_c⟩, trivial⟩ plc_28 zero_28 rfl) ?_
  refine WL.cons (SO.alloc rfl rfl rfl rfl (r_buildSlice (cs := #[_, _, _, _, _, _]) (vs := [(0, _), (1, _)]) rfl ⟨⟨rfl, (ev_t rfl)⟩, ⟨rfl, (ev_t rfl)⟩, trivial⟩ row_26 rfl rfl) ?_)
  intro w8 hu8 hB8 hz8
  have hs8 := hu8.size
  replace hU := hU.trans hu8 (by first | exact (fun _ _ h => h) | exact (fun _ _ h => h.elim) | (intro k hl hk; (try simp only [At, New, Grow, From, No] at hk ⊢); omega) | (intro k hl hk; have := hMut k hk; simp only [New] at this; omega))
  replace hI := hI.upd hu8 (fun k hk hl hS => by first | exact (show False from hS).elim | (simp only [At] at hS; subst hS; rcases hk with hk | hk; have := hMut _ hk; simp only [New] at this; omega; exact hk.elim))
  replace hb1 := hb1.upd hu8 (by first | exact (fun h => h) | (simp only [At]; omega) | (intro hS; have := hMut _ hS; simp only [New] at this; omega))
  replace hB5 := hB5.upd hu8 (by first | exact (fun h => h) | (simp only [At]; omega) | (intro hS; have := hMut _ hS; simp only [New] at this; omega))
  replace hb2 := hb2.upd hu8 (by first | exact (fun h => h) | (simp only [At]; omega) | (intro hS; have := hMut _ hS; simp only [New] at this; omega))
  have hb3 := hB8
  refine WL.cons (SO.call (of_ok) rfl body_13 ⟨ev_c, (ev_t rfl), trivial⟩ rfl rfl rfl rfl ?_)
  rintro v w9 ⟨rfl, hu9⟩
  have hs9 := hu9.size
  replace hU := hU.trans hu9 (by first | exact (fun _ _ h => h) | exact (fun _ _ h => h.elim) | (intro k hl hk; (try simp only [At, New, Grow, From, No] at hk ⊢); omega) | (intro k hl hk; have := hMut k hk; simp only [New] at this; omega))
  replace hI := hI.upd hu9 (fun k hk hl hS => by first | exact (show False from hS).elim | (simp only [At] at hS; subst hS; rcases hk with hk | hk; have := hMut _ hk; simp only [New] at this; omega; exact hk.elim))
  replace hb1 := hb1.upd hu9 (by first | exact (fun h => h) | (simp only [At]; omega) | (intro hS; have := hMut _ hS; simp only [New] at this; omega))
  replace hB5 := hB5.upd hu9 (by first | exact (fun h => h) | (simp only [At]; omega) | (intro hS; have := hMut _ hS; simp only [New] at this; omega))
  replace hb2 := hb2.upd hu9 (by first | exact (fun h => h) | (simp only [At]; omega) | (intro hS; have := hMut _ hS; simp only [New] at this; omega))
  replace hb3 := hb3.upd hu9 (by first | exact (fun h => h) | (simp only [At]; omega) | (intro hS; have := hMut _ hS; simp only [New] at this; omega))
  refine WL.cons (SO.alloc rfl rfl rfl rfl (r_alloc rfl zero_28) ?_)
  intro w10 hu10 hB10 hz10
  have hs10 := hu10.size
  replace hU := hU.trans hu10 (by first | exact (fun _ _ h => h) | exact (fun _ _ h => h.elim) | (intro k hl hk; (try simp only [At, New, Grow, From, No] at hk ⊢); omega) | (intro k hl hk; have := hMut k hk; simp only [New] at this; omega))
  replace hI := hI.upd hu10 (fun k hk hl hS => by first | exact (show False from hS).elim | (simp only [At] at hS; subst hS; rcases hk with hk | hk; have := hMut _ hk; simp only [New] at this; omega; exact hk.elim))
  replace hb1 := hb1.upd hu10 (by first | exact (fun h => h) | (simp only [At]; omega) | (intro hS; have := hMut _ hS; simp only [New] at this; omega))
  replace hB5 := hB5.upd hu10 (by first | exact (fun h => h) | (simp only [At]; omega) | (intro hS; have := hMut _ hS; simp only [New] at this; omega))
  replace hb2 := hb2.upd hu10 (by first | exact (fun h => h) | (simp only [At]; omega) | (intro hS; have := hMut _ hS; simp only [New] at this; omega))
  replace hb3 := hb3.upd hu10 (by first | exact (fun h => h) | (simp only [At]; omega) | (intro hS; have := hMut _ hS; simp only [New] at this; omega))
  refine WL.cons (SO.storeAll (us := [_, _, _]) rfl (ev_t rfl) (ev_t rfl) size_28 hB10 rfl rfl rfl rfl rfl ?_)
  intro w11 hu11 hB10 hz11
  have hs11 := hu11.size
  replace hU := hU.trans hu11 (by first | exact (fun _ _ h => h) | exact (fun _ _ h => h.elim) | (intro k hl hk; (try simp only [At, New, Grow, From, No] at hk ⊢); omega) | (intro k hl hk; have := hMut k hk; simp only [New] at this; omega))
  replace hI := hI.upd hu11 (fun k hk hl hS => by first | exact (show False from hS).elim | (simp only [At] at hS; subst hS; rcases hk with hk | hk; have := hMut _ hk; simp only [New] at this; omega; exact hk.elim))
  replace hb1 := hb1.upd hu11 (by first | exact (fun h => h) | (simp only [At]; omega) | (intro hS; have := hMut _ hS; simp only [New] at this; omega))
  replace hB5 := hB5.upd hu11 (by first | exact (fun h => h) | (simp only [At]; omega) | (intro hS; have := hMut _ hS; simp only [New] at this; omega))
  replace hb2 := hb2.upd hu11 (by first | exact (fun h => h) | (simp only [At]; omega) | (intro hS; have := hMut _ hS; simp only [New] at this; omega))
  replace hb3 := hb3.upd hu11 (by first | exact (fun h => h) | (simp only [At]; omega) | (intro hS; have := hMut _ hS; simp only [New] at this; omega))
  refine WL.nil ?_
  refine WX.keep [(1, _), (2, _), (3, _)] ⟨rfl, rfl, rfl, trivial⟩ ?_
  refine WX.next ?_
  refine WC.seq ?_
  refine WC.region ?_
  have hb4 := hB10
  refine WL.val rfl rfl rfl rfl (r_move rfl (ev_t rfl)) ?_
  refine WL.val rfl rfl rfl rfl (r_loadAgg (vs := [_, _, _]) rfl (ev_t rfl) agg_28 size_28 (Blk.cellsL hb2)) ?_
  refine WL.val rfl rfl rfl rfl (r_loadAgg (vs := [_, _, _]) rfl (ev_t rfl) agg_28 size_28 (Blk.cellsL hb4)) ?_
  obtain ⟨S9, hS9⟩ : ∃ S9, S9 = w11.heap.size := ⟨_, rfl⟩
  have hI9 : IsS w11 (fun k => w1.heap.size ≤ k ∧ k < S9) p m1 m2 [] [] 2 [] := hI.nilF
  have hta : TV w11 (fun k => w1.heap.size ≤ k ∧ k < S9) (.string ⟨nArrow.1.toArray⟩, .int .i64 0, .slice (some ⟨w2.heap.size, 0, none⟩) 2 2) (.c nArrow [.v 1, .c nInt []]) := tv_row2 nArrow hb1 (TV.nil 1) (tv_leaf nInt 0) ⟨by omega, by omega⟩
  have htb : TV w11 (fun k => w1.heap.size ≤ k ∧ k < S9) (.string ⟨nArrow.1.toArray⟩, .int .i64 0, .slice (some ⟨w7.heap.size, 0, none⟩) 2 2) (.c nArrow [.c nBool [], .v 2]) := tv_row2 nArrow hb3 (tv_leaf nBool 0) (TV.nil 2) ⟨by omega, by omega⟩
  refine WL.cons (SO.call (unify_ok (fun k hk hM => by have := hMut k hM; simp only [New] at this; omega) N _ [] [] [] _ _ _ _ _ _ _ _ true σ' D' hun (fun k hk => by omega) hI9 hta htb) rfl body_12 ⟨(ev_t rfl), (ev_t rfl), (ev_t rfl), trivial⟩ rfl rfl rfl rfl ?_)
  rintro v w12 ⟨rfl, ⟨xs', hI2⟩, hu12⟩
  clear hI9
  have hs12 := hu12.size
  replace hU := hU.trans hu12 (by first | exact (fun _ _ h => h) | exact (fun _ _ h => h.elim) | (intro k hl hk; (try simp only [At, New, Grow, From, No] at hk ⊢); omega) | (intro k hl hk; have := hMut k hk; simp only [New] at this; omega))
  replace hb1 := hb1.upd hu12 (by first | exact (fun h => h) | (simp only [At]; omega) | (intro hS; have := hMut _ hS; simp only [New] at this; omega))
  replace hB5 := hB5.upd hu12 (by first | exact (fun h => h) | (simp only [At]; omega) | (intro hS; have := hMut _ hS; simp only [New] at this; omega))
  replace hb2 := hb2.upd hu12 (by first | exact (fun h => h) | (simp only [At]; omega) | (intro hS; have := hMut _ hS; simp only [New] at this; omega))
  replace hb3 := hb3.upd hu12 (by first | exact (fun h => h) | (simp only [At]; omega) | (intro hS; have := hMut _ hS; simp only [New] at this; omega))
  replace hB10 := hB10.upd hu12 (by first | exact (fun h => h) | (simp only [At]; omega) | (intro hS; have := hMut _ hS; simp only [New] at this; omega))
  replace hb4 := hb4.upd hu12 (by first | exact (fun h => h) | (simp only [At]; omega) | (intro hS; have := hMut _ hS; simp only [New] at this; omega))
  replace hta := hta.upd hu12 (fun k hk hl hS => by first | exact (show False from hS).elim | (simp only [At] at hS; omega) | (have := hMut k hS; simp only [New] at this; omega))
  replace htb := htb.upd hu12 (fun k hk hl hS => by first | exact (show False from hS).elim | (simp only [At] at hS; omega) | (have := hMut k hS; simp only [New] at this; omega))
  refine WL.val rfl rfl rfl rfl (r_move rfl (ev_t rfl)) ?_
  refine WL.cases 17 rfl (fun hb4_4 => ?_) (fun hb4_4 => ?_)
  · try (exfalso; first | (simp at hb4_4; done) | (simp only [decide_eq_true_eq, decide_eq_false_iff_not, Bool.not_eq_true', Bool.not_eq_false', Bool.not_eq_true, Bool.not_eq_false] at hb4_4; omega) | omega)
    all_goals
     try simp only [decide_eq_true_eq, decide_eq_false_iff_not, Bool.not_eq_true', Bool.not_eq_false', Bool.not_eq_true, Bool.not_eq_false, Option.isNone_none, Option.isNone_some, Option.isSome_none, Option.isSome_some, ne_eq, Decidable.not_not] at hb4_4
     refine WL.val rfl rfl rfl rfl (r_move rfl (ev_t rfl)) ?_
     refine WL.val rfl rfl rfl rfl (r_loadAgg (vs := [_, _, _]) rfl (ev_t rfl) agg_28 size_28 (Blk.cellsL hb2)) ?_
     refine WL.cons (SO.call (apply_ok hwf _ _ _ _ _ _ _ (Nat.le_refl _) hI2 hta) rfl body_18 ⟨(ev_t rfl), (ev_t rfl), trivial⟩ rfl rfl rfl rfl ?_)
     rintro v w13 ⟨c1, c2, c3', rfl, hr1, hu13⟩
     rw [show ext (th σ') (.c nArrow [.v 1, .c nInt []]) = .c nArrow [.c nBool [], .c nInt []] by simp [ext_c, ext_v, ht1]] at hr1
     obtain ⟨m5, A5, k5, xk5, rfl, rfl, rfl, _, hr5, hl5, _, hk5⟩ := hr1.open
     have hlen5 : (Ty.c nArrow [.c nBool [], .c nInt []]).kids.length = 2 := rfl
     obtain ⟨bq, oq, rfl, hq0⟩ := kid_nm (i := 0) hr5 ⟨hl5, hk5⟩ rfl rfl
     have hs13 := hu13.size
     replace hU := hU.trans hu13 (by first | exact (fun _ _ h => h) | exact (fun _ _ h => h.elim) | (intro k hl hk; (try simp only [At, New, Grow, From, No] at hk ⊢); omega) | (intro k hl hk; have := hMut k hk; simp only [New] at this; omega))
     replace hb1 := hb1.upd hu13 (by first | exact (fun h => h) | (simp only [At]; omega) | (intro hS; have := hMut _ hS; simp only [New] at this; omega))
     replace hB5 := hB5.upd hu13 (by first | exact (fun h => h) | (simp only [At]; omega) | (intro hS; have := hMut _ hS; simp only [New] at this; omega))
     replace hb2 := hb2.upd hu13 (by first | exact (fun h => h) | (simp only [At]; omega) | (intro hS; have := hMut _ hS; simp only [New] at this; omega))
     replace hb3 := hb3.upd hu13 (by first | exact (fun h => h) | (simp only [At]; omega) | (intro hS; have := hMut _ hS; simp only [New] at this; omega))
     replace hB10 := hB10.upd hu13 (by first | exact (fun h => h) | (simp only [At]; omega) | (intro hS; have := hMut _ hS; simp only [New] at this; omega))
     replace hb4 := hb4.upd hu13 (by first | exact (fun h => h) | (simp only [At]; omega) | (intro hS; have := hMut _ hS; simp only [New] at this; omega))
     replace hta := hta.upd hu13 (fun k hk hl hS => by first | exact (show False from hS).elim | (simp only [At] at hS; omega) | (have := hMut k hS; simp only [New] at this; omega))
     replace htb := htb.upd hu13 (fun k hk hl hS => by first | exact (show False from hS).elim | (simp only [At] at hS; omega) | (have := hMut k hS; simp only [New] at this; omega))
     replace hI2 := hI2.upd hu13 (fun k hk hl hS => by first | exact (show False from hS).elim)
     refine WL.val rfl rfl rfl rfl (r_fieldV (n := 2) rfl (ev_t rfl) (by kernel_rfl) rfl) ?_
     refine WL.val rfl rfl rfl rfl (r_indexAddr rfl (ev_t rfl) ev_c elem_26 size_28 (by omega) (by omega)) ?_
     first | refine WL.val rfl rfl rfl rfl (r_field0 rfl (ev_t rfl) fld_28_0) ?_ | refine WL.val rfl rfl rfl rfl (r_fieldAt rfl (ev_t rfl) fld_28_0) ?_
     refine WL.val rfl rfl rfl rfl (r_load rfl (ev_t rfl) flat_9 (Rd.cell hr5 (j := 0) (by omega) hq0)) ?_
     refine WL.val rfl rfl rfl rfl (r_eqlStrL rfl (ev_t rfl) ev_c) ?_
     refine WL.val rfl rfl rfl rfl (r_pickT rfl (ev_t rfl) (ev_t rfl)) ?_
     refine WL.val rfl rfl rfl rfl (r_move rfl (ev_t rfl)) ?_
     refine WL.cases 27 rfl (fun hb4_14 => ?_) (fun hb4_14 => ?_)
     · try (exfalso; first | (simp at hb4_14; done) | (simp only [decide_eq_true_eq, decide_eq_false_iff_not, Bool.not_eq_true', Bool.not_eq_false', Bool.not_eq_true, Bool.not_eq_false] at hb4_14; omega) | omega)
       all_goals
        try simp only [decide_eq_true_eq, decide_eq_false_iff_not, Bool.not_eq_true', Bool.not_eq_false', Bool.not_eq_true, Bool.not_eq_false, Option.isNone_none, Option.isNone_some, Option.isSome_none, Option.isSome_some, ne_eq, Decidable.not_not] at hb4_14
        refine WL.val rfl rfl rfl rfl (r_move rfl (ev_t rfl)) ?_
        refine WL.val rfl rfl rfl rfl (r_loadAgg (vs := [_, _, _]) rfl (ev_t rfl) agg_28 size_28 (Blk.cellsL hb4)) ?_
        refine WL.cons (SO.call (apply_ok hwf _ _ _ _ _ _ _ (Nat.le_refl _) hI2 htb) rfl body_18 ⟨(ev_t rfl), (ev_t rfl), trivial⟩ rfl rfl rfl rfl ?_)
        rintro v w14 ⟨c4, c5, c6, rfl, hr2, hu14⟩
        rw [show ext (th σ') (.c nArrow [.c nBool [], .v 2]) = .c nArrow [.c nBool [], .c nInt []] by simp [ext_c, ext_v, ht2]] at hr2
        obtain ⟨m6, A6, k6, xk6, rfl, rfl, rfl, _, hr6, hl6, _, hk6⟩ := hr2.open
        obtain ⟨br, or', rfl, hq1⟩ := kid_nm (i := 1) hr6 ⟨hl6, hk6⟩ rfl rfl
        have hs14 := hu14.size
        replace hU := hU.trans hu14 (by first | exact (fun _ _ h => h) | exact (fun _ _ h => h.elim) | (intro k hl hk; (try simp only [At, New, Grow, From, No] at hk ⊢); omega) | (intro k hl hk; have := hMut k hk; simp only [New] at this; omega))
        replace hb1 := hb1.upd hu14 (by first | exact (fun h => h) | (simp only [At]; omega) | (intro hS; have := hMut _ hS; simp only [New] at this; omega))
        replace hB5 := hB5.upd hu14 (by first | exact (fun h => h) | (simp only [At]; omega) | (intro hS; have := hMut _ hS; simp only [New] at this; omega))
        replace hb2 := hb2.upd hu14 (by first | exact (fun h => h) | (simp only [At]; omega) | (intro hS; have := hMut _ hS; simp only [New] at this; omega))
        replace hb3 := hb3.upd hu14 (by first | exact (fun h => h) | (simp only [At]; omega) | (intro hS; have := hMut _ hS; simp only [New] at this; omega))
        replace hB10 := hB10.upd hu14 (by first | exact (fun h => h) | (simp only [At]; omega) | (intro hS; have := hMut _ hS; simp only [New] at this; omega))
        replace hb4 := hb4.upd hu14 (by first | exact (fun h => h) | (simp only [At]; omega) | (intro hS; have := hMut _ hS; simp only [New] at this; omega))
        replace hta := hta.upd hu14 (fun k hk hl hS => by first | exact (show False from hS).elim | (simp only [At] at hS; omega) | (have := hMut k hS; simp only [New] at this; omega))
        replace htb := htb.upd hu14 (fun k hk hl hS => by first | exact (show False from hS).elim | (simp only [At] at hS; omega) | (have := hMut k hS; simp only [New] at this; omega))
        replace hI2 := hI2.upd hu14 (fun k hk hl hS => by first | exact (show False from hS).elim)
        refine WL.val rfl rfl rfl rfl (r_fieldV (n := 2) rfl (ev_t rfl) (by kernel_rfl) rfl) ?_
        refine WL.val rfl rfl rfl rfl (r_indexAddr rfl (ev_t rfl) ev_c elem_26 size_28 (by omega) (by omega)) ?_
        first | refine WL.val rfl rfl rfl rfl (r_field0 rfl (ev_t rfl) fld_28_0) ?_ | refine WL.val rfl rfl rfl rfl (r_fieldAt rfl (ev_t rfl) fld_28_0) ?_
        refine WL.val rfl rfl rfl rfl (r_load rfl (ev_t rfl) flat_9 (Rd.cell hr6 (j := 1 * 3) (by omega) hq1)) ?_
        refine WL.val rfl rfl rfl rfl (r_eqlStrL rfl (ev_t rfl) ev_c) ?_
        refine WL.val rfl rfl rfl rfl (r_pickT rfl (ev_t rfl) (ev_t rfl)) ?_
        refine WL.val rfl rfl rfl rfl (r_assign rfl (ev_t rfl)) ?_
        refine WL.nil ?_
        refine WX.keep [(0, _)] ⟨rfl, trivial⟩ ?_
        refine WX.next ?_
        refine WC.ret ?_
        refine WX.retE1 rfl rfl ?_
        exact ⟨congrArg Value.bool (by decide), hU⟩
     · try simp only [decide_eq_true_eq, decide_eq_false_iff_not, Bool.not_eq_true', Bool.not_eq_false', Bool.not_eq_true, Bool.not_eq_false, Option.isNone_none, Option.isNone_some, Option.isSome_none, Option.isSome_some, ne_eq, Decidable.not_not] at hb4_14
       exfalso
       exact absurd hb4_14 (by decide)
  · try (exfalso; first | (simp at hb4_4; done) | (simp only [decide_eq_true_eq, decide_eq_false_iff_not, Bool.not_eq_true', Bool.not_eq_false', Bool.not_eq_true, Bool.not_eq_false] at hb4_4; omega) | omega)
    all_goals
     try simp only [decide_eq_true_eq, decide_eq_false_iff_not, Bool.not_eq_true', Bool.not_eq_false', Bool.not_eq_true, Bool.not_eq_false, Option.isNone_none, Option.isNone_some, Option.isSome_none, Option.isSome_some, ne_eq, Decidable.not_not] at hb4_4
     refine WL.skip rfl rfl rfl ?_
     refine WL.skip rfl rfl rfl ?_
     refine WL.skip rfl rfl rfl ?_
     refine WL.skip rfl rfl rfl ?_
     refine WL.skip rfl rfl rfl ?_
     refine WL.skip rfl rfl rfl ?_
     refine WL.skip rfl rfl rfl ?_
     refine WL.skip rfl rfl rfl ?_
     refine WL.val rfl rfl rfl rfl (r_pickF rfl (ev_t rfl) ev_c) ?_
     refine WL.val rfl rfl rfl rfl (r_move rfl (ev_t rfl)) ?_
     refine WL.skip rfl rfl rfl ?_
     refine WL.skip rfl rfl rfl ?_
     refine WL.skip rfl rfl rfl ?_
     refine WL.skip rfl rfl rfl ?_
     refine WL.skip rfl rfl rfl ?_
     refine WL.skip rfl rfl rfl ?_
     refine WL.skip rfl rfl rfl ?_
     refine WL.skip rfl rfl rfl ?_
     refine WL.val rfl rfl rfl rfl (r_pickF rfl (ev_t rfl) ev_c) ?_
     refine WL.val rfl rfl rfl rfl (r_assign rfl (ev_t rfl)) ?_
     refine WL.nil ?_
     refine WX.keep [(0, _)] ⟨rfl, trivial⟩ ?_
     refine WX.next ?_
     refine WC.ret ?_
     refine WX.retE1 rfl rfl ?_
     exact ⟨congrArg Value.bool (by decide), hU⟩
end Go.Proofs.Ytncakfcafkfmfaa
