/-
  print: types joined; products, names, names behind several types.
-/
import Derived.Test.YtomkdhkkggbioaaGreatDoorPri
namespace Go.Proofs.YtomkdhkkggbioaaGreatDoor
open Go
set_option linter.unusedSimpArgs false
set_option linter.unusedVariables false

def one3 (x : List Value) : Prop := x.length = 3 ∧ x.all Value.oneCell' = true
/-- a type prints so by a function of one argument -/
def FP (W : World) (fid : FuncId) (x : List Value) (s : List UInt8) : Prop := ∀ w', Upd No W w' → Ret Tryz.prog fid #[.agg x.toArray] w' fun u w'' => u = Sv s ∧ Upd No w' w''
set_option maxHeartbeats 2000000 in
theorem joinT_ok {w : World} {F : Nat → Prop} {kv : Value} {X : List (List Value)} {S : List (List UInt8)} {sep : List UInt8} {fid : FuncId} (hf : hasBody Tryz.prog fid = true) (hr : Rd w F kv X.length 3 (X.flatMap id)) (hX : ∀ x ∈ X, one3 x) (hS : S.length = X.length) (hE : ∀ (i : Nat) x s, X[i]? = some x → S[i]? = some s → FP w fid x s) (hlen : (Lib.join S sep).length ≤ 140737488355328) (hn : X.length ≤ 1000000) :
    Ret Tryz.prog 52 #[kv, .func (.func fid) #[] #[], Sv sep] w fun u w' => u = Sv (Lib.join S sep) ∧ Upd No w w' := by
  obtain ⟨A, c, rfl, hc⟩ := hr.slice_form
  refine enterRet (vs := [_, _, _]) (N := 26) Tryz.func52 rfl rfl rfl ?_
  have hU := Upd.refl No w
  refine WC.keep [(0, _), (1, _), (2, _)] ⟨rfl, rfl, rfl, trivial⟩ ?_
  refine WC.seq ?_
  refine WC.region ?_
  refine WL.val rfl rfl rfl rfl (r_assign rfl ev_c) ?_
  refine WL.nil ?_
  refine WX.keep [(0, _), (1, _), (2, _)] ⟨rfl, rfl, rfl, trivial⟩ ?_
  refine WX.next ?_
  refine WC.seq ?_
  refine WC.region ?_
  refine WL.val rfl rfl rfl rfl (r_assign rfl ev_c) ?_
  refine WL.nil ?_
  refine WX.keep [(0, _), (1, _), (2, _), (7, _)] ⟨rfl, rfl, rfl, rfl, trivial⟩ ?_
  refine WX.next ?_
  refine WC.seq ?_
  refine WC.seq ?_
  refine WC.region ?_
  refine WL.val rfl rfl rfl rfl (r_move rfl (ev_t rfl)) ?_
  refine WL.val rfl rfl rfl rfl (r_lenSlice (ts := #[]) rfl (ev_t rfl) elem_22) ?_
  refine WL.val rfl rfl rfl rfl (r_move rfl ev_c) ?_
  refine WL.nil ?_
  refine WX.keep [(1, _), (2, _), (7, _), (10, _), (11, _), (12, _)] ⟨rfl, rfl, rfl, rfl, rfl, rfl, trivial⟩ ?_
  refine WX.next ?_
  refine WC.block ?_
  -- loop 1: live [1, 2, 7, 10, 11, 12]
  refine WC.keep [(1, _), (2, _), (7, _), (10, _), (11, _), (12, _)] ⟨rfl, rfl, rfl, rfl, rfl, rfl, trivial⟩ ?_
  refine WC.loop (fun qq E wC => ∃ (j : Nat) (v1 : Value) (G : Nat → Prop), j ≤ X.length ∧ qq = X.length - j ∧ Upd No w wC ∧ Own wC G 9 1 v1 j ((S.take j).map Sv) ∧ (∀ k, G k → w.heap.size ≤ k ∧ k < wC.heap.size) ∧ E = [(1, .func (.func fid) #[] #[]), (2, Sv sep), (7, v1), (10, .slice A X.length c), (11, .int .i64 (X.length : Int)), (12, .int .i64 (j : Int))]) (X.length) ?_ ?_
  · exact ⟨0, .slice none 0 0, fun _ => False, by omega, by omega, hU, Own.nil _ _ _ _, fun k h => h.elim, rfl⟩
  · clear hU
    rintro qq E wC ⟨j, v1, G, hj, rfl, hU, ho, hG, rfl⟩
    obtain ⟨Ao, co, rfl, hco⟩ := Own.form ho
    have hUs := hU.size
    refine WC.seq ?_
    refine WC.region ?_
    refine WL.val rfl rfl rfl rfl (r_lss rfl (ev_t rfl) (ev_t rfl)) ?_
    refine WL.nil ?_
    refine WX.keep [(1, _), (2, _), (7, _), (10, _), (11, _), (12, _), (13, _)] ⟨rfl, rfl, rfl, rfl, rfl, rfl, rfl, trivial⟩ ?_
    refine WX.next ?_
    refine WC.seq ?_
    refine WC.cond rfl (ev_t rfl) (fun hc3 => ?_) (fun hc3 => ?_)
    · try (exfalso; first | (simp at hc3; done) | (simp only [decide_eq_true_eq, decide_eq_false_iff_not, Bool.not_eq_true', Bool.not_eq_false', Bool.not_eq_true, Bool.not_eq_false] at hc3; omega) | omega)
      all_goals
       try simp only [decide_eq_true_eq, decide_eq_false_iff_not, Bool.not_eq_true', Bool.not_eq_false', Bool.not_eq_true, Bool.not_eq_false, Option.isNone_none, Option.isNone_some, Option.isSome_none, Option.isSome_some, ne_eq, Decidable.not_not] at hc3
       have hjl : j < X.length := by omega
       have hgj : X[j]? = some X[j] := List.getElem?_eq_getElem hjl
       have hmj := hX X[j] (List.getElem_mem hjl)
       have hgs : S[j]? = some (S[j]'(by omega)) := List.getElem?_eq_getElem (by omega)
       have hEj := hE j _ _ hgj hgs
       generalize X[j] = x at hgj hmj hEj
       generalize S[j]'(by omega) = s at hgs hEj
       obtain ⟨x0, x1, x2, rfl⟩ := len3e hmj.1
       obtain ⟨b0, off, rfl, _⟩ := hr.open (by omega)
       refine WC.skip ?_
       refine WX.next ?_
       refine WC.seq ?_
       refine WC.block ?_
       refine WC.seq ?_
       refine WC.region ?_
       refine WL.val rfl rfl rfl rfl (r_indexAddr rfl (ev_t rfl) (ev_t rfl) elem_22 size_24 (by omega) (by omega)) ?_
       refine WL.val rfl rfl rfl rfl (r_loadAgg (vs := [_, _, _]) rfl (ev_t rfl) agg_24 size_24 (Rd.cellsL (us := [x0, x1, x2]) (hr.upd hU (fun _ _ _ h => h)) (i := j * 3) (by omega) (fun q v hv => flat3_get (fun x hx => (hX x hx).1) hgj hv))) ?_
       refine WL.cons (SO.alloc rfl rfl rfl rfl (r_alloc rfl zero_24) ?_)
       intro w1 hu1 hB1 hz1
       have hs1 := hu1.size
       replace hU := hU.trans hu1 (by first | exact (fun _ _ h => h) | exact (fun _ _ h => h.elim) | (intro k hl hk; (try simp only [At, New, Grow, From, No] at hk ⊢); omega) | (intro k hl hk; first | exact hk.elim | (simp only [At] at hk; omega) | (have := hG k hk; omega)))
       replace ho := ho.upd hu1 (by first | exact (fun _ _ _ h => h) | (intro k hk hl hS; simp only [At] at hS; have := hG k hk; omega))
       refine WL.cons (SO.storeAll (us := [x0, x1, x2]) rfl (ev_t rfl) (ev_t rfl) size_24 hB1 rfl hmj.2 rfl rfl rfl ?_)
       intro w2 hu2 hxB hz9
       have hs2 := hu2.size
       replace hU := hU.trans hu2 (by first | exact (fun _ _ h => h) | exact (fun _ _ h => h.elim) | (intro k hl hk; (try simp only [At, New, Grow, From, No] at hk ⊢); omega) | (intro k hl hk; first | exact hk.elim | (simp only [At] at hk; omega) | (have := hG k hk; omega)))
       replace ho := ho.upd hu2 (by first | exact (fun _ _ _ h => h) | (intro k hk hl hS; simp only [At] at hS; have := hG k hk; omega))
       refine WL.nil ?_
       refine WX.keep [(1, _), (2, _), (7, _), (9, _), (10, _), (11, _), (12, _)] ⟨rfl, rfl, rfl, rfl, rfl, rfl, rfl, trivial⟩ ?_
       refine WX.next ?_
       refine WC.region ?_
       refine WL.val rfl rfl rfl rfl (r_move rfl (ev_t rfl)) ?_
       refine WL.val rfl rfl rfl rfl (r_move rfl (ev_t rfl)) ?_
       refine WL.val rfl rfl rfl rfl (r_loadAgg (vs := [_, _, _]) rfl (ev_t rfl) agg_24 size_24 (Blk.cellsL hxB)) ?_
       refine WL.cons (SO.callV (vs := [_]) rfl (ev_t rfl) (hf) ⟨(ev_t rfl), trivial⟩ rfl (hEj _ hU) rfl rfl rfl rfl ?_)
       rintro v9 w3 ⟨rfl, hu3⟩
       have hs3 := hu3.size
       replace hU := hU.trans hu3 (by first | exact (fun _ _ h => h) | exact (fun _ _ h => h.elim) | (intro k hl hk; (try simp only [At, New, Grow, From, No] at hk ⊢); omega) | (intro k hl hk; first | exact hk.elim | (simp only [At] at hk; omega) | (have := hG k hk; omega)))
       replace ho := ho.upd hu3 (by first | exact (fun _ _ _ h => h) | (intro k hk hl hS; simp only [At] at hS; have := hG k hk; omega))
       replace hxB := hxB.upd hu3 (by first | exact (fun h => h) | (intro h; have := hG _ h; omega))
       refine WL.cons (SO.alloc rfl rfl rfl rfl (r_buildSlice1 (vs := [_]) rfl ⟨(ev_t rfl), trivial⟩ rfl row_66 rfl rfl) ?_)
       intro w4 hu4 hB4 hz4
       have hs4 := hu4.size
       replace hU := hU.trans hu4 (by first | exact (fun _ _ h => h) | exact (fun _ _ h => h.elim) | (intro k hl hk; (try simp only [At, New, Grow, From, No] at hk ⊢); omega) | (intro k hl hk; first | exact hk.elim | (simp only [At] at hk; omega) | (have := hG k hk; omega)))
       replace ho := ho.upd hu4 (by first | exact (fun _ _ _ h => h) | (intro k hk hl hS; simp only [At] at hS; have := hG k hk; omega))
       replace hxB := hxB.upd hu4 (by first | exact (fun h => h) | (intro h; have := hG _ h; omega))
       refine WL.cons (SO.append ho (Rd.of_blk (F := At _) (n := 1) (sz := 1) hB4 rfl rfl (by omega)) row_66 (by intro u hu; simp at hu; subst hu; rfl) (le_maxLen (by omega)) (by omega) rfl (ev_t rfl) (ev_t rfl) rfl rfl rfl rfl ?_)
       intro v5 w5 ho hu5
       have hs5 := hu5.size
       replace hU := hU.trans hu5 (by first | exact (fun _ _ h => h) | exact (fun _ _ h => h.elim) | (intro k hl hk; (try simp only [At, New, Grow, From, No] at hk ⊢); omega) | (intro k hl hk; first | exact hk.elim | (simp only [At] at hk; omega) | (have := hG k hk; omega)))
       replace hxB := hxB.upd hu5 (by first | exact (fun h => h) | (intro h; have := hG _ h; omega))
       obtain ⟨A5, c5, rfl, hc5⟩ := Own.form ho
       have hs9 := hu5.size
       have hG2 : ∀ k, Grow G w4 w5 k → w.heap.size ≤ k ∧ k < w5.heap.size := fun k hk => by
         rcases hk with h | h
         · have := hG k h; omega
         · omega
       generalize Grow G w4 w5 = G4 at ho hG2
       refine WL.val rfl rfl rfl rfl (r_assign rfl (ev_t rfl)) ?_
       refine WL.nil ?_
       refine WX.keep [(1, _), (2, _), (7, _), (10, _), (11, _), (12, _)] ⟨rfl, rfl, rfl, rfl, rfl, rfl, trivial⟩ ?_
       refine WX.blockNormal ?_
       refine WX.next ?_
       refine WC.region ?_
       first | refine WL.val rfl rfl rfl rfl (r_addN rfl (ev_t rfl) ev_c (by simp only [inK]; omega)) ?_ | refine WL.val rfl rfl rfl rfl (r_add rfl (ev_t rfl) ev_c) ?_
       refine WL.val rfl rfl rfl rfl (r_move rfl (ev_t rfl)) ?_
       refine WL.nil ?_
       refine WX.keep [(1, _), (2, _), (7, _), (10, _), (11, _), (12, _)] ⟨rfl, rfl, rfl, rfl, rfl, rfl, trivial⟩ ?_
       refine WX.meet [(1, _), (2, _), (7, _), (10, _), (11, _), (12, _)] ⟨rfl, rfl, rfl, rfl, rfl, rfl, trivial⟩ ?_
       exact ⟨X.length - (j + 1), by omega, j + 1, _, G4, by omega, rfl, hU, by rw [List.take_add_one, hgs, List.map_append]; exact ho, hG2, rfl⟩
    · try (exfalso; first | (simp at hc3; done) | (simp only [decide_eq_true_eq, decide_eq_false_iff_not, Bool.not_eq_true', Bool.not_eq_false', Bool.not_eq_true, Bool.not_eq_false] at hc3; omega) | omega)
      all_goals
       try simp only [decide_eq_true_eq, decide_eq_false_iff_not, Bool.not_eq_true', Bool.not_eq_false', Bool.not_eq_true, Bool.not_eq_false, Option.isNone_none, Option.isNone_some, Option.isSome_none, Option.isSome_some, ne_eq, Decidable.not_not] at hc3
       obtain rfl : j = X.length := by omega
       rw [List.take_of_length_le (by omega)] at ho
       rw [← hS] at ho ⊢
       refine WC.exit ?_
       refine WX.thenExit ?_
       refine WX.thenExit ?_
       refine WX.blockHere ?_
       refine WX.next ?_
       refine WC.seq ?_
       refine WC.region ?_
       refine WL.val rfl rfl rfl rfl (r_move rfl (ev_t rfl)) ?_
       refine WL.val rfl rfl rfl rfl (r_move rfl (ev_t rfl)) ?_
       refine WL.cons (SO.call (sjoin_ok (ho.rd (by omega)) hlen) rfl body_40 ⟨(ev_t rfl), (ev_t rfl), trivial⟩ rfl rfl rfl rfl ?_)
       rintro v9 w6 ⟨rfl, hu6⟩
       have hs6 := hu6.size
       replace hU := hU.trans hu6 (by first | exact (fun _ _ h => h) | exact (fun _ _ h => h.elim) | (intro k hl hk; (try simp only [At, New, Grow, From, No] at hk ⊢); omega) | (intro k hl hk; first | exact hk.elim | (simp only [At] at hk; omega) | (have := hG k hk; omega)))
       replace ho := ho.upd hu6 (by first | exact (fun _ _ _ h => h) | (intro k hk hl hS; simp only [At] at hS; have := hG k hk; omega))
       refine WL.val rfl rfl rfl rfl (r_assign rfl (ev_t rfl)) ?_
       refine WL.nil ?_
       refine WX.keep [(6, _)] ⟨rfl, trivial⟩ ?_
       refine WX.next ?_
       refine WC.ret ?_
       refine WX.retE1 rfl rfl ?_
       exact ⟨rfl, hU⟩

theorem FP.one {W : World} {x : List Value} {s : List UInt8} (hx : one3 x) (h : TPr W x 2 s) : FP W 53 x s := by
  obtain ⟨x0, x1, x2, rfl⟩ := len3e hx.1
  intro w hw
  refine enterRet (vs := [_]) (N := 5) Tryz.func53 rfl rfl rfl ?_
  have hU := Upd.refl No w
  refine WC.keep [(0, _)] ⟨rfl, trivial⟩ ?_
  refine WC.seq ?_
  refine WC.region ?_
  refine WL.cons (SO.alloc rfl rfl rfl rfl (r_boxAgg rfl (ev_t rfl)) ?_)
  intro w1 hu1 hB1 hz1
  have hs1 := hu1.size
  replace hU := hU.transA hu1
  refine WL.val rfl rfl rfl rfl (r_assign rfl ev_c) ?_
  refine WL.nil ?_
  refine WX.keep [(1, _)] ⟨rfl, trivial⟩ ?_
  have hb := hB1
  change Blk _ _ #[x0, x1, x2] _ at hb
  refine WX.next ?_
  refine WC.seq ?_
  refine WC.region ?_
  refine WL.val rfl rfl rfl rfl (r_loadAgg (vs := [_, _, _]) rfl (ev_t rfl) agg_24 size_24 (Blk.cellsL hb)) ?_
  refine WL.cons (SO.call (h _ (hw.trans_same hU)) rfl body_29 ⟨(ev_t rfl), ev_c, trivial⟩ rfl rfl rfl rfl ?_)
  rintro v9 w2 ⟨rfl, hu2⟩
  have hs2 := hu2.size
  replace hU := hU.transA hu2
  replace hB1 := hB1.updA hu2
  refine WL.val rfl rfl rfl rfl (r_assign rfl (ev_t rfl)) ?_
  refine WL.nil ?_
  refine WX.keep [(2, _)] ⟨rfl, trivial⟩ ?_
  refine WX.next ?_
  refine WC.ret ?_
  refine WX.retE1 rfl rfl ?_
  exact ⟨rfl, hU⟩
theorem FP.two {W : World} {x : List Value} {s : List UInt8} (hx : one3 x) (h : TPr W x 0 s) : FP W 54 x s := by
  obtain ⟨x0, x1, x2, rfl⟩ := len3e hx.1
  intro w hw
  refine enterRet (vs := [_]) (N := 5) Tryz.func54 rfl rfl rfl ?_
  have hU := Upd.refl No w
  refine WC.keep [(0, _)] ⟨rfl, trivial⟩ ?_
  refine WC.seq ?_
  refine WC.region ?_
  refine WL.cons (SO.alloc rfl rfl rfl rfl (r_boxAgg rfl (ev_t rfl)) ?_)
  intro w1 hu1 hB1 hz1
  have hs1 := hu1.size
  replace hU := hU.transA hu1
  refine WL.val rfl rfl rfl rfl (r_assign rfl ev_c) ?_
  refine WL.nil ?_
  refine WX.keep [(1, _)] ⟨rfl, trivial⟩ ?_
  have hb := hB1
  change Blk _ _ #[x0, x1, x2] _ at hb
  refine WX.next ?_
  refine WC.seq ?_
  refine WC.region ?_
  refine WL.val rfl rfl rfl rfl (r_loadAgg (vs := [_, _, _]) rfl (ev_t rfl) agg_24 size_24 (Blk.cellsL hb)) ?_
  refine WL.cons (SO.call (h _ (hw.trans_same hU)) rfl body_29 ⟨(ev_t rfl), ev_c, trivial⟩ rfl rfl rfl rfl ?_)
  rintro v9 w2 ⟨rfl, hu2⟩
  have hs2 := hu2.size
  replace hU := hU.transA hu2
  replace hB1 := hB1.updA hu2
  refine WL.val rfl rfl rfl rfl (r_assign rfl (ev_t rfl)) ?_
  refine WL.nil ?_
  refine WX.keep [(2, _)] ⟨rfl, trivial⟩ ?_
  refine WX.next ?_
  refine WC.ret ?_
  refine WX.retE1 rfl rfl ?_
  exact ⟨rfl, hU⟩
end Go.Proofs.YtomkdhkkggbioaaGreatDoor
