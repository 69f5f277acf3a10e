/-
  print: expressions joined; names, numbers, calls and operations as texts.
-/
import Derived.Test.YtomkdhkkggbioaaGreatDoorPrb
namespace Go.Proofs.YtomkdhkkggbioaaGreatDoor
open Go
set_option linter.unusedSimpArgs false
set_option linter.unusedVariables false

/-- an expression prints so, as long as nothing is written over -/
def EP (W : World) (x : List Value) (s : List UInt8) : Prop := ∀ w', Upd No W w' → Ret Tryz.prog 28 #[.agg x.toArray] w' fun u w'' => u = Sv s ∧ Upd No w' w''
theorem EP.upd {W w' : World} {x : List Value} {s : List UInt8} (h : EP W x s) (hu : Upd No W w') : EP w' x s := fun w2 h2 => h w2 (hu.trans_same h2)
def one6 (x : List Value) : Prop := x.length = 6 ∧ x.all Value.oneCell' = true
theorem len6e {x : List Value} (h : x.length = 6) : ∃ a b c d e f, x = [a, b, c, d, e, f] := by
  match x, h with
  | [a, b, c, d, e, f], _ => exact ⟨a, b, c, d, e, f, rfl⟩
theorem flat6_get : ∀ {X : List (List Value)} {i j : Nat} {x : List Value} {u : Value}, (∀ x ∈ X, x.length = 6) → X[i]? = some x → x[j]? = some u → (X.flatMap id)[i * 6 + j]? = some u
  | [], _, _, _, _, _, h, _ => by simp at h
  | a :: l, 0, j, b, u, hl, h, hu => by
    simp only [List.getElem?_cons_zero, Option.some.injEq] at h
    subst h
    have hj : j < a.length := (List.getElem?_eq_some_iff.1 hu).1
    rw [List.flatMap_cons, Nat.zero_mul, Nat.zero_add, id, List.getElem?_append_left hj]
    exact hu
  | a :: l, i + 1, j, b, u, hl, h, hu => by
    have h8 := hl a (by simp)
    rw [List.flatMap_cons, id, List.getElem?_append_right (by omega), h8, show (i + 1) * 6 + j - 6 = i * 6 + j by omega]
    exact flat6_get (fun x hx => hl x (by simp [hx])) (i := i) (by simpa using h) hu

set_option maxHeartbeats 2000000 in
theorem joinE_ok {w : World} {F : Nat → Prop} {kv : Value} {X : List (List Value)} {S : List (List UInt8)} {sep : List UInt8} (hr : Rd w F kv X.length 6 (X.flatMap id)) (hX : ∀ x ∈ X, one6 x) (hS : S.length = X.length) (hE : ∀ (i : Nat) x s, X[i]? = some x → S[i]? = some s → EP w x s) (hlen : (Lib.join S sep).length ≤ 140737488355328) (hn : X.length ≤ 1000000) :
    Ret Tryz.prog 50 #[kv, .func (.func 28) #[] #[], Sv sep] w fun u w' => u = Sv (Lib.join S sep) ∧ Upd No w w' := by
  obtain ⟨A, c, rfl, hc⟩ := hr.slice_form
  refine enterRet (vs := [_, _, _]) (N := 26) Tryz.func50 rfl rfl rfl ?_
  have hU := Upd.refl No w
  refine WC.keep [(0, _), (1, _), (2, _)] ⟨rfl, rfl, rfl, trivial⟩ ?_
  refine WC.seq ?_
  refine WC.region ?_
  refine WL.val rfl rfl rfl rfl (r_assign rfl ev_c) ?_
  refine WL.nil ?_
  refine WX.keep [(0, _), (1, _), (2, _)] ⟨rfl, rfl, rfl, trivial⟩ ?_
  refine WX.next ?_
  refine WC.seq ?_
  refine WC.region ?_
  refine WL.val rfl rfl rfl rfl (r_assign rfl ev_c) ?_
  refine WL.nil ?_
  refine WX.keep [(0, _), (1, _), (2, _), (7, _)] ⟨rfl, rfl, rfl, rfl, trivial⟩ ?_
  refine WX.next ?_
  refine WC.seq ?_
  refine WC.seq ?_
  refine WC.region ?_
  refine WL.val rfl rfl rfl rfl (r_move rfl (ev_t rfl)) ?_
  refine WL.val rfl rfl rfl rfl (r_lenSlice (ts := #[]) rfl (ev_t rfl) elem_34) ?_
  refine WL.val rfl rfl rfl rfl (r_move rfl ev_c) ?_
  refine WL.nil ?_
  refine WX.keep [(1, _), (2, _), (7, _), (10, _), (11, _), (12, _)] ⟨rfl, rfl, rfl, rfl, rfl, rfl, trivial⟩ ?_
  refine WX.next ?_
  refine WC.block ?_
  -- loop 1: live [1, 2, 7, 10, 11, 12]
  refine WC.keep [(1, _), (2, _), (7, _), (10, _), (11, _), (12, _)] ⟨rfl, rfl, rfl, rfl, rfl, rfl, trivial⟩ ?_
  refine WC.loop (fun qq E wC => ∃ (j : Nat) (v1 : Value) (G : Nat → Prop), j ≤ X.length ∧ qq = X.length - j ∧ Upd No w wC ∧ Own wC G 9 1 v1 j ((S.take j).map Sv) ∧ (∀ k, G k → w.heap.size ≤ k ∧ k < wC.heap.size) ∧ E = [(1, .func (.func 28) #[] #[]), (2, Sv sep), (7, v1), (10, .slice A X.length c), (11, .int .i64 (X.length : Int)), (12, .int .i64 (j : Int))]) (X.length) ?_ ?_
  · exact ⟨0, .slice none 0 0, fun _ => False, by omega, by omega, hU, Own.nil _ _ _ _, fun k h => h.elim, rfl⟩
  · clear hU
    rintro qq E wC ⟨j, v1, G, hj, rfl, hU, ho, hG, rfl⟩
    obtain ⟨Ao, co, rfl, hco⟩ := Own.form ho
    have hUs := hU.size
    refine WC.seq ?_
    refine WC.region ?_
    refine WL.val rfl rfl rfl rfl (r_lss rfl (ev_t rfl) (ev_t rfl)) ?_
    refine WL.nil ?_
    refine WX.keep [(1, _), (2, _), (7, _), (10, _), (11, _), (12, _), (13, _)] ⟨rfl, rfl, rfl, rfl, rfl, rfl, rfl, trivial⟩ ?_
    refine WX.next ?_
    refine WC.seq ?_
    refine WC.cond rfl (ev_t rfl) (fun hc3 => ?_) (fun hc3 => ?_)
    · try (exfalso; first | (simp at hc3; done) | (simp only [decide_eq_true_eq, decide_eq_false_iff_not, Bool.not_eq_true', Bool.not_eq_false', Bool.not_eq_true, Bool.not_eq_false] at hc3; omega) | omega)
      all_goals
       try simp only [decide_eq_true_eq, decide_eq_false_iff_not, Bool.not_eq_true', Bool.not_eq_false', Bool.not_eq_true, Bool.not_eq_false, Option.isNone_none, Option.isNone_some, Option.isSome_none, Option.isSome_some, ne_eq, Decidable.not_not] at hc3
       have hjl : j < X.length := by omega
       have hgj : X[j]? = some X[j] := List.getElem?_eq_getElem hjl
       have hmj := hX X[j] (List.getElem_mem hjl)
       have hgs : S[j]? = some (S[j]'(by omega)) := List.getElem?_eq_getElem (by omega)
       have hEj := hE j _ _ hgj hgs
       generalize X[j] = x at hgj hmj hEj
       generalize S[j]'(by omega) = s at hgs hEj
       obtain ⟨x0, x1, x2, x3, x4, x5, rfl⟩ := len6e hmj.1
       obtain ⟨b0, off, rfl, _⟩ := hr.open (by omega)
       refine WC.skip ?_
       refine WX.next ?_
       refine WC.seq ?_
       refine WC.block ?_
       refine WC.seq ?_
       refine WC.region ?_
       refine WL.val rfl rfl rfl rfl (r_indexAddr rfl (ev_t rfl) (ev_t rfl) elem_34 size_36 (by omega) (by omega)) ?_
       refine WL.val rfl rfl rfl rfl (r_loadAgg (vs := [_, _, _, _, _, _]) rfl (ev_t rfl) agg_36 size_36 (Rd.cellsL (us := [x0, x1, x2, x3, x4, x5]) (hr.upd hU (fun _ _ _ h => h)) (i := j * 6) (by omega) (fun q v hv => flat6_get (fun x hx => (hX x hx).1) hgj hv))) ?_
       refine WL.cons (SO.alloc rfl rfl rfl rfl (r_alloc rfl zero_36) ?_)
       intro w1 hu1 hB1 hz1
       have hs1 := hu1.size
       replace hU := hU.trans hu1 (by first | exact (fun _ _ h => h) | exact (fun _ _ h => h.elim) | (intro k hl hk; (try simp only [At, New, Grow, From, No] at hk ⊢); omega) | (intro k hl hk; first | exact hk.elim | (simp only [At] at hk; omega) | (have := hG k hk; omega)))
       replace ho := ho.upd hu1 (by first | exact (fun _ _ _ h => h) | (intro k hk hl hS; simp only [At] at hS; have := hG k hk; omega))
       refine WL.cons (SO.storeAll (us := [x0, x1, x2, x3, x4, x5]) rfl (ev_t rfl) (ev_t rfl) size_36 hB1 rfl hmj.2 rfl rfl rfl ?_)
       intro w2 hu2 hxB hz9
       have hs2 := hu2.size
       replace hU := hU.trans hu2 (by first | exact (fun _ _ h => h) | exact (fun _ _ h => h.elim) | (intro k hl hk; (try simp only [At, New, Grow, From, No] at hk ⊢); omega) | (intro k hl hk; first | exact hk.elim | (simp only [At] at hk; omega) | (have := hG k hk; omega)))
       replace ho := ho.upd hu2 (by first | exact (fun _ _ _ h => h) | (intro k hk hl hS; simp only [At] at hS; have := hG k hk; omega))
       refine WL.nil ?_
       refine WX.keep [(1, _), (2, _), (7, _), (9, _), (10, _), (11, _), (12, _)] ⟨rfl, rfl, rfl, rfl, rfl, rfl, rfl, trivial⟩ ?_
       refine WX.next ?_
       refine WC.region ?_
       refine WL.val rfl rfl rfl rfl (r_move rfl (ev_t rfl)) ?_
       refine WL.val rfl rfl rfl rfl (r_move rfl (ev_t rfl)) ?_
       refine WL.val rfl rfl rfl rfl (r_loadAgg (vs := [_, _, _, _, _, _]) rfl (ev_t rfl) agg_36 size_36 (Blk.cellsL hxB)) ?_
       refine WL.cons (SO.callV (vs := [_]) rfl (ev_t rfl) body_28 ⟨(ev_t rfl), trivial⟩ rfl (hEj _ hU) rfl rfl rfl rfl ?_)
       rintro v9 w3 ⟨rfl, hu3⟩
       have hs3 := hu3.size
       replace hU := hU.trans hu3 (by first | exact (fun _ _ h => h) | exact (fun _ _ h => h.elim) | (intro k hl hk; (try simp only [At, New, Grow, From, No] at hk ⊢); omega) | (intro k hl hk; first | exact hk.elim | (simp only [At] at hk; omega) | (have := hG k hk; omega)))
       replace ho := ho.upd hu3 (by first | exact (fun _ _ _ h => h) | (intro k hk hl hS; simp only [At] at hS; have := hG k hk; omega))
       replace hxB := hxB.upd hu3 (by first | exact (fun h => h) | (intro h; have := hG _ h; omega))
       refine WL.cons (SO.alloc rfl rfl rfl rfl (r_buildSlice1 (vs := [_]) rfl ⟨(ev_t rfl), trivial⟩ rfl row_66 rfl rfl) ?_)
       intro w4 hu4 hB4 hz4
       have hs4 := hu4.size
       replace hU := hU.trans hu4 (by first | exact (fun _ _ h => h) | exact (fun _ _ h => h.elim) | (intro k hl hk; (try simp only [At, New, Grow, From, No] at hk ⊢); omega) | (intro k hl hk; first | exact hk.elim | (simp only [At] at hk; omega) | (have := hG k hk; omega)))
       replace ho := ho.upd hu4 (by first | exact (fun _ _ _ h => h) | (intro k hk hl hS; simp only [At] at hS; have := hG k hk; omega))
       replace hxB := hxB.upd hu4 (by first | exact (fun h => h) | (intro h; have := hG _ h; omega))
       refine WL.cons (SO.append ho (Rd.of_blk (F := At _) (n := 1) (sz := 1) hB4 rfl rfl (by omega)) row_66 (by intro u hu; simp at hu; subst hu; rfl) (le_maxLen (by omega)) (by omega) rfl (ev_t rfl) (ev_t rfl) rfl rfl rfl rfl ?_)
       intro v5 w5 ho hu5
       have hs5 := hu5.size
       replace hU := hU.trans hu5 (by first | exact (fun _ _ h => h) | exact (fun _ _ h => h.elim) | (intro k hl hk; (try simp only [At, New, Grow, From, No] at hk ⊢); omega) | (intro k hl hk; first | exact hk.elim | (simp only [At] at hk; omega) | (have := hG k hk; omega)))
       replace hxB := hxB.upd hu5 (by first | exact (fun h => h) | (intro h; have := hG _ h; omega))
       obtain ⟨A5, c5, rfl, hc5⟩ := Own.form ho
       have hs9 := hu5.size
       have hG2 : ∀ k, Grow G w4 w5 k → w.heap.size ≤ k ∧ k < w5.heap.size := fun k hk => by
         rcases hk with h | h
         · have := hG k h; omega
         · omega
       generalize Grow G w4 w5 = G4 at ho hG2
       refine WL.val rfl rfl rfl rfl (r_assign rfl (ev_t rfl)) ?_
       refine WL.nil ?_
       refine WX.keep [(1, _), (2, _), (7, _), (10, _), (11, _), (12, _)] ⟨rfl, rfl, rfl, rfl, rfl, rfl, trivial⟩ ?_
       refine WX.blockNormal ?_
       refine WX.next ?_
       refine WC.region ?_
       first | refine WL.val rfl rfl rfl rfl (r_addN rfl (ev_t rfl) ev_c (by simp only [inK]; omega)) ?_ | refine WL.val rfl rfl rfl rfl (r_add rfl (ev_t rfl) ev_c) ?_
       refine WL.val rfl rfl rfl rfl (r_move rfl (ev_t rfl)) ?_
       refine WL.nil ?_
       refine WX.keep [(1, _), (2, _), (7, _), (10, _), (11, _), (12, _)] ⟨rfl, rfl, rfl, rfl, rfl, rfl, trivial⟩ ?_
       refine WX.meet [(1, _), (2, _), (7, _), (10, _), (11, _), (12, _)] ⟨rfl, rfl, rfl, rfl, rfl, rfl, trivial⟩ ?_
       exact ⟨X.length - (j + 1), by omega, j + 1, _, G4, by omega, rfl, hU, by rw [List.take_add_one, hgs, List.map_append]; exact ho, hG2, rfl⟩
    · try (exfalso; first | (simp at hc3; done) | (simp only [decide_eq_true_eq, decide_eq_false_iff_not, Bool.not_eq_true', Bool.not_eq_false', Bool.not_eq_true, Bool.not_eq_false] at hc3; omega) | omega)
      all_goals
       try simp only [decide_eq_true_eq, decide_eq_false_iff_not, Bool.not_eq_true', Bool.not_eq_false', Bool.not_eq_true, Bool.not_eq_false, Option.isNone_none, Option.isNone_some, Option.isSome_none, Option.isSome_some, ne_eq, Decidable.not_not] at hc3
       obtain rfl : j = X.length := by omega
       rw [List.take_of_length_le (by omega)] at ho
       rw [← hS] at ho ⊢
       refine WC.exit ?_
       refine WX.thenExit ?_
       refine WX.thenExit ?_
       refine WX.blockHere ?_
       refine WX.next ?_
       refine WC.seq ?_
       refine WC.region ?_
       refine WL.val rfl rfl rfl rfl (r_move rfl (ev_t rfl)) ?_
       refine WL.val rfl rfl rfl rfl (r_move rfl (ev_t rfl)) ?_
       refine WL.cons (SO.call (sjoin_ok (ho.rd (by omega)) hlen) rfl body_40 ⟨(ev_t rfl), (ev_t rfl), trivial⟩ rfl rfl rfl rfl ?_)
       rintro v9 w6 ⟨rfl, hu6⟩
       have hs6 := hu6.size
       replace hU := hU.trans hu6 (by first | exact (fun _ _ h => h) | exact (fun _ _ h => h.elim) | (intro k hl hk; (try simp only [At, New, Grow, From, No] at hk ⊢); omega) | (intro k hl hk; first | exact hk.elim | (simp only [At] at hk; omega) | (have := hG k hk; omega)))
       replace ho := ho.upd hu6 (by first | exact (fun _ _ _ h => h) | (intro k hk hl hS; simp only [At] at hS; have := hG k hk; omega))
       refine WL.val rfl rfl rfl rfl (r_assign rfl (ev_t rfl)) ?_
       refine WL.nil ?_
       refine WX.keep [(6, _)] ⟨rfl, trivial⟩ ?_
       refine WX.next ?_
       refine WC.ret ?_
       refine WX.retE1 rfl rfl ?_
       exact ⟨rfl, hU⟩
end Go.Proofs.YtomkdhkkggbioaaGreatDoor
