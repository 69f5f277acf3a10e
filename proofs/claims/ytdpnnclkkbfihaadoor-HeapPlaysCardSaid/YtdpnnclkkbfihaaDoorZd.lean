/-
  Several texts put together: Heva, Hevb, Hevc.
-/
import Derived.Test.YtdpnnclkkbfihaaDoorZc
/-
  The reference's heap: At.
-/
namespace Go.Proofs.YtdpnnclkkbfihaaDoor
open Go
set_option linter.unusedSimpArgs false
set_option linter.unusedVariables false

/-- the bytes of a text that stands at a place -/
def textB (l : List Nat) (a : Nat) : List UInt8 := if l.getD a 0 % 256 = 3 then (List.range (l.getD a 0 / 256)).map (fun i => UInt8.ofNat (l.getD (a + 1 + i / 8) 0 / 256 ^ (i % 8) % 256)) else []
theorem textB_len {l : List Nat} {a : Nat} (h : l.getD a 0 % 256 = 3) : (textB l a).length = l.getD a 0 / 256 := by unfold textB; rw [if_pos h]; simp
theorem textB_get {l : List Nat} {a i j : Nat} (h : l.getD a 0 % 256 = 3) (hj : j < 8) (hi : 8 * i + j < l.getD a 0 / 256) : (textB l a)[8 * i + j]? = some (UInt8.ofNat (l.getD (a + 1 + i) 0 / 256 ^ j % 256)) := by
  unfold textB
  rw [if_pos h, List.getElem?_map, List.getElem?_range hi]
  simp only [Option.map_some]
  rw [show (8 * i + j) / 8 = i by omega, show (8 * i + j) % 8 = j by omega]
theorem tdiv_wrap {z : Nat} (h : z < 18446744073709551616) : IntKind.u64.wrap ((z : Int).tdiv 256) = ((z / 256 : Nat) : Int) := by
  rw [show (z : Int).tdiv 256 = ((z / 256 : Nat) : Int) from rfl, wrap_u64]
  omega
def validAt (l : List Nat) (a : Nat) : Prop := a < l.length ∧ 1 ≤ l.getD a 0 % 256 ∧ l.getD a 0 % 256 ≤ 6 ∧ l.getD a 0 / 256 ≤ 8 * l.length ∧ a + szAt l a ≤ l.length
/-- what At answers -/
def AtR (w w' : World) (l : List Nat) (a : Nat) (v : Value) : Prop :=
  ∃ (kd n : Nat) (vP : Value) (ps : List Nat) (s : List UInt8), v = .tuple #[.agg #[.int .u8 (kd : Int), vP, .string ⟨s.toArray⟩], .int .i64 (n : Int)] ∧ Own w' (New w w') 31 1 vP ps.length (ps.map Wd) ∧ Upd No w w' ∧
    ((¬ validAt l a ∧ n = 0) ∨ (validAt l a ∧ n = szAt l a ∧ kd = l.getD a 0 % 256 ∧ ps = parts l a ∧ s = textB l a))
set_option maxHeartbeats 2000000 in
theorem at9_ok {w : World} {F : Nat → Prop} {A : Option Addr} {c a : Nat} {l : List Nat} (hr : Rd w F (.slice A l.length c) l.length 1 (l.map Wd)) (hl : l.length ≤ 1000000) (ha : a ≤ 1000000000) (hF : ∀ k, F k → k < w.heap.size) (hw : ∀ y ∈ l, y < 18446744073709551616) :
    Ret Tryd.prog 28 #[.slice A l.length c, .int .i64 (a : Int)] w fun v w' => AtR w w' l a v := by
  refine enterRet (vs := [_, _]) (N := 112) Tryd.func28 rfl rfl rfl ?_
  have hU := Upd.refl No w
  refine WC.keep [(0, _), (1, _)] ⟨rfl, rfl, trivial⟩ ?_
  refine WC.seq ?_
  refine WC.region ?_
  refine WL.cons (SO.alloc rfl rfl rfl rfl (r_alloc rfl zero_56) ?_)
  intro w1 hu1 hB1 hz1
  have hs1 := hu1.size
  replace hU := hU.trans hu1 (by exact (fun _ _ h => h))
  replace hr := hr.upd hu1 (fun k hk hl hS => by have h1 := hF k hk; exact (show False from hS).elim)
  refine WL.val rfl rfl rfl rfl (r_assign rfl ev_c) ?_
  refine WL.nil ?_
  refine WX.keep [(0, _), (1, _), (4, _)] ⟨rfl, rfl, rfl, trivial⟩ ?_
  have hb4 := hB1
  generalize hb4e : w.heap.size = b4 at *
  refine WX.next ?_
  refine WC.seq ?_
  refine WC.seq ?_
  refine WC.region ?_
  refine WL.val rfl rfl rfl rfl (r_move rfl (ev_t rfl)) ?_
  refine WL.val rfl rfl rfl rfl (r_lss rfl (ev_t rfl) ev_c) ?_
  refine WL.val rfl rfl rfl rfl (r_move rfl (ev_t rfl)) ?_
  refine WL.cases 15 rfl (fun hb1_2 => ?_) (fun hb1_2 => ?_)
  · try (exfalso; first | (simp at hb1_2; done) | (simp only [decide_eq_true_eq, decide_eq_false_iff_not, Bool.not_eq_true', Bool.not_eq_false', Bool.not_eq_true, Bool.not_eq_false] at hb1_2; omega) | omega)
  · try (exfalso; first | (simp at hb1_2; done) | (simp only [decide_eq_true_eq, decide_eq_false_iff_not, Bool.not_eq_true', Bool.not_eq_false', Bool.not_eq_true, Bool.not_eq_false] at hb1_2; omega) | omega)
    all_goals
     try simp only [decide_eq_true_eq, decide_eq_false_iff_not, Bool.not_eq_true', Bool.not_eq_false', Bool.not_eq_true, Bool.not_eq_false, Option.isNone_none, Option.isNone_some, Option.isSome_none, Option.isSome_some, ne_eq, Decidable.not_not] at hb1_2
     refine WL.val rfl rfl rfl rfl (r_move rfl (ev_t rfl)) ?_
     refine WL.val rfl rfl rfl rfl (r_move rfl (ev_t rfl)) ?_
     refine WL.val rfl rfl rfl rfl (r_lenSlice (ts := #[]) rfl (ev_t rfl) elem_46) ?_
     refine WL.val rfl rfl rfl rfl (r_geq rfl (ev_t rfl) (ev_t rfl)) ?_
     refine WL.val rfl rfl rfl rfl (r_pickF rfl (ev_t rfl) (ev_t rfl)) ?_
     refine WL.nil ?_
     refine WX.keep [(0, _), (1, _), (4, _), (20, _)] ⟨rfl, rfl, rfl, rfl, trivial⟩ ?_
     refine WX.next ?_
     refine WC.cond rfl (ev_t rfl) (fun hc1 => ?_) (fun hc1 => ?_)
     · try (exfalso; first | (simp at hc1; done) | (simp only [decide_eq_true_eq, decide_eq_false_iff_not, Bool.not_eq_true', Bool.not_eq_false', Bool.not_eq_true, Bool.not_eq_false] at hc1; omega) | omega)
       all_goals
        try simp only [decide_eq_true_eq, decide_eq_false_iff_not, Bool.not_eq_true', Bool.not_eq_false', Bool.not_eq_true, Bool.not_eq_false, Option.isNone_none, Option.isNone_some, Option.isSome_none, Option.isSome_some, ne_eq, Decidable.not_not] at hc1
        refine WC.seq ?_
        refine WC.region ?_
        refine WL.val rfl rfl rfl rfl (r_build (cs := #[_, _, _]) (vs := []) rfl trivial plc_56 zero_56 rfl) ?_
        refine WL.cons (SO.storeAll (us := [_, _, _]) rfl (ev_t rfl) (ev_t rfl) size_56 hb4 rfl rfl rfl rfl rfl ?_)
        intro w3 hu3 hb4 hz3
        have hs3 := hu3.size
        replace hU := hU.trans hu3 (by (intro k hl hk; (try simp only [At, New, Grow, From, No] at hk ⊢); omega))
        replace hr := hr.upd hu3 (fun k hk hl hS => by have h1 := hF k hk; (simp only [At] at hS; omega))
        refine WL.val rfl rfl rfl rfl (r_assign rfl ev_c) ?_
        refine WL.nil ?_
        refine WX.keep [(4, _), (5, _)] ⟨rfl, rfl, trivial⟩ ?_
        refine WX.next ?_
        refine WC.ret ?_
        refine WX.thenRet ?_
        refine WX.retM (l := [.cell 4 56, .tmp 5]) (vs := [_, _]) rfl ⟨⟨_, [_, _, _], rfl, agg_56, size_56, (Blk.cellsL hb4), rfl⟩, ⟨rfl, trivial⟩⟩ ?_
        exact ⟨0, 0, _, [], [], rfl, Own.nil _ _ _ _, hU, .inl ⟨fun h => by have := h.1; omega, rfl⟩⟩
     · try (exfalso; first | (simp at hc1; done) | (simp only [decide_eq_true_eq, decide_eq_false_iff_not, Bool.not_eq_true', Bool.not_eq_false', Bool.not_eq_true, Bool.not_eq_false] at hc1; omega) | omega)
       all_goals
        try simp only [decide_eq_true_eq, decide_eq_false_iff_not, Bool.not_eq_true', Bool.not_eq_false', Bool.not_eq_true, Bool.not_eq_false, Option.isNone_none, Option.isNone_some, Option.isSome_none, Option.isSome_some, ne_eq, Decidable.not_not] at hc1
        have hal : a < l.length := by omega
        obtain ⟨b0, off, rfl, _⟩ := hr.open (by omega)
        have hgx := getD_lt hal
        have hx64 := hw _ (List.mem_of_getElem? hgx)
        generalize hxx : l.getD a 0 = x at *
        refine WC.skip ?_
        refine WX.next ?_
        refine WC.seq ?_
        refine WC.region ?_
        refine WL.val rfl rfl rfl rfl (r_move rfl (ev_t rfl)) ?_
        refine WL.val rfl rfl rfl rfl (r_move rfl (ev_t rfl)) ?_
        refine WL.val rfl rfl rfl rfl (r_indexAddr rfl (ev_t rfl) (ev_t rfl) elem_46 size_31 (by omega) (by omega)) ?_
        refine WL.val rfl rfl rfl rfl (r_load rfl (ev_t rfl) flat_31 (hr.cell (j := a) (u := Wd x) (show off + (a : Int).toNat * 1 = off + a by omega) (by rw [List.getElem?_map, hgx]; rfl))) ?_
        refine WL.val rfl rfl rfl rfl (r_remN rfl (ev_t rfl) ev_c (by omega) (by omega)) ?_
        refine WL.val rfl rfl rfl rfl (r_convN rfl (ev_t rfl) some_31 int_5 (by simp only [inK]; omega)) ?_
        refine WL.val rfl rfl rfl rfl (r_assign rfl (ev_t rfl)) ?_
        refine WL.nil ?_
        refine WX.keep [(0, _), (1, _), (4, _), (6, _)] ⟨rfl, rfl, rfl, rfl, trivial⟩ ?_
        refine WX.next ?_
        refine WC.seq ?_
        refine WC.region ?_
        refine WL.val rfl rfl rfl rfl (r_move rfl (ev_t rfl)) ?_
        refine WL.val rfl rfl rfl rfl (r_move rfl (ev_t rfl)) ?_
        refine WL.val rfl rfl rfl rfl (r_indexAddr rfl (ev_t rfl) (ev_t rfl) elem_46 size_31 (by omega) (by omega)) ?_
        refine WL.val rfl rfl rfl rfl (r_load rfl (ev_t rfl) flat_31 (hr.cell (j := a) (u := Wd x) (show off + (a : Int).toNat * 1 = off + a by omega) (by rw [List.getElem?_map, hgx]; rfl))) ?_
        refine WL.val rfl rfl rfl rfl (r_quoN rfl (ev_t rfl) ev_c (by omega) (by omega) (by simp only [inK]; omega)) ?_
        refine WL.val rfl rfl rfl rfl (r_assign rfl (ev_t rfl)) ?_
        refine WL.nil ?_
        refine WX.keep [(0, _), (1, _), (4, _), (6, _), (7, _)] ⟨rfl, rfl, rfl, rfl, rfl, trivial⟩ ?_
        refine WX.next ?_
        refine WC.seq ?_
        refine WC.seq ?_
        refine WC.region ?_
        rw [show (x : Int) % 256 = ((x % 256 : Nat) : Int) by omega, show (x : Int) / 256 = ((x / 256 : Nat) : Int) by omega]
        refine WL.val rfl rfl rfl rfl (r_move rfl (ev_t rfl)) ?_
        refine WL.val rfl rfl rfl rfl (r_lss rfl (ev_t rfl) ev_c) ?_
        refine WL.val rfl rfl rfl rfl (r_move rfl (ev_t rfl)) ?_
        refine WL.cases 35 rfl (fun hb5_2 => ?_) (fun hb5_2 => ?_)
        · try (exfalso; first | (simp at hb5_2; done) | (simp only [decide_eq_true_eq, decide_eq_false_iff_not, Bool.not_eq_true', Bool.not_eq_false', Bool.not_eq_true, Bool.not_eq_false] at hb5_2; omega) | omega)
          all_goals
           try simp only [decide_eq_true_eq, decide_eq_false_iff_not, Bool.not_eq_true', Bool.not_eq_false', Bool.not_eq_true, Bool.not_eq_false, Option.isNone_none, Option.isNone_some, Option.isSome_none, Option.isSome_some, ne_eq, Decidable.not_not] at hb5_2
           refine WL.skip rfl rfl rfl ?_
           refine WL.skip rfl rfl rfl ?_
           refine WL.val rfl rfl rfl rfl (r_pickT rfl (ev_t rfl) ev_c) ?_
           refine WL.val rfl rfl rfl rfl (r_move rfl (ev_t rfl)) ?_
           refine WL.skip rfl rfl rfl ?_
           refine WL.skip rfl rfl rfl ?_
           refine WL.skip rfl rfl rfl ?_
           refine WL.skip rfl rfl rfl ?_
           refine WL.skip rfl rfl rfl ?_
           refine WL.skip rfl rfl rfl ?_
           refine WL.val rfl rfl rfl rfl (r_pickT rfl (ev_t rfl) ev_c) ?_
           refine WL.nil ?_
           refine WX.keep [(0, _), (1, _), (4, _), (6, _), (7, _), (46, _)] ⟨rfl, rfl, rfl, rfl, rfl, rfl, trivial⟩ ?_
           refine WX.next ?_
           refine WC.cond_true rfl (ev_t rfl) ?_
           refine WC.seq ?_
           refine WC.region ?_
           refine WL.val rfl rfl rfl rfl (r_build (cs := #[_, _, _]) (vs := []) rfl trivial plc_56 zero_56 rfl) ?_
           refine WL.cons (SO.storeAll (us := [_, _, _]) rfl (ev_t rfl) (ev_t rfl) size_56 hb4 rfl rfl rfl rfl rfl ?_)
           intro w4 hu4 hb4 hz4
           have hs4 := hu4.size
           replace hU := hU.trans hu4 (by (intro k hl hk; (try simp only [At, New, Grow, From, No] at hk ⊢); omega))
           replace hr := hr.upd hu4 (fun k hk hl hS => by have h1 := hF k hk; (simp only [At] at hS; omega))
           refine WL.val rfl rfl rfl rfl (r_assign rfl ev_c) ?_
           refine WL.nil ?_
           refine WX.keep [(4, _), (5, _)] ⟨rfl, rfl, trivial⟩ ?_
           refine WX.next ?_
           refine WC.ret ?_
           refine WX.thenRet ?_
           refine WX.retM (l := [.cell 4 56, .tmp 5]) (vs := [_, _]) rfl ⟨⟨_, [_, _, _], rfl, agg_56, size_56, (Blk.cellsL hb4), rfl⟩, ⟨rfl, trivial⟩⟩ ?_
           refine ⟨0, 0, _, [], [], rfl, Own.nil _ _ _ _, hU, .inl ⟨fun h => ?_, rfl⟩⟩
           obtain ⟨_, h1, h2, h3, _⟩ := h
           rw [hxx] at h1 h2 h3
           first
             | omega
        · try (exfalso; first | (simp at hb5_2; done) | (simp only [decide_eq_true_eq, decide_eq_false_iff_not, Bool.not_eq_true', Bool.not_eq_false', Bool.not_eq_true, Bool.not_eq_false] at hb5_2; omega) | omega)
          all_goals
           try simp only [decide_eq_true_eq, decide_eq_false_iff_not, Bool.not_eq_true', Bool.not_eq_false', Bool.not_eq_true, Bool.not_eq_false, Option.isNone_none, Option.isNone_some, Option.isSome_none, Option.isSome_some, ne_eq, Decidable.not_not] at hb5_2
           refine WL.val rfl rfl rfl rfl (r_move rfl (ev_t rfl)) ?_
           refine WL.val rfl rfl rfl rfl (r_gtr rfl (ev_t rfl) ev_c) ?_
           refine WL.val rfl rfl rfl rfl (r_pickF rfl (ev_t rfl) (ev_t rfl)) ?_
           refine WL.val rfl rfl rfl rfl (r_move rfl (ev_t rfl)) ?_
           refine WL.cases 39 rfl (fun hb5_6 => ?_) (fun hb5_6 => ?_)
           · try (exfalso; first | (simp at hb5_6; done) | (simp only [decide_eq_true_eq, decide_eq_false_iff_not, Bool.not_eq_true', Bool.not_eq_false', Bool.not_eq_true, Bool.not_eq_false] at hb5_6; omega) | omega)
             all_goals
              try simp only [decide_eq_true_eq, decide_eq_false_iff_not, Bool.not_eq_true', Bool.not_eq_false', Bool.not_eq_true, Bool.not_eq_false, Option.isNone_none, Option.isNone_some, Option.isSome_none, Option.isSome_some, ne_eq, Decidable.not_not] at hb5_6
              refine WL.skip rfl rfl rfl ?_
              refine WL.skip rfl rfl rfl ?_
              refine WL.skip rfl rfl rfl ?_
              refine WL.skip rfl rfl rfl ?_
              refine WL.skip rfl rfl rfl ?_
              refine WL.skip rfl rfl rfl ?_
              refine WL.val rfl rfl rfl rfl (r_pickT rfl (ev_t rfl) ev_c) ?_
              refine WL.nil ?_
              refine WX.keep [(0, _), (1, _), (4, _), (6, _), (7, _), (46, _)] ⟨rfl, rfl, rfl, rfl, rfl, rfl, trivial⟩ ?_
              refine WX.next ?_
              refine WC.cond_true rfl (ev_t rfl) ?_
              refine WC.seq ?_
              refine WC.region ?_
              refine WL.val rfl rfl rfl rfl (r_build (cs := #[_, _, _]) (vs := []) rfl trivial plc_56 zero_56 rfl) ?_
              refine WL.cons (SO.storeAll (us := [_, _, _]) rfl (ev_t rfl) (ev_t rfl) size_56 hb4 rfl rfl rfl rfl rfl ?_)
              intro w5 hu5 hb4 hz5
              have hs5 := hu5.size
              replace hU := hU.trans hu5 (by (intro k hl hk; (try simp only [At, New, Grow, From, No] at hk ⊢); omega))
              replace hr := hr.upd hu5 (fun k hk hl hS => by have h1 := hF k hk; (simp only [At] at hS; omega))
              refine WL.val rfl rfl rfl rfl (r_assign rfl ev_c) ?_
              refine WL.nil ?_
              refine WX.keep [(4, _), (5, _)] ⟨rfl, rfl, trivial⟩ ?_
              refine WX.next ?_
              refine WC.ret ?_
              refine WX.thenRet ?_
              refine WX.retM (l := [.cell 4 56, .tmp 5]) (vs := [_, _]) rfl ⟨⟨_, [_, _, _], rfl, agg_56, size_56, (Blk.cellsL hb4), rfl⟩, ⟨rfl, trivial⟩⟩ ?_
              refine ⟨0, 0, _, [], [], rfl, Own.nil _ _ _ _, hU, .inl ⟨fun h => ?_, rfl⟩⟩
              obtain ⟨_, h1, h2, h3, _⟩ := h
              rw [hxx] at h1 h2 h3
              first
                | omega
           · try (exfalso; first | (simp at hb5_6; done) | (simp only [decide_eq_true_eq, decide_eq_false_iff_not, Bool.not_eq_true', Bool.not_eq_false', Bool.not_eq_true, Bool.not_eq_false] at hb5_6; omega) | omega)
             all_goals
              try simp only [decide_eq_true_eq, decide_eq_false_iff_not, Bool.not_eq_true', Bool.not_eq_false', Bool.not_eq_true, Bool.not_eq_false, Option.isNone_none, Option.isNone_some, Option.isSome_none, Option.isSome_some, ne_eq, Decidable.not_not] at hb5_6
              refine WL.val rfl rfl rfl rfl (r_move rfl (ev_t rfl)) ?_
              refine WL.val rfl rfl rfl rfl (r_move rfl (ev_t rfl)) ?_
              refine WL.val rfl rfl rfl rfl (r_lenSlice (ts := #[]) rfl (ev_t rfl) elem_46) ?_
              refine WL.val rfl rfl rfl rfl (r_mulN rfl ev_c (ev_t rfl) (by simp only [inK]; omega)) ?_
              refine WL.val rfl rfl rfl rfl (r_convN rfl (ev_t rfl) some_3 int_31 (by simp only [inK]; omega)) ?_
              refine WL.val rfl rfl rfl rfl (r_gtr rfl (ev_t rfl) (ev_t rfl)) ?_
              refine WL.val rfl rfl rfl rfl (r_pickF rfl (ev_t rfl) (ev_t rfl)) ?_
              refine WL.nil ?_
              refine WX.keep [(0, _), (1, _), (4, _), (6, _), (7, _), (46, _)] ⟨rfl, rfl, rfl, rfl, rfl, rfl, trivial⟩ ?_
              refine WX.next ?_
              refine WC.cond rfl (ev_t rfl) (fun hc5 => ?_) (fun hc5 => ?_)
              · try (exfalso; first | (simp at hc5; done) | (simp only [decide_eq_true_eq, decide_eq_false_iff_not, Bool.not_eq_true', Bool.not_eq_false', Bool.not_eq_true, Bool.not_eq_false] at hc5; omega) | omega)
                all_goals
                 try simp only [decide_eq_true_eq, decide_eq_false_iff_not, Bool.not_eq_true', Bool.not_eq_false', Bool.not_eq_true, Bool.not_eq_false, Option.isNone_none, Option.isNone_some, Option.isSome_none, Option.isSome_some, ne_eq, Decidable.not_not] at hc5
                 refine WC.seq ?_
                 refine WC.region ?_
                 refine WL.val rfl rfl rfl rfl (r_build (cs := #[_, _, _]) (vs := []) rfl trivial plc_56 zero_56 rfl) ?_
                 refine WL.cons (SO.storeAll (us := [_, _, _]) rfl (ev_t rfl) (ev_t rfl) size_56 hb4 rfl rfl rfl rfl rfl ?_)
                 intro w6 hu6 hb4 hz6
                 have hs6 := hu6.size
                 replace hU := hU.trans hu6 (by (intro k hl hk; (try simp only [At, New, Grow, From, No] at hk ⊢); omega))
                 replace hr := hr.upd hu6 (fun k hk hl hS => by have h1 := hF k hk; (simp only [At] at hS; omega))
                 refine WL.val rfl rfl rfl rfl (r_assign rfl ev_c) ?_
                 refine WL.nil ?_
                 refine WX.keep [(4, _), (5, _)] ⟨rfl, rfl, trivial⟩ ?_
                 refine WX.next ?_
                 refine WC.ret ?_
                 refine WX.thenRet ?_
                 refine WX.retM (l := [.cell 4 56, .tmp 5]) (vs := [_, _]) rfl ⟨⟨_, [_, _, _], rfl, agg_56, size_56, (Blk.cellsL hb4), rfl⟩, ⟨rfl, trivial⟩⟩ ?_
                 refine ⟨0, 0, _, [], [], rfl, Own.nil _ _ _ _, hU, .inl ⟨fun h => ?_, rfl⟩⟩
                 obtain ⟨_, h1, h2, h3, _⟩ := h
                 rw [hxx] at h1 h2 h3
                 first
                   | omega
              · try (exfalso; first | (simp at hc5; done) | (simp only [decide_eq_true_eq, decide_eq_false_iff_not, Bool.not_eq_true', Bool.not_eq_false', Bool.not_eq_true, Bool.not_eq_false] at hc5; omega) | omega)
                all_goals
                 try simp only [decide_eq_true_eq, decide_eq_false_iff_not, Bool.not_eq_true', Bool.not_eq_false', Bool.not_eq_true, Bool.not_eq_false, Option.isNone_none, Option.isNone_some, Option.isSome_none, Option.isSome_some, ne_eq, Decidable.not_not] at hc5
                 have hk1 : 1 ≤ x % 256 ∧ x % 256 ≤ 6 ∧ x / 256 ≤ 8 * l.length := by first
                   | omega
                   | (simp_all; omega)
                 refine WC.skip ?_
                 refine WX.next ?_
                 refine WC.seq ?_
                 refine WC.region ?_
                 refine WL.val rfl rfl rfl rfl (r_move rfl (ev_t rfl)) ?_
                 refine WL.val rfl rfl rfl rfl (r_build (cs := #[_, _, _]) (vs := [(0, _)]) rfl ⟨⟨rfl, (ev_t rfl)⟩, trivial⟩ plc_56 zero_56 rfl) ?_
                 obtain ⟨b8, hb8e⟩ : ∃ g, g = w1.heap.size := ⟨_, rfl⟩
                 refine WL.cons (SO.alloc rfl rfl rfl rfl (r_alloc rfl zero_56) ?_)
                 intro w7 hu7 hB7 hz7
                 have hs7 := hu7.size
                 replace hU := hU.trans hu7 (by exact (fun _ _ h => h))
                 replace hr := hr.upd hu7 (fun k hk hl hS => by have h1 := hF k hk; exact (show False from hS).elim)
                 replace hb4 := hb4.upd hu7 (fun hS => by exact (show False from hS))
                 refine WL.cons (SO.storeAll (us := [_, _, _]) rfl (ev_t rfl) (ev_t rfl) size_56 hB7 rfl rfl rfl rfl rfl ?_)
                 intro w8 hu8 hB7 hz8
                 have hs8 := hu8.size
                 replace hU := hU.trans hu8 (by (intro k hl hk; (try simp only [At, New, Grow, From, No] at hk ⊢); omega))
                 replace hr := hr.upd hu8 (fun k hk hl hS => by have h1 := hF k hk; (simp only [At] at hS; omega))
                 replace hb4 := hb4.upd hu8 (fun hS => by (simp only [At] at hS; omega))
                 refine WL.nil ?_
                 refine WX.keep [(0, _), (1, _), (4, _), (6, _), (7, _), (8, _)] ⟨rfl, rfl, rfl, rfl, rfl, rfl, trivial⟩ ?_
                 have hb8 := hB7
                 rw [← hb8e] at hb8 ⊢
                 have hb84 : b4 < b8 := by have := hb4.lt; have := hb8.lt; omega
                 refine WX.next ?_
                 refine WC.seq ?_
                 refine WC.region ?_
                 refine WL.val rfl rfl rfl rfl (r_move rfl (ev_t rfl)) ?_
                 refine WL.val rfl rfl rfl rfl (r_convN rfl (ev_t rfl) some_31 int_3 (by simp only [inK]; omega)) ?_
                 refine WL.val rfl rfl rfl rfl (r_assign rfl (ev_t rfl)) ?_
                 refine WL.nil ?_
                 refine WX.keep [(0, _), (1, _), (4, _), (6, _), (7, _), (8, _), (9, _)] ⟨rfl, rfl, rfl, rfl, rfl, rfl, rfl, trivial⟩ ?_
                 refine WX.next ?_
                 -- cut 9: live [0, 1, 4, 6, 7, 8, 9]
                 refine WC.cut (fun E wB => Upd No w wB ∧ Rd wB F (.slice (some ⟨b0, off, none⟩) l.length c) l.length 1 (l.map Wd) ∧ Blk wB b4 #[.int .u8 0, .slice none 0 0, .string ⟨#[]⟩] 56 ∧ Blk wB b8 #[.int .u8 ((x % 256 : Nat) : Int), .slice none 0 0, .string ⟨#[]⟩] 56 ∧ E = [(0, .slice (some ⟨b0, off, none⟩) l.length c), (1, .int .i64 (a : Int)), (4, .pointer (some ⟨b4, 0, none⟩)), (6, .int .u8 ((x % 256 : Nat) : Int)), (7, .int .u64 ((x / 256 : Nat) : Int)), (8, .pointer (some ⟨b8, 0, none⟩)), (9, .int .i64 ((szO x - 1 : Nat) : Int))]) ?_ ?_
                 · refine WC.seq ?_
                   refine WC.region ?_
                   refine WL.val rfl rfl rfl rfl (r_move rfl (ev_t rfl)) ?_
                   refine WL.val rfl rfl rfl rfl (r_eql rfl (ev_t rfl) ev_c) ?_
                   refine WL.nil ?_
                   refine WX.keep [(0, _), (1, _), (4, _), (6, _), (7, _), (8, _), (9, _), (53, _)] ⟨rfl, rfl, rfl, rfl, rfl, rfl, rfl, rfl, trivial⟩ ?_
                   refine WX.next ?_
                   refine WC.cond rfl (ev_t rfl) (fun hc9 => ?_) (fun hc9 => ?_)
                   · try (exfalso; first | (simp at hc9; done) | (simp only [decide_eq_true_eq, decide_eq_false_iff_not, Bool.not_eq_true', Bool.not_eq_false', Bool.not_eq_true, Bool.not_eq_false] at hc9; omega) | omega)
                     all_goals
                      try simp only [decide_eq_true_eq, decide_eq_false_iff_not, Bool.not_eq_true', Bool.not_eq_false', Bool.not_eq_true, Bool.not_eq_false, Option.isNone_none, Option.isNone_some, Option.isSome_none, Option.isSome_some, ne_eq, Decidable.not_not] at hc9
                      refine WC.region ?_
                      refine WL.val rfl rfl rfl rfl (r_move rfl (ev_t rfl)) ?_
                      refine WL.val rfl rfl rfl rfl (r_convN rfl (ev_t rfl) some_31 int_3 (by simp only [inK]; omega)) ?_
                      refine WL.val rfl rfl rfl rfl (r_addN rfl (ev_t rfl) ev_c (by simp only [inK]; omega)) ?_
                      refine WL.val rfl rfl rfl rfl (r_quoN rfl (ev_t rfl) ev_c (by omega) (by omega) (by simp only [inK]; omega)) ?_
                      refine WL.val rfl rfl rfl rfl (r_assign rfl (ev_t rfl)) ?_
                      refine WL.nil ?_
                      refine WX.keep [(0, _), (1, _), (4, _), (6, _), (7, _), (8, _), (9, _)] ⟨rfl, rfl, rfl, rfl, rfl, rfl, rfl, trivial⟩ ?_
                      refine WX.meet [(0, _), (1, _), (4, _), (6, _), (7, _), (8, _), (9, _)] ⟨rfl, rfl, rfl, rfl, rfl, rfl, rfl, trivial⟩ ?_
                      first
                        | (have e : szO x - 1 = (x / 256 + 7) / 8 := by unfold szO; rw [if_pos (by omega)]; omega
                           exact ⟨hU, hr, hb4, hb8, by rw [e]; rfl⟩)
                   · try (exfalso; first | (simp at hc9; done) | (simp only [decide_eq_true_eq, decide_eq_false_iff_not, Bool.not_eq_true', Bool.not_eq_false', Bool.not_eq_true, Bool.not_eq_false] at hc9; omega) | omega)
                     all_goals
                      try simp only [decide_eq_true_eq, decide_eq_false_iff_not, Bool.not_eq_true', Bool.not_eq_false', Bool.not_eq_true, Bool.not_eq_false, Option.isNone_none, Option.isNone_some, Option.isSome_none, Option.isSome_some, ne_eq, Decidable.not_not] at hc9
                      refine WC.skip ?_
                      refine WX.meet [(0, _), (1, _), (4, _), (6, _), (7, _), (8, _), (9, _)] ⟨rfl, rfl, rfl, rfl, rfl, rfl, rfl, trivial⟩ ?_
                      first
                        | (have e : szO x - 1 = x / 256 := by unfold szO; rw [if_neg (by omega)]; omega
                           exact ⟨hU, hr, hb4, hb8, by rw [e]⟩)
                 · clear hU hr hb4 hb8
                   rintro E wB ⟨hU, hr, hb4, hb8, rfl⟩
                   have hUs := hU.size
                   have hszp := szO_pos x
                   have hszu : szO x ≤ 2 + x / 256 := by unfold szO; split <;> omega
                   refine WC.seq ?_
                   refine WC.seq ?_
                   refine WC.region ?_
                   refine WL.val rfl rfl rfl rfl (r_move rfl (ev_t rfl)) ?_
                   refine WL.val rfl rfl rfl rfl (r_move rfl (ev_t rfl)) ?_
                   refine WL.val rfl rfl rfl rfl (r_lenSlice (ts := #[]) rfl (ev_t rfl) elem_46) ?_
                   refine WL.val rfl rfl rfl rfl (r_move rfl (ev_t rfl)) ?_
                   refine WL.val rfl rfl rfl rfl (r_subN rfl (ev_t rfl) (ev_t rfl) (by simp only [inK]; omega)) ?_
                   refine WL.val rfl rfl rfl rfl (r_subN rfl (ev_t rfl) ev_c (by simp only [inK]; omega)) ?_
                   refine WL.val rfl rfl rfl rfl (r_gtr rfl (ev_t rfl) (ev_t rfl)) ?_
                   refine WL.nil ?_
                   refine WX.keep [(0, _), (1, _), (4, _), (6, _), (7, _), (8, _), (9, _), (64, _)] ⟨rfl, rfl, rfl, rfl, rfl, rfl, rfl, rfl, trivial⟩ ?_
                   refine WX.next ?_
                   refine WC.cond rfl (ev_t rfl) (fun hc11 => ?_) (fun hc11 => ?_)
                   · try (exfalso; first | (simp at hc11; done) | (simp only [decide_eq_true_eq, decide_eq_false_iff_not, Bool.not_eq_true', Bool.not_eq_false', Bool.not_eq_true, Bool.not_eq_false] at hc11; omega) | omega)
                     all_goals
                      try simp only [decide_eq_true_eq, decide_eq_false_iff_not, Bool.not_eq_true', Bool.not_eq_false', Bool.not_eq_true, Bool.not_eq_false, Option.isNone_none, Option.isNone_some, Option.isSome_none, Option.isSome_some, ne_eq, Decidable.not_not] at hc11
                      refine WC.seq ?_
                      refine WC.region ?_
                      refine WL.val rfl rfl rfl rfl (r_build (cs := #[_, _, _]) (vs := []) rfl trivial plc_56 zero_56 rfl) ?_
                      refine WL.cons (SO.storeAll (us := [_, _, _]) rfl (ev_t rfl) (ev_t rfl) size_56 hb4 rfl rfl rfl rfl rfl ?_)
                      intro w9 hu9 hb4 hz9
                      have hs9 := hu9.size
                      replace hU := hU.trans hu9 (by (intro k hl hk; (try simp only [At, New, Grow, From, No] at hk ⊢); omega))
                      replace hr := hr.upd hu9 (fun k hk hl hS => by have h1 := hF k hk; (simp only [At] at hS; omega))
                      replace hb8 := hb8.upd hu9 (fun hS => by (simp only [At] at hS; omega))
                      refine WL.val rfl rfl rfl rfl (r_assign rfl ev_c) ?_
                      refine WL.nil ?_
                      refine WX.keep [(4, _), (5, _)] ⟨rfl, rfl, trivial⟩ ?_
                      refine WX.next ?_
                      refine WC.ret ?_
                      refine WX.thenRet ?_
                      refine WX.retM (l := [.cell 4 56, .tmp 5]) (vs := [_, _]) rfl ⟨⟨_, [_, _, _], rfl, agg_56, size_56, (Blk.cellsL hb4), rfl⟩, ⟨rfl, trivial⟩⟩ ?_
                      refine ⟨0, 0, _, [], [], rfl, Own.nil _ _ _ _, hU, .inl ⟨fun h => ?_, rfl⟩⟩
                      obtain ⟨_, _, _, _, h4⟩ := h
                      have e : szAt l a = szO x := by unfold szAt; rw [hxx]
                      rw [e] at h4
                      omega
                   · try (exfalso; first | (simp at hc11; done) | (simp only [decide_eq_true_eq, decide_eq_false_iff_not, Bool.not_eq_true', Bool.not_eq_false', Bool.not_eq_true, Bool.not_eq_false] at hc11; omega) | omega)
                     all_goals
                      try simp only [decide_eq_true_eq, decide_eq_false_iff_not, Bool.not_eq_true', Bool.not_eq_false', Bool.not_eq_true, Bool.not_eq_false, Option.isNone_none, Option.isNone_some, Option.isSome_none, Option.isSome_some, ne_eq, Decidable.not_not] at hc11
                      have hfit : a + szO x ≤ l.length := by omega
                      have hsz : szAt l a = szO x := by unfold szAt; rw [hxx]
                      have hval : validAt l a := ⟨hal, by rw [hxx]; exact hk1.1, by rw [hxx]; exact hk1.2.1, by rw [hxx]; exact hk1.2.2, by rw [hsz]; exact hfit⟩
                      refine WC.skip ?_
                      refine WX.next ?_
                      refine WC.seq ?_
                      refine WC.seq ?_
                      refine WC.region ?_
                      refine WL.val rfl rfl rfl rfl (r_assign rfl ev_c) ?_
                      refine WL.nil ?_
                      refine WX.keep [(0, _), (1, _), (4, _), (6, _), (7, _), (8, _), (9, _), (10, _)] ⟨rfl, rfl, rfl, rfl, rfl, rfl, rfl, rfl, trivial⟩ ?_
                      refine WX.next ?_
                      refine WC.block ?_
                      -- loop 1: live [0, 1, 4, 6, 7, 8, 9, 10]
                      refine WC.keep [(0, _), (1, _), (4, _), (6, _), (7, _), (8, _), (9, _), (10, _)] ⟨rfl, rfl, rfl, rfl, rfl, rfl, rfl, rfl, trivial⟩ ?_
                      refine WC.loop (fun qq E wC => ∃ (i : Nat) (vP : Value) (Gp : Nat → Prop), i ≤ szO x - 1 ∧ qq = szO x - 1 - i ∧ Upd No w wC ∧ Rd wC F (.slice (some ⟨b0, off, none⟩) l.length c) l.length 1 (l.map Wd) ∧ (∃ zk zp zs, Blk wC b4 #[zk, zp, zs] 56) ∧ Own wC Gp 31 1 vP ((parts l a).take i).length (((parts l a).take i).map Wd) ∧ (∀ k, Gp k → b4 < k ∧ k ≠ b8) ∧ Blk wC b8 #[.int .u8 ((x % 256 : Nat) : Int), vP, .string ⟨((textB l a).take (8 * i)).toArray⟩] 56 ∧ E = [(0, .slice (some ⟨b0, off, none⟩) l.length c), (1, .int .i64 (a : Int)), (4, .pointer (some ⟨b4, 0, none⟩)), (6, .int .u8 ((x % 256 : Nat) : Int)), (7, .int .u64 ((x / 256 : Nat) : Int)), (8, .pointer (some ⟨b8, 0, none⟩)), (9, .int .i64 ((szO x - 1 : Nat) : Int)), (10, .int .i64 (i : Int))]) (szO x - 1) ?_ ?_
                      · exact ⟨0, _, No, by omega, by omega, hU, hr, ⟨_, _, _, hb4⟩, by simpa using Own.nil _ _ _ _, fun k h => h.elim, by simpa using hb8, rfl⟩
                      · clear hU hr hb4 hb8
                        rintro qq E wC ⟨i, vP, Gp, hi, rfl, hU, hr, ⟨zk, zp, zs, hb4⟩, hP, hPn, hb8, rfl⟩
                        have hUs := hU.size
                        refine WC.seq ?_
                        refine WC.seq ?_
                        refine WC.region ?_
                        refine WL.val rfl rfl rfl rfl (r_move rfl (ev_t rfl)) ?_
                        refine WL.val rfl rfl rfl rfl (r_move rfl (ev_t rfl)) ?_
                        refine WL.val rfl rfl rfl rfl (r_lss rfl (ev_t rfl) (ev_t rfl)) ?_
                        refine WL.nil ?_
                        refine WX.keep [(0, _), (1, _), (4, _), (6, _), (7, _), (8, _), (9, _), (10, _), (68, _)] ⟨rfl, rfl, rfl, rfl, rfl, rfl, rfl, rfl, rfl, trivial⟩ ?_
                        refine WX.next ?_
                        refine WC.cond rfl (ev_t rfl) (fun hc14 => ?_) (fun hc14 => ?_)
                        · try (exfalso; first | (simp at hc14; done) | (simp only [decide_eq_true_eq, decide_eq_false_iff_not, Bool.not_eq_true', Bool.not_eq_false', Bool.not_eq_true, Bool.not_eq_false] at hc14; omega) | omega)
                          all_goals
                           try simp only [decide_eq_true_eq, decide_eq_false_iff_not, Bool.not_eq_true', Bool.not_eq_false', Bool.not_eq_true, Bool.not_eq_false, Option.isNone_none, Option.isNone_some, Option.isSome_none, Option.isSome_some, ne_eq, Decidable.not_not] at hc14
                           have hil : i < szO x - 1 := by omega
                           have hgi := getD_lt (l := l) (i := a + 1 + i) (by omega)
                           have hy64 := hw _ (List.mem_of_getElem? hgi)
                           generalize hyy : l.getD (a + 1 + i) 0 = y at *
                           refine WC.skip ?_
                           refine WX.next ?_
                           refine WC.seq ?_
                           refine WC.block ?_
                           refine WC.seq ?_
                           refine WC.region ?_
                           refine WL.val rfl rfl rfl rfl (r_move rfl (ev_t rfl)) ?_
                           refine WL.val rfl rfl rfl rfl (r_move rfl (ev_t rfl)) ?_
                           refine WL.val rfl rfl rfl rfl (r_addN rfl (ev_t rfl) ev_c (by simp only [inK]; omega)) ?_
                           refine WL.val rfl rfl rfl rfl (r_move rfl (ev_t rfl)) ?_
                           refine WL.val rfl rfl rfl rfl (r_addN rfl (ev_t rfl) (ev_t rfl) (by simp only [inK]; omega)) ?_
                           refine WL.val rfl rfl rfl rfl (r_indexAddr rfl (ev_t rfl) (ev_t rfl) elem_46 size_31 (by omega) (by omega)) ?_
                           refine WL.val rfl rfl rfl rfl (r_load rfl (ev_t rfl) flat_31 (hr.cell (j := a + 1 + i) (u := Wd y) (show off + ((a : Int) + 1 + (i : Int)).toNat * 1 = off + (a + 1 + i) by omega) (by rw [List.getElem?_map, hgi]; rfl))) ?_
                           refine WL.val rfl rfl rfl rfl (r_assign rfl (ev_t rfl)) ?_
                           refine WL.nil ?_
                           refine WX.keep [(0, _), (1, _), (4, _), (6, _), (7, _), (8, _), (9, _), (10, _), (11, _)] ⟨rfl, rfl, rfl, rfl, rfl, rfl, rfl, rfl, rfl, trivial⟩ ?_
                           refine WX.next ?_
                           refine WC.seq ?_
                           refine WC.seq ?_
                           refine WC.region ?_
                           refine WL.val rfl rfl rfl rfl (r_move rfl (ev_t rfl)) ?_
                           refine WL.val rfl rfl rfl rfl (r_neq rfl (ev_t rfl) ev_c) ?_
                           refine WL.nil ?_
                           refine WX.keep [(0, _), (1, _), (4, _), (6, _), (7, _), (8, _), (9, _), (10, _), (11, _), (79, _)] ⟨rfl, rfl, rfl, rfl, rfl, rfl, rfl, rfl, rfl, rfl, trivial⟩ ?_
                           refine WX.next ?_
                           refine WC.cond rfl (ev_t rfl) (fun hc17 => ?_) (fun hc17 => ?_)
                           · try (exfalso; first | (simp at hc17; done) | (simp only [decide_eq_true_eq, decide_eq_false_iff_not, Bool.not_eq_true', Bool.not_eq_false', Bool.not_eq_true, Bool.not_eq_false] at hc17; omega) | omega)
                             all_goals
                              try simp only [decide_eq_true_eq, decide_eq_false_iff_not, Bool.not_eq_true', Bool.not_eq_false', Bool.not_eq_true, Bool.not_eq_false, Option.isNone_none, Option.isNone_some, Option.isSome_none, Option.isSome_some, ne_eq, Decidable.not_not] at hc17
                              have hk3 : x % 256 ≠ 3 := by omega
                              have hk3' : l.getD a 0 % 256 ≠ 3 := by rw [hxx]; exact hk3
                              have hin : i < l.getD a 0 / 256 := by rw [hxx]; unfold szO at hil; rw [if_neg hk3] at hil; omega
                              have hpg := (parts_get hk3' hin (by rw [hsz]; exact hfit)).1
                              rw [hyy] at hpg
                              have htb : textB l a = [] := if_neg hk3'
                              have hpl : ((parts l a).take i).length ≤ 1000000 := by rw [List.length_take]; omega
                              have hb8l := hb8.lt
                              refine WC.seq ?_
                              refine WC.region ?_
                              refine WL.val rfl rfl rfl rfl (r_field0 rfl (ev_t rfl) fld_56_1) ?_
                              refine WL.val rfl rfl rfl rfl (r_load rfl (ev_t rfl) flat_46 (Blk.cell hb8 rfl)) ?_
                              refine WL.val rfl rfl rfl rfl (r_move rfl (ev_t rfl)) ?_
                              refine WL.cons (SO.alloc rfl rfl rfl rfl (r_buildSlice1 (vs := [_]) rfl ⟨(ev_t rfl), trivial⟩ rfl row_46 rfl rfl) ?_)
                              intro w10 hu10 hB10 hz10
                              have hs10 := hu10.size
                              replace hU := hU.trans hu10 (by exact (fun _ _ h => h))
                              replace hr := hr.upd hu10 (fun k hk hl hS => by have h1 := hF k hk; exact (show False from hS).elim)
                              replace hb4 := hb4.upd hu10 (fun hS => by exact (show False from hS))
                              replace hb8 := hb8.upd hu10 (fun hS => by exact (show False from hS))
                              replace hP := hP.upd hu10 (fun k hk hl hS => by exact (show False from hS).elim)
                              refine WL.cons (SO.append hP (show Rd _ _ _ 1 1 [Wd y] from Rd.of_blk (F := At _) (n := 1) (sz := 1) hB10 rfl rfl (by omega)) row_46 (fun u hu => by simp at hu; subst hu; rfl) (le_maxLen (by omega)) (by omega) rfl (ev_t rfl) (ev_t rfl) rfl rfl rfl rfl ?_)
                              intro v11 w11 hP hu11
                              have hs11 := hu11.size
                              replace hU := hU.trans hu11 (by (intro k hl hk; first | exact (show False from hk).elim | (simp only [At] at hk; omega) | (have h2 := hPn k hk; omega)))
                              replace hr := hr.upd hu11 (fun k hk hl hS => by have h1 := hF k hk; (have h2 := hPn k hS; omega))
                              replace hb4 := hb4.upd hu11 (fun hS => by (have h2 := hPn _ hS; omega))
                              replace hb8 := hb8.upd hu11 (fun hS => by (have h2 := hPn _ hS; omega))
                              obtain ⟨A11, c11, rfl, hc11⟩ := Own.form hP
                              replace hP := hP.mono (F' := fun k => b4 < k ∧ k ≠ b8) (fun k hk => by rcases hk with hk | hk; exact hPn k hk; exact ⟨by omega, by omega⟩)
                              refine WL.val rfl rfl rfl rfl (r_field0 rfl (ev_t rfl) fld_56_1) ?_
                              refine WL.cons (SO.store rfl (ev_t rfl) (ev_t rfl) size_46 hb8 rfl rfl rfl rfl rfl ?_)
                              intro w12 hu12 hb8 hz12
                              have hs12 := hu12.size
                              replace hU := hU.trans hu12 (by (intro k hl hk; (try simp only [At, New, Grow, From, No] at hk ⊢); omega))
                              replace hr := hr.upd hu12 (fun k hk hl hS => by have h1 := hF k hk; (simp only [At] at hS; omega))
                              replace hb4 := hb4.upd hu12 (fun hS => by (simp only [At] at hS; omega))
                              replace hP := hP.upd hu12 (fun k hk hl hS => by (simp only [At] at hS; have := hk.2; omega))
                              refine WL.nil ?_
                              refine WX.keep [(0, _), (1, _), (4, _), (6, _), (7, _), (8, _), (9, _), (10, _)] ⟨rfl, rfl, rfl, rfl, rfl, rfl, rfl, rfl, trivial⟩ ?_
                              refine WX.next ?_
                              refine WC.exit ?_
                              refine WX.thenExit ?_
                              refine WX.blockHere ?_
                              refine WX.next ?_
                              refine WC.region ?_
                              refine WL.val rfl rfl rfl rfl (r_move rfl (ev_t rfl)) ?_
                              refine WL.val rfl rfl rfl rfl (r_addN rfl (ev_t rfl) ev_c (by simp only [inK]; omega)) ?_
                              refine WL.val rfl rfl rfl rfl (r_assign rfl (ev_t rfl)) ?_
                              refine WL.nil ?_
                              refine WX.keep [(0, _), (1, _), (4, _), (6, _), (7, _), (8, _), (9, _), (10, _)] ⟨rfl, rfl, rfl, rfl, rfl, rfl, rfl, rfl, trivial⟩ ?_
                              refine WX.meet [(0, _), (1, _), (4, _), (6, _), (7, _), (8, _), (9, _), (10, _)] ⟨rfl, rfl, rfl, rfl, rfl, rfl, rfl, rfl, trivial⟩ ?_
                              first
                                | (have e5 : (parts l a).take i ++ [y] = (parts l a).take (i + 1) := (take_get hpg).symm
                                   have e6 : ((parts l a).take i).map Wd ++ [Wd y] = ((parts l a).take (i + 1)).map Wd := by rw [← e5, List.map_append]; rfl
                                   have e7 : ((parts l a).take i).length + 1 = ((parts l a).take (i + 1)).length := by rw [← e5, List.length_append]; rfl
                                   rw [e6, e7] at hP
                                   rw [e7] at hb8
                                   have e8 : (textB l a).take (8 * (i + 1)) = (textB l a).take (8 * i) := by rw [htb]; simp
                                   rw [← e8] at hb8
                                   exact ⟨szO x - 1 - (i + 1), by omega, i + 1, _, _, by omega, rfl, hU, hr, ⟨_, _, _, hb4⟩, hP, fun k hk => hk, hb8, rfl⟩)
                           · try (exfalso; first | (simp at hc17; done) | (simp only [decide_eq_true_eq, decide_eq_false_iff_not, Bool.not_eq_true', Bool.not_eq_false', Bool.not_eq_true, Bool.not_eq_false] at hc17; omega) | omega)
                             all_goals
                              try simp only [decide_eq_true_eq, decide_eq_false_iff_not, Bool.not_eq_true', Bool.not_eq_false', Bool.not_eq_true, Bool.not_eq_false, Option.isNone_none, Option.isNone_some, Option.isSome_none, Option.isSome_some, ne_eq, Decidable.not_not] at hc17
                              have hk3 : x % 256 = 3 := by omega
                              have hk3' : l.getD a 0 % 256 = 3 := by rw [hxx]; exact hk3
                              have hso : szO x = 1 + (x / 256 + 7) / 8 := by unfold szO; rw [if_pos hk3]
                              have hpn : parts l a = [] := if_pos hk3'
                              have htl : (textB l a).length = x / 256 := by rw [textB_len hk3', hxx]
                              refine WC.skip ?_
                              refine WX.next ?_
                              refine WC.seq ?_
                              refine WC.region ?_
                              refine WL.val rfl rfl rfl rfl (r_assign rfl ev_c) ?_
                              refine WL.nil ?_
                              refine WX.keep [(0, _), (1, _), (4, _), (6, _), (7, _), (8, _), (9, _), (10, _), (11, _), (12, _)] ⟨rfl, rfl, rfl, rfl, rfl, rfl, rfl, rfl, rfl, rfl, trivial⟩ ?_
                              refine WX.next ?_
                              refine WC.block ?_
                              -- loop 2: live [0, 1, 4, 6, 7, 8, 9, 10, 11, 12]
                              refine WC.keep [(0, _), (1, _), (4, _), (6, _), (7, _), (8, _), (9, _), (10, _), (11, _), (12, _)] ⟨rfl, rfl, rfl, rfl, rfl, rfl, rfl, rfl, rfl, rfl, trivial⟩ ?_
                              refine WC.loop (fun qq E wD => ∃ (j : Nat), j ≤ 8 ∧ qq = 8 - j ∧ Upd No w wD ∧ Rd wD F (.slice (some ⟨b0, off, none⟩) l.length c) l.length 1 (l.map Wd) ∧ Blk wD b4 #[zk, zp, zs] 56 ∧ Own wD Gp 31 1 vP ((parts l a).take i).length (((parts l a).take i).map Wd) ∧ Blk wD b8 #[.int .u8 ((x % 256 : Nat) : Int), vP, .string ⟨((textB l a).take (8 * i + j)).toArray⟩] 56 ∧ E = [(0, .slice (some ⟨b0, off, none⟩) l.length c), (1, .int .i64 (a : Int)), (4, .pointer (some ⟨b4, 0, none⟩)), (6, .int .u8 ((x % 256 : Nat) : Int)), (7, .int .u64 ((x / 256 : Nat) : Int)), (8, .pointer (some ⟨b8, 0, none⟩)), (9, .int .i64 ((szO x - 1 : Nat) : Int)), (10, .int .i64 (i : Int)), (11, .int .u64 ((y / 256 ^ j : Nat) : Int)), (12, .int .i64 (j : Int))]) (8) ?_ ?_
                              · exact ⟨0, by omega, by omega, hU, hr, hb4, hP, by simpa using hb8, by simp [Wd]⟩
                              · clear hU hr hb4 hP hb8
                                rintro qq E wD ⟨j, hj, rfl, hU, hr, hb4, hP, hb8, rfl⟩
                                have hUs := hU.size
                                have hsl : ((textB l a).take (8 * i + j)).length = min (8 * i + j) (x / 256) := by rw [List.length_take, htl]
                                have hyj : y / 256 ^ j < 18446744073709551616 := Nat.lt_of_le_of_lt (Nat.div_le_self _ _) hy64
                                refine WC.seq ?_
                                refine WC.seq ?_
                                refine WC.region ?_
                                refine WL.val rfl rfl rfl rfl (r_move rfl (ev_t rfl)) ?_
                                refine WL.val rfl rfl rfl rfl (r_lss rfl (ev_t rfl) ev_c) ?_
                                refine WL.val rfl rfl rfl rfl (r_move rfl (ev_t rfl)) ?_
                                refine WL.cases 88 rfl (fun hb20_2 => ?_) (fun hb20_2 => ?_)
                                · try (exfalso; first | (simp at hb20_2; done) | (simp only [decide_eq_true_eq, decide_eq_false_iff_not, Bool.not_eq_true', Bool.not_eq_false', Bool.not_eq_true, Bool.not_eq_false] at hb20_2; omega) | omega)
                                  all_goals
                                   try simp only [decide_eq_true_eq, decide_eq_false_iff_not, Bool.not_eq_true', Bool.not_eq_false', Bool.not_eq_true, Bool.not_eq_false, Option.isNone_none, Option.isNone_some, Option.isSome_none, Option.isSome_some, ne_eq, Decidable.not_not] at hb20_2
                                   refine WL.val rfl rfl rfl rfl (r_field0 rfl (ev_t rfl) fld_56_2) ?_
                                   refine WL.val rfl rfl rfl rfl (r_load rfl (ev_t rfl) flat_9 (Blk.cell hb8 rfl)) ?_
                                   refine WL.val rfl rfl rfl rfl (r_lenStrL rfl (ev_t rfl) str_9) ?_
                                   refine WL.val rfl rfl rfl rfl (r_move rfl (ev_t rfl)) ?_
                                   refine WL.val rfl rfl rfl rfl (r_convN rfl (ev_t rfl) some_31 int_3 (by simp only [inK]; omega)) ?_
                                   refine WL.val rfl rfl rfl rfl (r_lss rfl (ev_t rfl) (ev_t rfl)) ?_
                                   refine WL.val rfl rfl rfl rfl (r_pickT rfl (ev_t rfl) (ev_t rfl)) ?_
                                   refine WL.nil ?_
                                   refine WX.keep [(0, _), (1, _), (4, _), (6, _), (7, _), (8, _), (9, _), (10, _), (11, _), (12, _), (95, _)] ⟨rfl, rfl, rfl, rfl, rfl, rfl, rfl, rfl, rfl, rfl, rfl, trivial⟩ ?_
                                   refine WX.next ?_
                                   refine WC.cond rfl (ev_t rfl) (fun hc20 => ?_) (fun hc20 => ?_)
                                   · try (exfalso; first | (simp at hc20; done) | (simp only [decide_eq_true_eq, decide_eq_false_iff_not, Bool.not_eq_true', Bool.not_eq_false', Bool.not_eq_true, Bool.not_eq_false] at hc20; omega) | omega)
                                     all_goals
                                      try simp only [decide_eq_true_eq, decide_eq_false_iff_not, Bool.not_eq_true', Bool.not_eq_false', Bool.not_eq_true, Bool.not_eq_false, Option.isNone_none, Option.isNone_some, Option.isSome_none, Option.isSome_some, ne_eq, Decidable.not_not] at hc20
                                      have hj8 : j < 8 ∧ 8 * i + j < x / 256 := by first
                                        | omega
                                        | (simp_all; omega)
                                      have htg := textB_get (l := l) (a := a) (i := i) hk3' hj8.1 (by rw [hxx]; exact hj8.2)
                                      rw [hyy] at htg
                                      generalize hbb : UInt8.ofNat (y / 256 ^ j % 256) = bt at htg
                                      have hbv : bt.toNat = y / 256 ^ j % 256 := by rw [← hbb, UInt8.toNat_ofNat']; omega
                                      refine WC.skip ?_
                                      refine WX.next ?_
                                      refine WC.seq ?_
                                      refine WC.block ?_
                                      refine WC.seq ?_
                                      refine WC.region ?_
                                      refine WL.val rfl rfl rfl rfl (r_field0 rfl (ev_t rfl) fld_56_2) ?_
                                      refine WL.val rfl rfl rfl rfl (r_load rfl (ev_t rfl) flat_9 (Blk.cell hb8 rfl)) ?_
                                      refine WL.val rfl rfl rfl rfl (r_move rfl (ev_t rfl)) ?_
                                      refine WL.val rfl rfl rfl rfl (r_rem rfl (ev_t rfl) ev_c (by omega)) ?_
                                      refine WL.val rfl rfl rfl rfl (r_conv rfl (ev_t rfl) some_31 int_5) ?_
                                      have e22 : IntKind.u8.wrap (((y / 256 ^ j : Nat) : Int).tmod 256) = (bt.toNat : Int) := by
                                        rw [show ((y / 256 ^ j : Nat) : Int).tmod 256 = ((y / 256 ^ j % 256 : Nat) : Int) from rfl, wrap_u8, hbv]
                                        omega
                                      rw [e22]
                                      have hb1 : [bt].length = 1 := rfl
                                      refine WL.cons (SO.alloc rfl rfl rfl rfl (r_buildSlice1 (vs := [_]) rfl ⟨(ev_t rfl), trivial⟩ rfl row_63 rfl rfl) ?_)
                                      intro w13 hu13 hB13 hz13
                                      have hs13 := hu13.size
                                      replace hU := hU.trans hu13 (by exact (fun _ _ h => h))
                                      replace hr := hr.upd hu13 (fun k hk hl hS => by have h1 := hF k hk; exact (show False from hS).elim)
                                      replace hb4 := hb4.upd hu13 (fun hS => by exact (show False from hS))
                                      replace hb8 := hb8.upd hu13 (fun hS => by exact (show False from hS))
                                      replace hP := hP.upd hu13 (fun k hk hl hS => by exact (show False from hS).elim)
                                      refine WL.val rfl rfl rfl rfl (r_toStr rfl (ev_t rfl) (show Rd _ _ _ 1 1 ([bt].map U8) from Rd.of_blk (F := At _) (n := 1) (sz := 1) hB13 rfl rfl (by omega)) elem_63 int_5 str_9) ?_
                                      refine WL.val rfl rfl rfl rfl (r_addStrL rfl (ev_t rfl) (ev_t rfl) (by omega)) ?_
                                      refine WL.val rfl rfl rfl rfl (r_field0 rfl (ev_t rfl) fld_56_2) ?_
                                      refine WL.cons (SO.store rfl (ev_t rfl) (ev_t rfl) size_9 hb8 rfl rfl rfl rfl rfl ?_)
                                      intro w14 hu14 hb8 hz14
                                      have hs14 := hu14.size
                                      replace hU := hU.trans hu14 (by (intro k hl hk; (try simp only [At, New, Grow, From, No] at hk ⊢); omega))
                                      replace hr := hr.upd hu14 (fun k hk hl hS => by have h1 := hF k hk; (simp only [At] at hS; omega))
                                      replace hb4 := hb4.upd hu14 (fun hS => by (simp only [At] at hS; omega))
                                      replace hP := hP.upd hu14 (fun k hk hl hS => by (simp only [At] at hS; have := hPn k hk; omega))
                                      refine WL.nil ?_
                                      refine WX.keep [(0, _), (1, _), (4, _), (6, _), (7, _), (8, _), (9, _), (10, _), (11, _), (12, _)] ⟨rfl, rfl, rfl, rfl, rfl, rfl, rfl, rfl, rfl, rfl, trivial⟩ ?_
                                      refine WX.next ?_
                                      refine WC.region ?_
                                      refine WL.val rfl rfl rfl rfl (r_move rfl (ev_t rfl)) ?_
                                      refine WL.val rfl rfl rfl rfl (r_quo rfl (ev_t rfl) ev_c (by omega)) ?_
                                      refine WL.val rfl rfl rfl rfl (r_assign rfl (ev_t rfl)) ?_
                                      refine WL.nil ?_
                                      refine WX.keep [(0, _), (1, _), (4, _), (6, _), (7, _), (8, _), (9, _), (10, _), (11, _), (12, _)] ⟨rfl, rfl, rfl, rfl, rfl, rfl, rfl, rfl, rfl, rfl, trivial⟩ ?_
                                      refine WX.blockNormal ?_
                                      refine WX.next ?_
                                      refine WC.region ?_
                                      refine WL.val rfl rfl rfl rfl (r_move rfl (ev_t rfl)) ?_
                                      refine WL.val rfl rfl rfl rfl (r_addN rfl (ev_t rfl) ev_c (by simp only [inK]; omega)) ?_
                                      refine WL.val rfl rfl rfl rfl (r_assign rfl (ev_t rfl)) ?_
                                      refine WL.nil ?_
                                      refine WX.keep [(0, _), (1, _), (4, _), (6, _), (7, _), (8, _), (9, _), (10, _), (11, _), (12, _)] ⟨rfl, rfl, rfl, rfl, rfl, rfl, rfl, rfl, rfl, rfl, trivial⟩ ?_
                                      refine WX.meet [(0, _), (1, _), (4, _), (6, _), (7, _), (8, _), (9, _), (10, _), (11, _), (12, _)] ⟨rfl, rfl, rfl, rfl, rfl, rfl, rfl, rfl, rfl, rfl, trivial⟩ ?_
                                      have e5 : (textB l a).take (8 * i + j) ++ [bt] = (textB l a).take (8 * i + (j + 1)) := (take_get htg).symm
                                      rw [e5] at hb8
                                      refine ⟨8 - (j + 1), by omega, j + 1, by omega, rfl, hU, hr, hb4, hP, hb8, ?_⟩
                                      have e6 : ((y / 256 ^ (j + 1) : Nat) : Int) = ((y / 256 ^ j / 256 : Nat) : Int) := by rw [Nat.pow_succ, Nat.div_div_eq_div_mul]
                                      have e7 := tdiv_wrap hyj
                                      rw [e6, e7]
                                      rfl
                                   · try (exfalso; first | (simp at hc20; done) | (simp only [decide_eq_true_eq, decide_eq_false_iff_not, Bool.not_eq_true', Bool.not_eq_false', Bool.not_eq_true, Bool.not_eq_false] at hc20; omega) | omega)
                                     all_goals
                                      try simp only [decide_eq_true_eq, decide_eq_false_iff_not, Bool.not_eq_true', Bool.not_eq_false', Bool.not_eq_true, Bool.not_eq_false, Option.isNone_none, Option.isNone_some, Option.isSome_none, Option.isSome_some, ne_eq, Decidable.not_not] at hc20
                                      refine WC.exit ?_
                                      refine WX.thenExit ?_
                                      refine WX.thenExit ?_
                                      refine WX.blockHere ?_
                                      refine WX.blockNormal ?_
                                      refine WX.next ?_
                                      refine WC.region ?_
                                      refine WL.val rfl rfl rfl rfl (r_move rfl (ev_t rfl)) ?_
                                      refine WL.val rfl rfl rfl rfl (r_addN rfl (ev_t rfl) ev_c (by simp only [inK]; omega)) ?_
                                      refine WL.val rfl rfl rfl rfl (r_assign rfl (ev_t rfl)) ?_
                                      refine WL.nil ?_
                                      refine WX.keep [(0, _), (1, _), (4, _), (6, _), (7, _), (8, _), (9, _), (10, _)] ⟨rfl, rfl, rfl, rfl, rfl, rfl, rfl, rfl, trivial⟩ ?_
                                      refine WX.meet [(0, _), (1, _), (4, _), (6, _), (7, _), (8, _), (9, _), (10, _)] ⟨rfl, rfl, rfl, rfl, rfl, rfl, rfl, rfl, trivial⟩ ?_
                                      first
                                        | (have hjn : j = 8 ∨ x / 256 ≤ 8 * i + j := by first | omega | (simp_all; omega)
                                           have e5 : (textB l a).take (8 * i + j) = (textB l a).take (8 * (i + 1)) := by
                                             rcases hjn with h | h
                                             · rw [show 8 * (i + 1) = 8 * i + j by omega]
                                             · rw [List.take_of_length_le (by omega), List.take_of_length_le (by omega)]
                                           rw [e5] at hb8
                                           have e6 : (parts l a).take i = (parts l a).take (i + 1) := by rw [hpn]; simp
                                           rw [e6] at hP
                                           exact ⟨szO x - 1 - (i + 1), by omega, i + 1, _, _, by omega, rfl, hU, hr, ⟨_, _, _, hb4⟩, hP, hPn, hb8, rfl⟩)
                                · try (exfalso; first | (simp at hb20_2; done) | (simp only [decide_eq_true_eq, decide_eq_false_iff_not, Bool.not_eq_true', Bool.not_eq_false', Bool.not_eq_true, Bool.not_eq_false] at hb20_2; omega) | omega)
                                  all_goals
                                   try simp only [decide_eq_true_eq, decide_eq_false_iff_not, Bool.not_eq_true', Bool.not_eq_false', Bool.not_eq_true, Bool.not_eq_false, Option.isNone_none, Option.isNone_some, Option.isSome_none, Option.isSome_some, ne_eq, Decidable.not_not] at hb20_2
                                   refine WL.skip rfl rfl rfl ?_
                                   refine WL.skip rfl rfl rfl ?_
                                   refine WL.skip rfl rfl rfl ?_
                                   refine WL.skip rfl rfl rfl ?_
                                   refine WL.skip rfl rfl rfl ?_
                                   refine WL.skip rfl rfl rfl ?_
                                   refine WL.val rfl rfl rfl rfl (r_pickF rfl (ev_t rfl) ev_c) ?_
                                   refine WL.nil ?_
                                   refine WX.keep [(0, _), (1, _), (4, _), (6, _), (7, _), (8, _), (9, _), (10, _), (11, _), (12, _), (95, _)] ⟨rfl, rfl, rfl, rfl, rfl, rfl, rfl, rfl, rfl, rfl, rfl, trivial⟩ ?_
                                   refine WX.next ?_
                                   refine WC.cond_false rfl (ev_t rfl) ?_
                                   refine WC.exit ?_
                                   refine WX.thenExit ?_
                                   refine WX.thenExit ?_
                                   refine WX.blockHere ?_
                                   refine WX.blockNormal ?_
                                   refine WX.next ?_
                                   refine WC.region ?_
                                   refine WL.val rfl rfl rfl rfl (r_move rfl (ev_t rfl)) ?_
                                   refine WL.val rfl rfl rfl rfl (r_addN rfl (ev_t rfl) ev_c (by simp only [inK]; omega)) ?_
                                   refine WL.val rfl rfl rfl rfl (r_assign rfl (ev_t rfl)) ?_
                                   refine WL.nil ?_
                                   refine WX.keep [(0, _), (1, _), (4, _), (6, _), (7, _), (8, _), (9, _), (10, _)] ⟨rfl, rfl, rfl, rfl, rfl, rfl, rfl, rfl, trivial⟩ ?_
                                   refine WX.meet [(0, _), (1, _), (4, _), (6, _), (7, _), (8, _), (9, _), (10, _)] ⟨rfl, rfl, rfl, rfl, rfl, rfl, rfl, rfl, trivial⟩ ?_
                                   first
                                     | (have hjn : j = 8 ∨ x / 256 ≤ 8 * i + j := by first | omega | (simp_all; omega)
                                        have e5 : (textB l a).take (8 * i + j) = (textB l a).take (8 * (i + 1)) := by
                                          rcases hjn with h | h
                                          · rw [show 8 * (i + 1) = 8 * i + j by omega]
                                          · rw [List.take_of_length_le (by omega), List.take_of_length_le (by omega)]
                                        rw [e5] at hb8
                                        have e6 : (parts l a).take i = (parts l a).take (i + 1) := by rw [hpn]; simp
                                        rw [e6] at hP
                                        exact ⟨szO x - 1 - (i + 1), by omega, i + 1, _, _, by omega, rfl, hU, hr, ⟨_, _, _, hb4⟩, hP, hPn, hb8, rfl⟩)
                        · try (exfalso; first | (simp at hc14; done) | (simp only [decide_eq_true_eq, decide_eq_false_iff_not, Bool.not_eq_true', Bool.not_eq_false', Bool.not_eq_true, Bool.not_eq_false] at hc14; omega) | omega)
                          all_goals
                           try simp only [decide_eq_true_eq, decide_eq_false_iff_not, Bool.not_eq_true', Bool.not_eq_false', Bool.not_eq_true, Bool.not_eq_false, Option.isNone_none, Option.isNone_some, Option.isSome_none, Option.isSome_some, ne_eq, Decidable.not_not] at hc14
                           refine WC.exit ?_
                           refine WX.thenExit ?_
                           refine WX.thenExit ?_
                           refine WX.blockHere ?_
                           refine WX.next ?_
                           refine WC.seq ?_
                           obtain rfl : i = szO x - 1 := by omega
                           have ep : (parts l a).take (szO x - 1) = parts l a := by
                             refine List.take_of_length_le ?_
                             by_cases hk3 : x % 256 = 3
                             · have : parts l a = [] := if_pos (by rw [hxx]; exact hk3)
                               rw [this]; simp
                             · rw [parts_len (by rw [hxx]; exact hk3) (by rw [hsz]; exact hfit), hxx]
                               unfold szO
                               rw [if_neg hk3]
                               omega
                           have et : (textB l a).take (8 * (szO x - 1)) = textB l a := by
                             refine List.take_of_length_le ?_
                             by_cases hk3 : x % 256 = 3
                             · rw [textB_len (by rw [hxx]; exact hk3), hxx]
                               unfold szO
                               rw [if_pos hk3]
                               omega
                             · have : textB l a = [] := if_neg (by rw [hxx]; exact hk3)
                               rw [this]; simp
                           rw [ep] at hP
                           rw [et] at hb8
                           obtain ⟨AP, cP, rfl, _⟩ := hP.form
                           refine WC.region ?_
                           refine WL.val rfl rfl rfl rfl (r_loadAgg (vs := [_, _, _]) rfl (ev_t rfl) agg_56 size_56 (Blk.cellsL hb8)) ?_
                           refine WL.val rfl rfl rfl rfl (r_move rfl (ev_t rfl)) ?_
                           refine WL.val rfl rfl rfl rfl (r_addN rfl ev_c (ev_t rfl) (by simp only [inK]; omega)) ?_
                           refine WL.cons (SO.storeAll (us := [_, _, _]) rfl (ev_t rfl) (ev_t rfl) size_56 hb4 rfl rfl rfl rfl rfl ?_)
                           intro w15 hu15 hb4 hz15
                           have hs15 := hu15.size
                           replace hU := hU.trans hu15 (by (intro k hl hk; (try simp only [At, New, Grow, From, No] at hk ⊢); omega))
                           replace hr := hr.upd hu15 (fun k hk hl hS => by have h1 := hF k hk; (simp only [At] at hS; omega))
                           replace hb8 := hb8.upd hu15 (fun hS => by (simp only [At] at hS; omega))
                           replace hP := hP.upd hu15 (fun k hk hl hS => by (simp only [At] at hS; have := hPn k hk; omega))
                           rw [show ((1 : Int) + ((szO x - 1 : Nat) : Int)) = ((szAt l a : Nat) : Int) by rw [hsz]; omega]
                           refine WL.val rfl rfl rfl rfl (r_assign rfl (ev_t rfl)) ?_
                           refine WL.nil ?_
                           refine WX.keep [(4, _), (5, _)] ⟨rfl, rfl, trivial⟩ ?_
                           refine WX.next ?_
                           refine WC.ret ?_
                           refine WX.retM (l := [.cell 4 56, .tmp 5]) (vs := [_, _]) rfl ⟨⟨_, [_, _, _], rfl, agg_56, size_56, (Blk.cellsL hb4), rfl⟩, ⟨rfl, trivial⟩⟩ ?_
                           exact ⟨x % 256, szAt l a, _, parts l a, textB l a, rfl, hP.bound.mono (fun k hk => ⟨by have := hPn k hk.1; omega, hk.2⟩), hU, .inr ⟨hval, rfl, by rw [hxx], rfl, rfl⟩⟩
end Go.Proofs.YtdpnnclkkbfihaaDoor

/-
  The law's back; the reference's Right; Load of good words.
-/
namespace Go.Proofs.YtdpnnclkkbfihaaDoor
open Go
set_option linter.unusedSimpArgs false
set_option linter.unusedVariables false

theorem back_ok {w : World} {F : Nat → Prop} {v : Value} {l : List Nat} (hr : Rd w F v l.length 1 (l.map Wd)) (hn : l.length ≤ 1000000000) :
    Ret Tryd.prog 27 #[v] w fun v' w' => Own w' (New w w') tWord 1 v' l.length (l.map Wd) ∧ Upd No w w' := by
  replace hr := hr.bound
  obtain ⟨A, c, rfl, hc⟩ := hr.slice_form
  generalize hF : (fun k => F k ∧ k < w.heap.size) = F' at hr
  have hFl : ∀ k, F' k → k < w.heap.size := by subst hF; exact fun k h => h.2
  refine enterRet (vs := [_]) (N := 19) Tryd.func27 rfl rfl rfl ?_
  have hU := Upd.refl No w
  refine WC.keep [(0, _)] ⟨rfl, trivial⟩ ?_
  refine WC.seq ?_
  refine WC.region ?_
  refine WL.val rfl rfl rfl rfl (r_assign rfl ev_c) ?_
  refine WL.nil ?_
  refine WX.keep [(0, _)] ⟨rfl, trivial⟩ ?_
  refine WX.next ?_
  refine WC.seq ?_
  refine WC.region ?_
  refine WL.val rfl rfl rfl rfl (r_assign rfl ev_c) ?_
  refine WL.nil ?_
  refine WX.keep [(0, _), (3, _)] ⟨rfl, rfl, trivial⟩ ?_
  refine WX.next ?_
  refine WC.seq ?_
  refine WC.seq ?_
  refine WC.region ?_
  refine WL.val rfl rfl rfl rfl (r_assign rfl ev_c) ?_
  refine WL.nil ?_
  refine WX.keep [(0, _), (3, _), (4, _)] ⟨rfl, rfl, rfl, trivial⟩ ?_
  refine WX.next ?_
  refine WC.block ?_
  -- loop 1: live [0, 3, 4]
  refine WC.keep [(0, _), (3, _), (4, _)] ⟨rfl, rfl, rfl, trivial⟩ ?_
  refine WC.loop (fun qq E wC => ∃ (j : Nat) (v1 : Value), j ≤ l.length ∧ qq = l.length - j ∧ Upd No w wC ∧ Rd wC F' (.slice A l.length c) l.length 1 (l.map Wd) ∧ Own wC (New w wC) tWord 1 v1 j ((l.take j).map Wd) ∧ E = [(0, .slice A l.length c), (3, v1), (4, .int .i64 (j : Int))]) (l.length) ?_ ?_
  · exact ⟨0, _, by omega, by omega, hU, hr, by simpa using Own.nil _ _ _ _, rfl⟩
  · clear hU hr
    rintro qq E wC ⟨j, v1, hj, rfl, hU, hr, how, rfl⟩
    have hUs := hU.size
    refine WC.seq ?_
    refine WC.seq ?_
    refine WC.region ?_
    refine WL.val rfl rfl rfl rfl (r_move rfl (ev_t rfl)) ?_
    refine WL.val rfl rfl rfl rfl (r_move rfl (ev_t rfl)) ?_
    refine WL.val rfl rfl rfl rfl (r_lenSlice (ts := #[]) rfl (ev_t rfl) elem_46) ?_
    refine WL.val rfl rfl rfl rfl (r_lss rfl (ev_t rfl) (ev_t rfl)) ?_
    refine WL.nil ?_
    refine WX.keep [(0, _), (3, _), (4, _), (8, _)] ⟨rfl, rfl, rfl, rfl, trivial⟩ ?_
    refine WX.next ?_
    refine WC.cond rfl (ev_t rfl) (fun hc3 => ?_) (fun hc3 => ?_)
    · try (exfalso; first | (simp at hc3; done) | (simp only [decide_eq_true_eq, decide_eq_false_iff_not, Bool.not_eq_true', Bool.not_eq_false', Bool.not_eq_true, Bool.not_eq_false] at hc3; omega) | omega)
      all_goals
       try simp only [decide_eq_true_eq, decide_eq_false_iff_not, Bool.not_eq_true', Bool.not_eq_false', Bool.not_eq_true, Bool.not_eq_false, Option.isNone_none, Option.isNone_some, Option.isSome_none, Option.isSome_some, ne_eq, Decidable.not_not] at hc3
       have hjl : j < l.length := by simpa using hc3
       obtain ⟨b0, off, rfl, _⟩ := hr.open (by omega)
       refine WC.skip ?_
       refine WX.next ?_
       refine WC.seq ?_
       refine WC.block ?_
       refine WC.region ?_
       refine WL.val rfl rfl rfl rfl (r_move rfl (ev_t rfl)) ?_
       refine WL.val rfl rfl rfl rfl (r_move rfl (ev_t rfl)) ?_
       refine WL.val rfl rfl rfl rfl (r_move rfl (ev_t rfl)) ?_
       refine WL.val rfl rfl rfl rfl (r_indexAddr rfl (ev_t rfl) (ev_t rfl) elem_46 size_31 (by omega) (by omega)) ?_
       refine WL.val rfl rfl rfl rfl (r_load rfl (ev_t rfl) flat_31 (hr.cell (j := j) (u := Wd l[j]) (by omega) (by rw [List.getElem?_map, List.getElem?_eq_getElem hjl]; rfl))) ?_
       refine WL.cons (SO.alloc rfl rfl rfl rfl (r_buildSlice1 (vs := [_]) rfl ⟨(ev_t rfl), trivial⟩ rfl row_30 rfl rfl) ?_)
       intro w1 hu1 hB1 hz1
       have hs1 := hu1.size
       replace hU := hU.trans hu1 (by exact (fun _ _ h => h))
       replace hr := hr.upd hu1 (fun k hk hl hS => by exact (show False from hS).elim)
       replace how := how.upd hu1 (fun k hk hl hS => (show False from hS).elim)
       refine WL.cons (SO.append how (show Rd _ _ _ 1 1 [Wd l[j]] from Rd.of_blk (F := At _) (n := 1) (sz := 1) hB1 rfl rfl (by omega)) row_30 (fun u hu => by simp at hu; subst hu; rfl) (le_maxLen (by omega)) (by omega) rfl (ev_t rfl) (ev_t rfl) rfl rfl rfl rfl ?_)
       intro v2 w2 how hu2
       have hs2 := hu2.size
       replace hU := hU.trans hu2 (by (intro k hl hk; (try simp only [At, New, Grow, From, No] at hk ⊢); omega))
       replace hr := hr.upd hu2 (fun k hk hl hS => by (have h1 := hFl k hk; have h2 := hS.1; omega))
       obtain ⟨A2, c2, rfl, hc2⟩ := Own.form how
       refine WL.val rfl rfl rfl rfl (r_assign rfl (ev_t rfl)) ?_
       refine WL.nil ?_
       refine WX.keep [(0, _), (3, _), (4, _)] ⟨rfl, rfl, rfl, trivial⟩ ?_
       refine WX.blockNormal ?_
       refine WX.next ?_
       refine WC.region ?_
       refine WL.val rfl rfl rfl rfl (r_move rfl (ev_t rfl)) ?_
       refine WL.val rfl rfl rfl rfl (r_addN rfl (ev_t rfl) ev_c (by simp only [inK]; omega)) ?_
       refine WL.val rfl rfl rfl rfl (r_assign rfl (ev_t rfl)) ?_
       refine WL.nil ?_
       refine WX.keep [(0, _), (3, _), (4, _)] ⟨rfl, rfl, rfl, trivial⟩ ?_
       refine WX.meet [(0, _), (3, _), (4, _)] ⟨rfl, rfl, rfl, trivial⟩ ?_
       refine ⟨l.length - (j + 1), by omega, j + 1, _, by omega, rfl, hU, hr, ?_, rfl⟩
       have e1 : (l.take j).map Wd ++ [Wd l[j]] = (l.take (j + 1)).map Wd := by rw [take_get (List.getElem?_eq_getElem hjl), List.map_append]; rfl
       rw [e1] at how
       have hUt := hU.size
       refine how.mono (fun k hk => ?_)
       simp only [Grow, New] at hk ⊢
       have hs9 := (hu2).size
       omega
    · try (exfalso; first | (simp at hc3; done) | (simp only [decide_eq_true_eq, decide_eq_false_iff_not, Bool.not_eq_true', Bool.not_eq_false', Bool.not_eq_true, Bool.not_eq_false] at hc3; omega) | omega)
      all_goals
       try simp only [decide_eq_true_eq, decide_eq_false_iff_not, Bool.not_eq_true', Bool.not_eq_false', Bool.not_eq_true, Bool.not_eq_false, Option.isNone_none, Option.isNone_some, Option.isSome_none, Option.isSome_some, ne_eq, Decidable.not_not] at hc3
       refine WC.exit ?_
       refine WX.thenExit ?_
       refine WX.thenExit ?_
       refine WX.blockHere ?_
       refine WX.next ?_
       refine WC.seq ?_
       refine WC.region ?_
       refine WL.val rfl rfl rfl rfl (r_move rfl (ev_t rfl)) ?_
       refine WL.val rfl rfl rfl rfl (r_assign rfl (ev_t rfl)) ?_
       refine WL.nil ?_
       refine WX.keep [(2, _)] ⟨rfl, trivial⟩ ?_
       refine WX.next ?_
       refine WC.ret ?_
       refine WX.retE1 rfl rfl ?_
       obtain rfl : j = l.length := by
         have : ¬ j < l.length := by simpa using hc3
         omega
       rw [List.take_length] at how
       exact ⟨how, hU⟩

/-! ### the places of the objects -/
def TP (l st : List Nat) (m : Nat) : Prop := ∀ rest, Tile l m rest → Tile l 0 (st ++ rest)
theorem TP.zero (l : List Nat) : TP l [] 0 := fun _ h => h
theorem TP.snoc {l st : List Nat} {m : Nat} (h : TP l st m) (hm : m + szAt l m ≤ l.length) : TP l (st ++ [m]) (m + szAt l m) := fun rest hr => by
  rw [List.append_assoc]
  exact h _ ⟨rfl, hm, hr⟩
/-- bools that say which places are the first ones of objects -/
def FL (l st : List Nat) (fl : List Bool) : Prop := fl.length = l.length ∧ ∀ x, x < l.length → fl[x]? = some (decide (x ∈ st))
theorem FL.zero (l : List Nat) : FL l [] (List.replicate l.length false) := ⟨by simp, fun x hx => by simp [List.getElem?_replicate, hx]⟩
theorem FL.snoc {l st : List Nat} {fl : List Bool} {m : Nat} (h : FL l st fl) (hm : m < l.length) : FL l (st ++ [m]) (fl.set m true) := by
  refine ⟨by rw [List.length_set]; exact h.1, fun x hx => ?_⟩
  rw [List.getElem?_set]
  by_cases e : m = x
  · subst e; rw [if_pos rfl, if_pos (by rw [h.1]; exact hm)]; simp
  · rw [if_neg e, h.2 x hx]; simp [e, Ne.symm e]
theorem flRow_set {fl : List Bool} {a : Nat} {y : Bool} : ((fl.map Value.bool).toArray.setIfInBounds a (.bool y)) = ((fl.set a y).map Value.bool).toArray := by
  rw [List.map_set]; simp
theorem flRow_new (n : Nat) : rowCells (.bool false) n = ((List.replicate n false).map Value.bool).toArray := by
  have : ∀ n, (rowCells (.bool false) n).toList = (List.replicate n false).map Value.bool := fun n => by
    unfold rowCells
    induction n with
    | zero => rfl
    | succ n ih =>
      rw [List.replicate_succ, List.replicate_succ, List.map_cons, List.flatten_cons]
      simp only at ih ⊢
      rw [ih]
      rfl
  rw [← this, Array.toArray_toList]
theorem valid_good {l : List Nat} {a : Nat} (h : validAt l a) : a < l.length ∧ a + szAt l a ≤ l.length ∧ 1 ≤ l.getD a 0 % 256 ∧ l.getD a 0 % 256 ≤ 6 := ⟨h.1, h.2.2.2.2, h.2.1, h.2.2.1⟩
theorem Tile.head_ {l st : List Nat} {m : Nat} (h : Tile l m st) (hm : m < l.length) : ∃ r, st = m :: r ∧ m + szAt l m ≤ l.length ∧ Tile l (m + szAt l m) r := by
  cases st with
  | nil => simp only [Tile] at h; omega
  | cons a r => obtain ⟨rfl, h1, h2⟩ := h; exact ⟨r, rfl, h1, h2⟩
theorem parts_mem {l : List Nat} {a x : Nat} (h : x ∈ parts l a) : x ∈ l := by
  unfold parts at h
  split at h
  · cases h
  · exact List.mem_of_mem_drop (List.mem_of_mem_take h)
theorem tdiv_two {z : Nat} (h : z < 18446744073709551616) : IntKind.u64.wrap ((z : Int).tdiv 2) = ((z / 2 : Nat) : Int) := by
  rw [show (z : Int).tdiv 2 = ((z / 2 : Nat) : Int) from rfl, wrap_u64]
  omega
theorem hd_u {x : Nat} : (x : Int) / 2 ^ Int.toNat 8 = ((x / 256 : Nat) : Int) := by
  rw [show (2 : Int) ^ Int.toNat 8 = 256 by decide]; omega
theorem even_half {x : Nat} : ((x : Int).tmod 2 = 0 ↔ x % 2 = 0) := by
  rw [show (x : Int).tmod 2 = ((x % 2 : Nat) : Int) from rfl]; omega
set_option maxHeartbeats 4000000 in
theorem right_ok {w : World} {F : Nat → Prop} {v : Value} {l : List Nat} (hr : Rd w F v l.length 1 (l.map Wd)) (hn : l.length ≤ 2000) (hF : ∀ k, F k → k < w.heap.size) (hw : ∀ y ∈ l, y < 18446744073709551616) :
    Ret Tryd.prog 25 #[v] w fun v' w' => ∃ b, v' = .bool b ∧ Upd No w w' ∧ (b = true → ∃ st, GoodH l st) := by
  obtain ⟨A, c, rfl, hc⟩ := hr.slice_form
  generalize hB : w.heap.size = B at *
  refine enterRet (vs := [_]) (N := 77) Tryd.func25 rfl rfl rfl ?_
  have hU := Upd.refl No w
  refine WC.keep [(0, _)] ⟨rfl, trivial⟩ ?_
  refine WC.seq ?_
  refine WC.region ?_
  refine WL.val rfl rfl rfl rfl (r_assign rfl ev_c) ?_
  refine WL.nil ?_
  refine WX.keep [(0, _)] ⟨rfl, trivial⟩ ?_
  refine WX.next ?_
  refine WC.seq ?_
  refine WC.region ?_
  refine WL.val rfl rfl rfl rfl (r_move rfl (ev_t rfl)) ?_
  refine WL.val rfl rfl rfl rfl (r_lenSlice (ts := #[]) rfl (ev_t rfl) elem_46) ?_
  refine WL.cons (SO.alloc rfl rfl rfl rfl (r_makeSlice (n := l.length) rfl (ev_t rfl) (ev_t rfl) row_93 (by omega) (by omega)) ?_)
  intro w1 hu1 hfl hzm
  obtain ⟨bF, hbF⟩ : ∃ g, g = w.heap.size := ⟨_, rfl⟩
  rw [← hbF] at hfl ⊢
  rw [flRow_new] at hfl
  have hs1 := hu1.size
  replace hU := hU.trans hu1 (by exact (fun _ _ h => h))
  replace hr := hr.upd hu1 (fun k hk hl hS => by have h1 := hF k hk; exact (show False from hS).elim)
  refine WL.val rfl rfl rfl rfl (r_assign rfl (ev_t rfl)) ?_
  refine WL.nil ?_
  refine WX.keep [(0, _), (3, _)] ⟨rfl, rfl, trivial⟩ ?_
  refine WX.next ?_
  refine WC.seq ?_
  refine WC.seq ?_
  refine WC.region ?_
  refine WL.val rfl rfl rfl rfl (r_assign rfl ev_c) ?_
  refine WL.nil ?_
  refine WX.keep [(0, _), (3, _), (4, _)] ⟨rfl, rfl, rfl, trivial⟩ ?_
  refine WX.next ?_
  refine WC.block ?_
  -- loop 1: live [0, 3, 4]
  refine WC.keep [(0, _), (3, _), (4, _)] ⟨rfl, rfl, rfl, trivial⟩ ?_
  refine WC.loop (fun qq E wC => ∃ (m : Nat) (st : List Nat) (fl : List Bool), m ≤ l.length ∧ qq = l.length - m ∧ TP l st m ∧ FL l st fl ∧ (∀ a ∈ st, 1 ≤ l.getD a 0 % 256 ∧ l.getD a 0 % 256 ≤ 6) ∧ Upd No w wC ∧ Rd wC F (.slice A l.length c) l.length 1 (l.map Wd) ∧ Blk wC bF (fl.map Value.bool).toArray 4 ∧ E = [(0, .slice A l.length c), (3, .slice (some ⟨bF, 0, none⟩) l.length l.length), (4, .int .i64 (m : Int))]) (l.length) ?_ ?_
  · exact ⟨0, [], _, by omega, by omega, TP.zero l, FL.zero l, fun _ h => (by cases h), hU, hr, hfl, rfl⟩
  · clear hU hr hfl
    rintro qq E wC ⟨m, st, fl, hm, rfl, hTP, hFL, hkd, hU, hr, hfl, rfl⟩
    have hUs := hU.size
    have hbl := hfl.lt
    refine WC.seq ?_
    refine WC.seq ?_
    refine WC.region ?_
    refine WL.val rfl rfl rfl rfl (r_move rfl (ev_t rfl)) ?_
    refine WL.val rfl rfl rfl rfl (r_move rfl (ev_t rfl)) ?_
    refine WL.val rfl rfl rfl rfl (r_lenSlice (ts := #[]) rfl (ev_t rfl) elem_46) ?_
    refine WL.val rfl rfl rfl rfl (r_lss rfl (ev_t rfl) (ev_t rfl)) ?_
    refine WL.nil ?_
    refine WX.keep [(0, _), (3, _), (4, _), (18, _)] ⟨rfl, rfl, rfl, rfl, trivial⟩ ?_
    refine WX.next ?_
    refine WC.cond rfl (ev_t rfl) (fun hc3 => ?_) (fun hc3 => ?_)
    · try (exfalso; first | (simp at hc3; done) | (simp only [decide_eq_true_eq, decide_eq_false_iff_not, Bool.not_eq_true', Bool.not_eq_false', Bool.not_eq_true, Bool.not_eq_false] at hc3; omega) | omega)
      all_goals
       try simp only [decide_eq_true_eq, decide_eq_false_iff_not, Bool.not_eq_true', Bool.not_eq_false', Bool.not_eq_true, Bool.not_eq_false, Option.isNone_none, Option.isNone_some, Option.isSome_none, Option.isSome_some, ne_eq, Decidable.not_not] at hc3
       have hml : m < l.length := by omega
       refine WC.skip ?_
       refine WX.next ?_
       refine WC.block ?_
       refine WC.seq ?_
       refine WC.region ?_
       refine WL.val rfl rfl rfl rfl (r_move rfl (ev_t rfl)) ?_
       refine WL.val rfl rfl rfl rfl (r_move rfl (ev_t rfl)) ?_
       refine WL.cons (SO.call (at9_ok hr (by omega) (by omega) (fun k hk => by have := hF k hk; omega) hw) rfl body_28 ⟨(ev_t rfl), (ev_t rfl), trivial⟩ rfl rfl rfl rfl ?_)
       rintro v w2 ⟨kd, n9, vP, ps, s9, rfl, hP, hu2, hres⟩
       obtain ⟨AP, cP, rfl, _⟩ := hP.form
       have hs2 := hu2.size
       replace hU := hU.trans hu2 (by exact (fun _ _ h => h))
       replace hr := hr.upd hu2 (fun k hk hl hS => by have h1 := hF k hk; exact (show False from hS).elim)
       replace hfl := hfl.upd hu2 (fun hS => by exact (show False from hS))
       refine WL.val rfl rfl rfl rfl (r_move rfl (ev_t rfl)) ?_
       refine WL.val rfl rfl rfl rfl (r_extract rfl (ev_t rfl) rfl) ?_
       refine WL.val rfl rfl rfl rfl (r_extract rfl (ev_t rfl) rfl) ?_
       refine WL.cons (SO.alloc rfl rfl rfl rfl (r_alloc rfl zero_56) ?_)
       intro w3 hu3 hB3 hz3
       have hs3 := hu3.size
       replace hU := hU.trans hu3 (by exact (fun _ _ h => h))
       replace hr := hr.upd hu3 (fun k hk hl hS => by have h1 := hF k hk; exact (show False from hS).elim)
       replace hfl := hfl.upd hu3 (fun hS => by exact (show False from hS))
       refine WL.cons (SO.storeAll (us := [_, _, _]) rfl (ev_t rfl) (ev_t rfl) size_56 hB3 rfl rfl rfl rfl rfl ?_)
       intro w4 hu4 hB3 hz4
       have hs4 := hu4.size
       replace hU := hU.trans hu4 (by (intro k hl hk; (try simp only [At, New, Grow, From, No] at hk ⊢); omega))
       replace hr := hr.upd hu4 (fun k hk hl hS => by have h1 := hF k hk; (simp only [At] at hS; omega))
       replace hfl := hfl.upd hu4 (fun hS => by (simp only [At] at hS; omega))
       refine WL.val rfl rfl rfl rfl (r_assign rfl (ev_t rfl)) ?_
       refine WL.nil ?_
       refine WX.keep [(0, _), (3, _), (4, _), (6, _)] ⟨rfl, rfl, rfl, rfl, trivial⟩ ?_
       refine WX.next ?_
       refine WC.seq ?_
       refine WC.seq ?_
       refine WC.region ?_
       refine WL.val rfl rfl rfl rfl (r_move rfl (ev_t rfl)) ?_
       refine WL.val rfl rfl rfl rfl (r_eql rfl (ev_t rfl) ev_c) ?_
       refine WL.nil ?_
       refine WX.keep [(0, _), (3, _), (4, _), (6, _), (26, _)] ⟨rfl, rfl, rfl, rfl, rfl, trivial⟩ ?_
       refine WX.next ?_
       refine WC.cond rfl (ev_t rfl) (fun hc5 => ?_) (fun hc5 => ?_)
       · try (exfalso; first | (simp at hc5; done) | (simp only [decide_eq_true_eq, decide_eq_false_iff_not, Bool.not_eq_true', Bool.not_eq_false', Bool.not_eq_true, Bool.not_eq_false] at hc5; omega) | omega)
         all_goals
          try simp only [decide_eq_true_eq, decide_eq_false_iff_not, Bool.not_eq_true', Bool.not_eq_false', Bool.not_eq_true, Bool.not_eq_false, Option.isNone_none, Option.isNone_some, Option.isSome_none, Option.isSome_some, ne_eq, Decidable.not_not] at hc5
          refine WC.seq ?_
          refine WC.region ?_
          refine WL.val rfl rfl rfl rfl (r_assign rfl ev_c) ?_
          refine WL.nil ?_
          refine WX.keep [(2, _)] ⟨rfl, trivial⟩ ?_
          refine WX.next ?_
          refine WC.ret ?_
          refine WX.thenRet ?_
          refine WX.blockRet ?_
          refine WX.thenRet ?_
          refine WX.blockRet ?_
          refine WX.thenRet ?_
          refine WX.retE1 rfl rfl ?_
          exact ⟨false, rfl, hU, fun h => by cases h⟩
       · try (exfalso; first | (simp at hc5; done) | (simp only [decide_eq_true_eq, decide_eq_false_iff_not, Bool.not_eq_true', Bool.not_eq_false', Bool.not_eq_true, Bool.not_eq_false] at hc5; omega) | omega)
         all_goals
          try simp only [decide_eq_true_eq, decide_eq_false_iff_not, Bool.not_eq_true', Bool.not_eq_false', Bool.not_eq_true, Bool.not_eq_false, Option.isNone_none, Option.isNone_some, Option.isSome_none, Option.isSome_some, ne_eq, Decidable.not_not] at hc5
          have hv9 : validAt l m ∧ n9 = szAt l m := by
            rcases hres with ⟨_, h⟩ | ⟨h1, h2, _⟩
            · exfalso; omega
            · exact ⟨h1, h2⟩
          obtain ⟨hval, rfl⟩ := hv9
          obtain ⟨_, g1, g2, g3⟩ := valid_good hval
          refine WC.skip ?_
          refine WX.next ?_
          refine WC.seq ?_
          refine WC.region ?_
          refine WL.val rfl rfl rfl rfl (r_move rfl (ev_t rfl)) ?_
          refine WL.val rfl rfl rfl rfl (r_move rfl (ev_t rfl)) ?_
          refine WL.val rfl rfl rfl rfl (r_indexAddr rfl (ev_t rfl) (ev_t rfl) elem_93 size_4 (by omega) (by omega)) ?_
          refine WL.cons (SO.store rfl (ev_t rfl) ev_c size_4 hfl (by rw [Nat.blt_eq]; simp [hFL.1]; omega) rfl rfl rfl rfl ?_)
          intro w5 hu5 hfl2 hz3
          rw [show 0 + (m : Int).toNat * 1 = m by omega, flRow_set] at hfl2
          have hs5 := hu5.size
          replace hU := hU.trans hu5 (by (intro k hl hk; (try simp only [At, New, Grow, From, No] at hk ⊢); omega))
          replace hr := hr.upd hu5 (fun k hk hl hS => by have h1 := hF k hk; (simp only [At] at hS; omega))
          have hfl := hfl2
          refine WL.nil ?_
          refine WX.keep [(0, _), (3, _), (4, _), (6, _)] ⟨rfl, rfl, rfl, rfl, trivial⟩ ?_
          refine WX.next ?_
          refine WC.region ?_
          refine WL.val rfl rfl rfl rfl (r_move rfl (ev_t rfl)) ?_
          refine WL.val rfl rfl rfl rfl (r_move rfl (ev_t rfl)) ?_
          refine WL.val rfl rfl rfl rfl (r_addN rfl (ev_t rfl) (ev_t rfl) (by simp only [inK]; omega)) ?_
          refine WL.val rfl rfl rfl rfl (r_assign rfl (ev_t rfl)) ?_
          refine WL.nil ?_
          refine WX.keep [(0, _), (3, _), (4, _)] ⟨rfl, rfl, rfl, trivial⟩ ?_
          refine WX.blockNormal ?_
          refine WX.meet [(0, _), (3, _), (4, _)] ⟨rfl, rfl, rfl, trivial⟩ ?_
          refine ⟨l.length - (m + szAt l m), by have := szAt_pos l m; omega, m + szAt l m, st ++ [m], _, by omega, rfl, hTP.snoc g1, hFL.snoc hml, ?_, hU, hr, hfl, rfl⟩
          intro a ha
          rcases List.mem_append.1 ha with ha | ha
          · exact hkd a ha
          · simp at ha; subst ha; exact ⟨g2, g3⟩
    · try (exfalso; first | (simp at hc3; done) | (simp only [decide_eq_true_eq, decide_eq_false_iff_not, Bool.not_eq_true', Bool.not_eq_false', Bool.not_eq_true, Bool.not_eq_false] at hc3; omega) | omega)
      all_goals
       try simp only [decide_eq_true_eq, decide_eq_false_iff_not, Bool.not_eq_true', Bool.not_eq_false', Bool.not_eq_true, Bool.not_eq_false, Option.isNone_none, Option.isNone_some, Option.isSome_none, Option.isSome_some, ne_eq, Decidable.not_not] at hc3
       refine WC.exit ?_
       refine WX.thenExit ?_
       refine WX.thenExit ?_
       refine WX.blockHere ?_
       refine WX.next ?_
       refine WC.seq ?_
       refine WC.seq ?_
       obtain rfl : m = l.length := by omega
       have hTl : Tile l 0 st := by have := hTP [] rfl; simpa using this
       refine WC.region ?_
       refine WL.val rfl rfl rfl rfl (r_assign rfl ev_c) ?_
       refine WL.nil ?_
       refine WX.keep [(0, _), (3, _), (7, _)] ⟨rfl, rfl, rfl, trivial⟩ ?_
       refine WX.next ?_
       refine WC.block ?_
       -- loop 2: live [0, 3, 7]
       refine WC.keep [(0, _), (3, _), (7, _)] ⟨rfl, rfl, rfl, trivial⟩ ?_
       refine WC.loop (fun qq E wC => ∃ (m k : Nat), m ≤ l.length ∧ qq = l.length - m ∧ Tile l m (st.drop k) ∧ (∀ j a, j < k → st[j]? = some a → ∀ x ∈ parts l a, x % 2 = 1 ∨ x / 2 ∈ st) ∧ Upd No w wC ∧ Rd wC F (.slice A l.length c) l.length 1 (l.map Wd) ∧ Blk wC bF (fl.map Value.bool).toArray 4 ∧ E = [(0, .slice A l.length c), (3, .slice (some ⟨bF, 0, none⟩) l.length l.length), (7, .int .i64 (m : Int))]) (l.length) ?_ ?_
       · exact ⟨0, 0, by omega, by omega, hTl, fun j a h => absurd h (by omega), hU, hr, hfl, rfl⟩
       · clear hU hr hfl
         rintro qq E wC ⟨m, k, hm, rfl, hTm, hrefs, hU, hr, hfl, rfl⟩
         have hUs := hU.size
         have hbl := hfl.lt
         refine WC.seq ?_
         refine WC.seq ?_
         refine WC.region ?_
         refine WL.val rfl rfl rfl rfl (r_move rfl (ev_t rfl)) ?_
         refine WL.val rfl rfl rfl rfl (r_move rfl (ev_t rfl)) ?_
         refine WL.val rfl rfl rfl rfl (r_lenSlice (ts := #[]) rfl (ev_t rfl) elem_46) ?_
         refine WL.val rfl rfl rfl rfl (r_lss rfl (ev_t rfl) (ev_t rfl)) ?_
         refine WL.nil ?_
         refine WX.keep [(0, _), (3, _), (7, _), (36, _)] ⟨rfl, rfl, rfl, rfl, trivial⟩ ?_
         refine WX.next ?_
         refine WC.cond rfl (ev_t rfl) (fun hc10 => ?_) (fun hc10 => ?_)
         · try (exfalso; first | (simp at hc10; done) | (simp only [decide_eq_true_eq, decide_eq_false_iff_not, Bool.not_eq_true', Bool.not_eq_false', Bool.not_eq_true, Bool.not_eq_false] at hc10; omega) | omega)
           all_goals
            try simp only [decide_eq_true_eq, decide_eq_false_iff_not, Bool.not_eq_true', Bool.not_eq_false', Bool.not_eq_true, Bool.not_eq_false, Option.isNone_none, Option.isNone_some, Option.isSome_none, Option.isSome_some, ne_eq, Decidable.not_not] at hc10
            have hml : m < l.length := by omega
            obtain ⟨rest, hdr, g1, hTn⟩ := hTm.head_ hml
            have hk : st[k]? = some m := by rw [← List.head?_drop, hdr]; rfl
            have hdr2 : st.drop (k + 1) = rest := by rw [← List.tail_drop, hdr]; rfl
            have hms : m ∈ st := List.mem_of_getElem? hk
            refine WC.skip ?_
            refine WX.next ?_
            refine WC.block ?_
            refine WC.seq ?_
            refine WC.region ?_
            refine WL.val rfl rfl rfl rfl (r_move rfl (ev_t rfl)) ?_
            refine WL.val rfl rfl rfl rfl (r_move rfl (ev_t rfl)) ?_
            refine WL.cons (SO.call (at9_ok hr (by omega) (by omega) (fun k hk => by have := hF k hk; omega) hw) rfl body_28 ⟨(ev_t rfl), (ev_t rfl), trivial⟩ rfl rfl rfl rfl ?_)
            rintro v w6 ⟨kd, n9, vP, ps, s9, rfl, hP, hu6, hres⟩
            obtain ⟨AP, cP, rfl, _⟩ := hP.form
            have hs6 := hu6.size
            replace hU := hU.trans hu6 (by exact (fun _ _ h => h))
            replace hr := hr.upd hu6 (fun k hk hl hS => by have h1 := hF k hk; exact (show False from hS).elim)
            replace hfl := hfl.upd hu6 (fun hS => by exact (show False from hS))
            have hval : validAt l m := ⟨hml, (hkd m hms).1, (hkd m hms).2, by unfold szAt szO at g1; split at g1 <;> omega, g1⟩
            have hv9 : n9 = szAt l m ∧ ps = parts l m := by
              rcases hres with ⟨h, _⟩ | ⟨h1, h2, _, h3, _⟩
              · exact absurd hval h
              · exact ⟨h2, h3⟩
            obtain ⟨rfl, rfl⟩ := hv9
            obtain ⟨z0, hz0⟩ : ∃ z, z = (w6).heap.size := ⟨_, rfl⟩
            refine WL.val rfl rfl rfl rfl (r_move rfl (ev_t rfl)) ?_
            refine WL.val rfl rfl rfl rfl (r_extract rfl (ev_t rfl) rfl) ?_
            refine WL.val rfl rfl rfl rfl (r_extract rfl (ev_t rfl) rfl) ?_
            refine WL.cons (SO.alloc rfl rfl rfl rfl (r_alloc rfl zero_56) ?_)
            intro w7 hu7 hB7 hz7
            have hs7 := hu7.size
            replace hU := hU.trans hu7 (by exact (fun _ _ h => h))
            replace hr := hr.upd hu7 (fun k hk hl hS => by have h1 := hF k hk; exact (show False from hS).elim)
            replace hfl := hfl.upd hu7 (fun hS => by exact (show False from hS))
            replace hP := hP.upd hu7 (fun k hk hl hS => by exact (show False from hS).elim)
            refine WL.cons (SO.storeAll (us := [_, _, _]) rfl (ev_t rfl) (ev_t rfl) size_56 hB7 rfl rfl rfl rfl rfl ?_)
            intro w8 hu8 hB7 hz8
            have hs8 := hu8.size
            replace hU := hU.trans hu8 (by (intro k hl hk; (try simp only [At, New, Grow, From, No] at hk ⊢); omega))
            replace hr := hr.upd hu8 (fun k hk hl hS => by have h1 := hF k hk; (simp only [At] at hS; omega))
            replace hfl := hfl.upd hu8 (fun hS => by (simp only [At] at hS; omega))
            replace hP := hP.upd hu8 (fun k hk hl hS => by (simp only [At] at hS; have := hk.2; omega))
            refine WL.val rfl rfl rfl rfl (r_assign rfl (ev_t rfl)) ?_
            refine WL.nil ?_
            refine WX.keep [(0, _), (3, _), (7, _), (8, _), (9, _)] ⟨rfl, rfl, rfl, rfl, rfl, trivial⟩ ?_
            have hbO := hB7
            obtain ⟨bO, hbO1⟩ : ∃ g, g = z0 := ⟨_, rfl⟩
            rw [← hz0, ← hbO1] at hbO ⊢
            have hps : (parts l m).length ≤ 2000 := by
              unfold parts; split
              · simp
              · rw [List.length_take, List.length_drop]; omega
            refine WX.next ?_
            refine WC.seq ?_
            refine WC.seq ?_
            refine WC.region ?_
            refine WL.val rfl rfl rfl rfl (r_assign rfl ev_c) ?_
            refine WL.nil ?_
            refine WX.keep [(0, _), (3, _), (7, _), (8, _), (9, _), (10, _)] ⟨rfl, rfl, rfl, rfl, rfl, rfl, trivial⟩ ?_
            refine WX.next ?_
            refine WC.block ?_
            -- loop 3: live [0, 3, 7, 8, 9, 10]
            refine WC.keep [(0, _), (3, _), (7, _), (8, _), (9, _), (10, _)] ⟨rfl, rfl, rfl, rfl, rfl, rfl, trivial⟩ ?_
            refine WC.loop (fun qq E wD => ∃ (i : Nat), i ≤ (parts l m).length ∧ qq = (parts l m).length - i ∧ (∀ j x, j < i → (parts l m)[j]? = some x → x % 2 = 1 ∨ x / 2 ∈ st) ∧ Upd No w wD ∧ Rd wD F (.slice A l.length c) l.length 1 (l.map Wd) ∧ Blk wD bF (fl.map Value.bool).toArray 4 ∧ (∃ Gp, Own wD Gp 31 1 (.slice AP (parts l m).length cP) (parts l m).length ((parts l m).map Wd)) ∧ (∃ zk zs, Blk wD bO #[zk, .slice AP (parts l m).length cP, zs] 56) ∧ E = [(0, .slice A l.length c), (3, .slice (some ⟨bF, 0, none⟩) l.length l.length), (7, .int .i64 (m : Int)), (8, .pointer (some ⟨bO, 0, none⟩)), (9, .int .i64 ((szAt l m : Nat) : Int)), (10, .int .i64 (i : Int))]) ((parts l m).length) ?_ ?_
            · exact ⟨0, by omega, by omega, fun j x h => absurd h (by omega), hU, hr, hfl, ⟨_, hP⟩, ⟨_, _, hbO⟩, rfl⟩
            · clear hU hr hfl hP hbO
              rintro qq E wD ⟨i, hi, rfl, hpr, hU, hr, hfl, ⟨Gp, hP⟩, ⟨zk, zs, hbO⟩, rfl⟩
              have hUs := hU.size
              have hPr := hP.rd (by omega)
              refine WC.seq ?_
              refine WC.seq ?_
              refine WC.region ?_
              refine WL.val rfl rfl rfl rfl (r_move rfl (ev_t rfl)) ?_
              refine WL.val rfl rfl rfl rfl (r_field0 rfl (ev_t rfl) fld_56_1) ?_
              refine WL.val rfl rfl rfl rfl (r_load rfl (ev_t rfl) flat_46 (Blk.cell hbO rfl)) ?_
              refine WL.val rfl rfl rfl rfl (r_lenSlice (ts := #[]) rfl (ev_t rfl) elem_46) ?_
              refine WL.val rfl rfl rfl rfl (r_lss rfl (ev_t rfl) (ev_t rfl)) ?_
              refine WL.nil ?_
              refine WX.keep [(0, _), (3, _), (7, _), (8, _), (9, _), (10, _), (47, _)] ⟨rfl, rfl, rfl, rfl, rfl, rfl, rfl, trivial⟩ ?_
              refine WX.next ?_
              refine WC.cond rfl (ev_t rfl) (fun hc13 => ?_) (fun hc13 => ?_)
              · try (exfalso; first | (simp at hc13; done) | (simp only [decide_eq_true_eq, decide_eq_false_iff_not, Bool.not_eq_true', Bool.not_eq_false', Bool.not_eq_true, Bool.not_eq_false] at hc13; omega) | omega)
                all_goals
                 try simp only [decide_eq_true_eq, decide_eq_false_iff_not, Bool.not_eq_true', Bool.not_eq_false', Bool.not_eq_true, Bool.not_eq_false, Option.isNone_none, Option.isNone_some, Option.isSome_none, Option.isSome_some, ne_eq, Decidable.not_not] at hc13
                 have hil : i < (parts l m).length := by omega
                 obtain ⟨bp, op, rfl, _⟩ := hPr.open (by omega)
                 obtain ⟨x, hxi⟩ : ∃ x, (parts l m)[i]? = some x := ⟨_, List.getElem?_eq_getElem hil⟩
                 have hx64 := hw x (parts_mem (List.mem_of_getElem? hxi))
                 refine WC.skip ?_
                 refine WX.next ?_
                 refine WC.seq ?_
                 refine WC.block ?_
                 refine WC.seq ?_
                 refine WC.region ?_
                 refine WL.val rfl rfl rfl rfl (r_field0 rfl (ev_t rfl) fld_56_1) ?_
                 refine WL.val rfl rfl rfl rfl (r_load rfl (ev_t rfl) flat_46 (Blk.cell hbO rfl)) ?_
                 refine WL.val rfl rfl rfl rfl (r_move rfl (ev_t rfl)) ?_
                 refine WL.val rfl rfl rfl rfl (r_indexAddr rfl (ev_t rfl) (ev_t rfl) elem_46 size_31 (by omega) (by omega)) ?_
                 refine WL.val rfl rfl rfl rfl (r_load rfl (ev_t rfl) flat_31 (hPr.cell (j := i) (u := Wd x) (show op + (i : Int).toNat * 1 = op + i by omega) (by rw [List.getElem?_map, hxi]; rfl))) ?_
                 refine WL.val rfl rfl rfl rfl (r_assign rfl (ev_t rfl)) ?_
                 refine WL.nil ?_
                 refine WX.keep [(0, _), (3, _), (7, _), (8, _), (9, _), (10, _), (11, _)] ⟨rfl, rfl, rfl, rfl, rfl, rfl, rfl, trivial⟩ ?_
                 refine WX.next ?_
                 refine WC.seq ?_
                 refine WC.region ?_
                 refine WL.val rfl rfl rfl rfl (r_move rfl (ev_t rfl)) ?_
                 refine WL.val rfl rfl rfl rfl (r_remN rfl (ev_t rfl) ev_c (by omega) (by omega)) ?_
                 refine WL.val rfl rfl rfl rfl (r_eql rfl (ev_t rfl) ev_c) ?_
                 refine WL.val rfl rfl rfl rfl (r_move rfl (ev_t rfl)) ?_
                 refine WL.cases 58 rfl (fun hb16_3 => ?_) (fun hb16_3 => ?_)
                 · try (exfalso; first | (simp at hb16_3; done) | (simp only [decide_eq_true_eq, decide_eq_false_iff_not, Bool.not_eq_true', Bool.not_eq_false', Bool.not_eq_true, Bool.not_eq_false] at hb16_3; omega) | omega)
                   all_goals
                    try simp only [decide_eq_true_eq, decide_eq_false_iff_not, Bool.not_eq_true', Bool.not_eq_false', Bool.not_eq_true, Bool.not_eq_false, Option.isNone_none, Option.isNone_some, Option.isSome_none, Option.isSome_some, ne_eq, Decidable.not_not] at hb16_3
                    refine WL.val rfl rfl rfl rfl (r_move rfl (ev_t rfl)) ?_
                    refine WL.val rfl rfl rfl rfl (r_quoN rfl (ev_t rfl) ev_c (by omega) (by omega) (by simp only [inK]; omega)) ?_
                    try rw [tdiv_two hx64]
                    refine WL.val rfl rfl rfl rfl (r_move rfl (ev_t rfl)) ?_
                    refine WL.val rfl rfl rfl rfl (r_lenSlice (ts := #[]) rfl (ev_t rfl) elem_46) ?_
                    refine WL.val rfl rfl rfl rfl (r_convN rfl (ev_t rfl) some_3 int_31 (by simp only [inK]; omega)) ?_
                    refine WL.val rfl rfl rfl rfl (r_geq rfl (ev_t rfl) (ev_t rfl)) ?_
                    refine WL.val rfl rfl rfl rfl (r_move rfl (ev_t rfl)) ?_
                    refine WL.cases 65 rfl (fun hb16_10 => ?_) (fun hb16_10 => ?_)
                    · try (exfalso; first | (simp at hb16_10; done) | (simp only [decide_eq_true_eq, decide_eq_false_iff_not, Bool.not_eq_true', Bool.not_eq_false', Bool.not_eq_true, Bool.not_eq_false] at hb16_10; omega) | omega)
                      all_goals
                       try simp only [decide_eq_true_eq, decide_eq_false_iff_not, Bool.not_eq_true', Bool.not_eq_false', Bool.not_eq_true, Bool.not_eq_false, Option.isNone_none, Option.isNone_some, Option.isSome_none, Option.isSome_some, ne_eq, Decidable.not_not] at hb16_10
                       refine WL.skip rfl rfl rfl ?_
                       refine WL.skip rfl rfl rfl ?_
                       refine WL.skip rfl rfl rfl ?_
                       refine WL.skip rfl rfl rfl ?_
                       refine WL.skip rfl rfl rfl ?_
                       refine WL.skip rfl rfl rfl ?_
                       refine WL.val rfl rfl rfl rfl (r_pickT rfl (ev_t rfl) ev_c) ?_
                       refine WL.val rfl rfl rfl rfl (r_pickT rfl (ev_t rfl) (ev_t rfl)) ?_
                       refine WL.nil ?_
                       refine WX.keep [(0, _), (3, _), (7, _), (8, _), (9, _), (10, _), (73, _)] ⟨rfl, rfl, rfl, rfl, rfl, rfl, rfl, trivial⟩ ?_
                       refine WX.next ?_
                       refine WC.cond_true rfl (ev_t rfl) ?_
                       refine WC.seq ?_
                       refine WC.region ?_
                       refine WL.val rfl rfl rfl rfl (r_assign rfl ev_c) ?_
                       refine WL.nil ?_
                       refine WX.keep [(2, _)] ⟨rfl, trivial⟩ ?_
                       refine WX.next ?_
                       refine WC.ret ?_
                       refine WX.blockRet ?_
                       refine WX.thenRet ?_
                       refine WX.thenRet ?_
                       refine WX.blockRet ?_
                       refine WX.thenRet ?_
                       refine WX.blockRet ?_
                       refine WX.thenRet ?_
                       refine WX.blockRet ?_
                       refine WX.thenRet ?_
                       refine WX.retE1 rfl rfl ?_
                       exact ⟨false, rfl, hU, fun h => by cases h⟩
                    · try (exfalso; first | (simp at hb16_10; done) | (simp only [decide_eq_true_eq, decide_eq_false_iff_not, Bool.not_eq_true', Bool.not_eq_false', Bool.not_eq_true, Bool.not_eq_false] at hb16_10; omega) | omega)
                      all_goals
                       try simp only [decide_eq_true_eq, decide_eq_false_iff_not, Bool.not_eq_true', Bool.not_eq_false', Bool.not_eq_true, Bool.not_eq_false, Option.isNone_none, Option.isNone_some, Option.isSome_none, Option.isSome_some, ne_eq, Decidable.not_not] at hb16_10
                       refine WL.val rfl rfl rfl rfl (r_move rfl (ev_t rfl)) ?_
                       refine WL.val rfl rfl rfl rfl (r_move rfl (ev_t rfl)) ?_
                       refine WL.val rfl rfl rfl rfl (r_quoN rfl (ev_t rfl) ev_c (by omega) (by omega) (by simp only [inK]; omega)) ?_
                       try rw [tdiv_two hx64]
                       refine WL.val rfl rfl rfl rfl (r_indexAddr rfl (ev_t rfl) (ev_t rfl) elem_93 size_4 (by omega) (by omega)) ?_
                       refine WL.val rfl rfl rfl rfl (r_load rfl (ev_t rfl) flat_4 (Blk.cell hfl (by (rw [show 0 + ((x : Int) / 2).toNat * 1 = x / 2 by omega]); rw [List.getElem?_toArray, List.getElem?_map, hFL.2 _ (by omega)]; rfl))) ?_
                       refine WL.val rfl rfl rfl rfl (r_not rfl (ev_t rfl)) ?_
                       refine WL.val rfl rfl rfl rfl (r_pickF rfl (ev_t rfl) (ev_t rfl)) ?_
                       refine WL.val rfl rfl rfl rfl (r_pickT rfl (ev_t rfl) (ev_t rfl)) ?_
                       refine WL.nil ?_
                       refine WX.keep [(0, _), (3, _), (7, _), (8, _), (9, _), (10, _), (73, _)] ⟨rfl, rfl, rfl, rfl, rfl, rfl, rfl, trivial⟩ ?_
                       refine WX.next ?_
                       refine WC.cond rfl (ev_t rfl) (fun hc16 => ?_) (fun hc16 => ?_)
                       · try (exfalso; first | (simp at hc16; done) | (simp only [decide_eq_true_eq, decide_eq_false_iff_not, Bool.not_eq_true', Bool.not_eq_false', Bool.not_eq_true, Bool.not_eq_false] at hc16; omega) | omega)
                         all_goals
                          try simp only [decide_eq_true_eq, decide_eq_false_iff_not, Bool.not_eq_true', Bool.not_eq_false', Bool.not_eq_true, Bool.not_eq_false, Option.isNone_none, Option.isNone_some, Option.isSome_none, Option.isSome_some, ne_eq, Decidable.not_not] at hc16
                          refine WC.seq ?_
                          refine WC.region ?_
                          refine WL.val rfl rfl rfl rfl (r_assign rfl ev_c) ?_
                          refine WL.nil ?_
                          refine WX.keep [(2, _)] ⟨rfl, trivial⟩ ?_
                          refine WX.next ?_
                          refine WC.ret ?_
                          refine WX.blockRet ?_
                          refine WX.thenRet ?_
                          refine WX.thenRet ?_
                          refine WX.blockRet ?_
                          refine WX.thenRet ?_
                          refine WX.blockRet ?_
                          refine WX.thenRet ?_
                          refine WX.blockRet ?_
                          refine WX.thenRet ?_
                          refine WX.retE1 rfl rfl ?_
                          exact ⟨false, rfl, hU, fun h => by cases h⟩
                       · try (exfalso; first | (simp at hc16; done) | (simp only [decide_eq_true_eq, decide_eq_false_iff_not, Bool.not_eq_true', Bool.not_eq_false', Bool.not_eq_true, Bool.not_eq_false] at hc16; omega) | omega)
                         all_goals
                          try simp only [decide_eq_true_eq, decide_eq_false_iff_not, Bool.not_eq_true', Bool.not_eq_false', Bool.not_eq_true, Bool.not_eq_false, Option.isNone_none, Option.isNone_some, Option.isSome_none, Option.isSome_some, ne_eq, Decidable.not_not] at hc16
                          refine WC.skip ?_
                          refine WX.blockNormal ?_
                          refine WX.next ?_
                          refine WC.region ?_
                          refine WL.val rfl rfl rfl rfl (r_move rfl (ev_t rfl)) ?_
                          refine WL.val rfl rfl rfl rfl (r_addN rfl (ev_t rfl) ev_c (by simp only [inK]; omega)) ?_
                          refine WL.val rfl rfl rfl rfl (r_assign rfl (ev_t rfl)) ?_
                          refine WL.nil ?_
                          refine WX.keep [(0, _), (3, _), (7, _), (8, _), (9, _), (10, _)] ⟨rfl, rfl, rfl, rfl, rfl, rfl, trivial⟩ ?_
                          refine WX.meet [(0, _), (3, _), (7, _), (8, _), (9, _), (10, _)] ⟨rfl, rfl, rfl, rfl, rfl, rfl, trivial⟩ ?_
                          have hxx : x % 2 = 1 ∨ x / 2 ∈ st := by
                            first
                            | (right; simpa using hc16)
                          refine ⟨(parts l m).length - (i + 1), by omega, i + 1, by omega, rfl, ?_, hU, hr, hfl, ⟨_, hP⟩, ⟨_, _, hbO⟩, rfl⟩
                          intro j x2 hj hx2
                          rcases Nat.lt_or_ge j i with h | h
                          · exact hpr j x2 h hx2
                          · obtain rfl : j = i := by omega
                            rw [hxi] at hx2
                            injection hx2 with hx2
                            rw [← hx2]
                            exact hxx
                 · try (exfalso; first | (simp at hb16_3; done) | (simp only [decide_eq_true_eq, decide_eq_false_iff_not, Bool.not_eq_true', Bool.not_eq_false', Bool.not_eq_true, Bool.not_eq_false] at hb16_3; omega) | omega)
                   all_goals
                    try simp only [decide_eq_true_eq, decide_eq_false_iff_not, Bool.not_eq_true', Bool.not_eq_false', Bool.not_eq_true, Bool.not_eq_false, Option.isNone_none, Option.isNone_some, Option.isSome_none, Option.isSome_some, ne_eq, Decidable.not_not] at hb16_3
                    refine WL.skip rfl rfl rfl ?_
                    refine WL.skip rfl rfl rfl ?_
                    refine WL.skip rfl rfl rfl ?_
                    refine WL.skip rfl rfl rfl ?_
                    refine WL.skip rfl rfl rfl ?_
                    refine WL.skip rfl rfl rfl ?_
                    refine WL.skip rfl rfl rfl ?_
                    refine WL.skip rfl rfl rfl ?_
                    refine WL.skip rfl rfl rfl ?_
                    refine WL.skip rfl rfl rfl ?_
                    refine WL.skip rfl rfl rfl ?_
                    refine WL.skip rfl rfl rfl ?_
                    refine WL.skip rfl rfl rfl ?_
                    refine WL.skip rfl rfl rfl ?_
                    refine WL.val rfl rfl rfl rfl (r_pickF rfl (ev_t rfl) ev_c) ?_
                    refine WL.nil ?_
                    refine WX.keep [(0, _), (3, _), (7, _), (8, _), (9, _), (10, _), (73, _)] ⟨rfl, rfl, rfl, rfl, rfl, rfl, rfl, trivial⟩ ?_
                    refine WX.next ?_
                    refine WC.cond_false rfl (ev_t rfl) ?_
                    refine WC.skip ?_
                    refine WX.blockNormal ?_
                    refine WX.next ?_
                    refine WC.region ?_
                    refine WL.val rfl rfl rfl rfl (r_move rfl (ev_t rfl)) ?_
                    refine WL.val rfl rfl rfl rfl (r_addN rfl (ev_t rfl) ev_c (by simp only [inK]; omega)) ?_
                    refine WL.val rfl rfl rfl rfl (r_assign rfl (ev_t rfl)) ?_
                    refine WL.nil ?_
                    refine WX.keep [(0, _), (3, _), (7, _), (8, _), (9, _), (10, _)] ⟨rfl, rfl, rfl, rfl, rfl, rfl, trivial⟩ ?_
                    refine WX.meet [(0, _), (3, _), (7, _), (8, _), (9, _), (10, _)] ⟨rfl, rfl, rfl, rfl, rfl, rfl, trivial⟩ ?_
                    have hxx : x % 2 = 1 ∨ x / 2 ∈ st := by
                      first
                      | (left; omega)
                    refine ⟨(parts l m).length - (i + 1), by omega, i + 1, by omega, rfl, ?_, hU, hr, hfl, ⟨_, hP⟩, ⟨_, _, hbO⟩, rfl⟩
                    intro j x2 hj hx2
                    rcases Nat.lt_or_ge j i with h | h
                    · exact hpr j x2 h hx2
                    · obtain rfl : j = i := by omega
                      rw [hxi] at hx2
                      injection hx2 with hx2
                      rw [← hx2]
                      exact hxx
              · try (exfalso; first | (simp at hc13; done) | (simp only [decide_eq_true_eq, decide_eq_false_iff_not, Bool.not_eq_true', Bool.not_eq_false', Bool.not_eq_true, Bool.not_eq_false] at hc13; omega) | omega)
                all_goals
                 try simp only [decide_eq_true_eq, decide_eq_false_iff_not, Bool.not_eq_true', Bool.not_eq_false', Bool.not_eq_true, Bool.not_eq_false, Option.isNone_none, Option.isNone_some, Option.isSome_none, Option.isSome_some, ne_eq, Decidable.not_not] at hc13
                 refine WC.exit ?_
                 refine WX.thenExit ?_
                 refine WX.thenExit ?_
                 refine WX.blockHere ?_
                 refine WX.next ?_
                 refine WC.region ?_
                 refine WL.val rfl rfl rfl rfl (r_move rfl (ev_t rfl)) ?_
                 refine WL.val rfl rfl rfl rfl (r_move rfl (ev_t rfl)) ?_
                 refine WL.val rfl rfl rfl rfl (r_addN rfl (ev_t rfl) (ev_t rfl) (by simp only [inK]; omega)) ?_
                 refine WL.val rfl rfl rfl rfl (r_assign rfl (ev_t rfl)) ?_
                 refine WL.nil ?_
                 refine WX.keep [(0, _), (3, _), (7, _)] ⟨rfl, rfl, rfl, trivial⟩ ?_
                 refine WX.blockNormal ?_
                 refine WX.meet [(0, _), (3, _), (7, _)] ⟨rfl, rfl, rfl, trivial⟩ ?_
                 refine ⟨l.length - (m + szAt l m), by have := szAt_pos l m; omega, m + szAt l m, k + 1, by omega, rfl, by rw [hdr2]; exact hTn, ?_, hU, hr, hfl, rfl⟩
                 intro j a hj ha x hx
                 rcases Nat.lt_or_ge j k with h | h
                 · exact hrefs j a h ha x hx
                 · obtain rfl : j = k := by omega
                   rw [hk] at ha
                   injection ha with ha
                   subst ha
                   obtain ⟨i2, hi2, rfl⟩ := List.mem_iff_getElem.1 hx
                   exact hpr i2 _ (by omega) (List.getElem?_eq_getElem hi2)
         · try (exfalso; first | (simp at hc10; done) | (simp only [decide_eq_true_eq, decide_eq_false_iff_not, Bool.not_eq_true', Bool.not_eq_false', Bool.not_eq_true, Bool.not_eq_false] at hc10; omega) | omega)
           all_goals
            try simp only [decide_eq_true_eq, decide_eq_false_iff_not, Bool.not_eq_true', Bool.not_eq_false', Bool.not_eq_true, Bool.not_eq_false, Option.isNone_none, Option.isNone_some, Option.isSome_none, Option.isSome_some, ne_eq, Decidable.not_not] at hc10
            refine WC.exit ?_
            refine WX.thenExit ?_
            refine WX.thenExit ?_
            refine WX.blockHere ?_
            refine WX.next ?_
            refine WC.seq ?_
            refine WC.region ?_
            refine WL.val rfl rfl rfl rfl (r_assign rfl ev_c) ?_
            refine WL.nil ?_
            refine WX.keep [(2, _)] ⟨rfl, trivial⟩ ?_
            refine WX.next ?_
            refine WC.ret ?_
            refine WX.retE1 rfl rfl ?_
            refine ⟨true, rfl, hU, fun _ => ⟨st, ⟨hTl, ?_, hw⟩, hkd⟩⟩
            obtain rfl : m = l.length := by omega
            have hk0 : st.drop k = [] := by
              cases hd : st.drop k with
              | nil => rfl
              | cons b r =>
                rw [hd] at hTm
                obtain ⟨rfl, h1, _⟩ := hTm
                have := szAt_pos l l.length
                omega
            intro a ha x hx
            obtain ⟨j, hj, rfl⟩ := List.mem_iff_getElem.1 ha
            have hjk : j < k := by
              rcases Nat.lt_or_ge j k with h | h
              · exact h
              · have := List.drop_eq_nil_iff.1 hk0; omega
            exact hrefs j _ hjk (List.getElem?_eq_getElem hj) x hx
end Go.Proofs.YtdpnnclkkbfihaaDoor

/-
  Load of good words.
-/
namespace Go.Proofs.YtdpnnclkkbfihaaDoor
open Go
set_option linter.unusedSimpArgs false
set_option linter.unusedVariables false

set_option maxHeartbeats 4000000 in
theorem load_ok {w : World} {F : Nat → Prop} {v : Value} {l st : List Nat} (hr : Rd w F v l.length 1 (l.map Wd)) (hn : l.length ≤ 5000) (hF : ∀ k, F k → k < w.heap.size) (hg : GoodH l st) :
    Ret Tryd.prog 26 #[.int .i64 5000, v] w fun v' w' => ∃ G p A c, v' = .tuple #[.pointer (some ⟨p, 0, none⟩), .int .i64 0] ∧ HS w' G p A c l 5000 0 ∧ w.heap.size ≤ p ∧ (∀ k, G k → w.heap.size ≤ k) ∧ Upd No w w' := by
  have hw := hg.vd.w64
  have hTl := hg.vd.tile
  obtain ⟨A, c, rfl, hc⟩ := hr.slice_form
  generalize hB : w.heap.size = B at *
  refine enterRet (vs := [_, _]) (N := 139) Tryd.func26 rfl rfl rfl ?_
  have hU := Upd.refl No w
  refine WC.keep [(0, _), (1, _)] ⟨rfl, rfl, trivial⟩ ?_
  refine WC.seq ?_
  refine WC.region ?_
  refine WL.val rfl rfl rfl rfl (r_assign rfl ev_c) ?_
  refine WL.val rfl rfl rfl rfl (r_assign rfl ev_c) ?_
  refine WL.nil ?_
  refine WX.keep [(0, _), (1, _)] ⟨rfl, rfl, trivial⟩ ?_
  refine WX.next ?_
  refine WC.seq ?_
  refine WC.region ?_
  refine WL.val rfl rfl rfl rfl (r_move rfl (ev_t rfl)) ?_
  refine WL.cons (SO.call (new_ok (q := 5000) (by simp only [inK]; omega)) rfl body_11 ⟨(ev_t rfl), trivial⟩ rfl rfl rfl rfl ?_)
  rintro v w1 ⟨-, h2, hu1⟩
  obtain ⟨rfl, hb⟩ := h2 (by omega)
  obtain ⟨p, hp⟩ : ∃ p, p = w.heap.size := ⟨_, rfl⟩
  rw [← hp] at hb ⊢
  have hpl := hb.lt
  have hs1 := hu1.size
  replace hU := hU.trans hu1 (by exact (fun _ _ h => h))
  replace hr := hr.upd hu1 (fun k hk hl hS => by have h1 := hF k hk; exact (show False from hS).elim)
  refine WL.val rfl rfl rfl rfl (r_move rfl (ev_t rfl)) ?_
  refine WL.val rfl rfl rfl rfl (r_extract rfl (ev_t rfl) rfl) ?_
  refine WL.val rfl rfl rfl rfl (r_extract rfl (ev_t rfl) rfl) ?_
  refine WL.val rfl rfl rfl rfl (r_assign rfl (ev_t rfl)) ?_
  refine WL.val rfl rfl rfl rfl (r_assign rfl (ev_t rfl)) ?_
  refine WL.nil ?_
  refine WX.keep [(0, _), (1, _), (6, _), (7, _)] ⟨rfl, rfl, rfl, rfl, trivial⟩ ?_
  refine WX.next ?_
  refine WC.seq ?_
  refine WC.seq ?_
  refine WC.region ?_
  refine WL.val rfl rfl rfl rfl (r_move rfl (ev_t rfl)) ?_
  refine WL.val rfl rfl rfl rfl (r_neq rfl (ev_t rfl) ev_c) ?_
  refine WL.nil ?_
  refine WX.keep [(0, _), (1, _), (6, _), (7, _), (21, _)] ⟨rfl, rfl, rfl, rfl, rfl, trivial⟩ ?_
  refine WX.next ?_
  refine WC.cond rfl (ev_t rfl) (fun hc2 => ?_) (fun hc2 => ?_)
  · try (exfalso; first | (simp at hc2; done) | (simp only [decide_eq_true_eq, decide_eq_false_iff_not, Bool.not_eq_true', Bool.not_eq_false', Bool.not_eq_true, Bool.not_eq_false] at hc2; omega) | omega)
  · try (exfalso; first | (simp at hc2; done) | (simp only [decide_eq_true_eq, decide_eq_false_iff_not, Bool.not_eq_true', Bool.not_eq_false', Bool.not_eq_true, Bool.not_eq_false] at hc2; omega) | omega)
    all_goals
     try simp only [decide_eq_true_eq, decide_eq_false_iff_not, Bool.not_eq_true', Bool.not_eq_false', Bool.not_eq_true, Bool.not_eq_false, Option.isNone_none, Option.isNone_some, Option.isSome_none, Option.isSome_some, ne_eq, Decidable.not_not] at hc2
     refine WC.skip ?_
     refine WX.next ?_
     refine WC.seq ?_
     refine WC.seq ?_
     refine WC.region ?_
     refine WL.val rfl rfl rfl rfl (r_move rfl (ev_t rfl)) ?_
     refine WL.val rfl rfl rfl rfl (r_lenSlice (ts := #[]) rfl (ev_t rfl) elem_30) ?_
     refine WL.val rfl rfl rfl rfl (r_move rfl (ev_t rfl)) ?_
     refine WL.val rfl rfl rfl rfl (r_gtr rfl (ev_t rfl) (ev_t rfl)) ?_
     refine WL.nil ?_
     refine WX.keep [(1, _), (6, _), (26, _)] ⟨rfl, rfl, rfl, trivial⟩ ?_
     refine WX.next ?_
     refine WC.cond rfl (ev_t rfl) (fun hc4 => ?_) (fun hc4 => ?_)
     · try (exfalso; first | (simp at hc4; done) | (simp only [decide_eq_true_eq, decide_eq_false_iff_not, Bool.not_eq_true', Bool.not_eq_false', Bool.not_eq_true, Bool.not_eq_false] at hc4; omega) | omega)
     · try (exfalso; first | (simp at hc4; done) | (simp only [decide_eq_true_eq, decide_eq_false_iff_not, Bool.not_eq_true', Bool.not_eq_false', Bool.not_eq_true, Bool.not_eq_false] at hc4; omega) | omega)
       all_goals
        try simp only [decide_eq_true_eq, decide_eq_false_iff_not, Bool.not_eq_true', Bool.not_eq_false', Bool.not_eq_true, Bool.not_eq_false, Option.isNone_none, Option.isNone_some, Option.isSome_none, Option.isSome_some, ne_eq, Decidable.not_not] at hc4
        refine WC.skip ?_
        refine WX.next ?_
        refine WC.seq ?_
        refine WC.region ?_
        refine WL.val rfl rfl rfl rfl (r_move rfl (ev_t rfl)) ?_
        refine WL.val rfl rfl rfl rfl (r_lenSlice (ts := #[]) rfl (ev_t rfl) elem_30) ?_
        refine WL.cons (SO.alloc rfl rfl rfl rfl (r_makeSlice (n := l.length) rfl (ev_t rfl) (ev_t rfl) row_93 (by omega) (by omega)) ?_)
        intro w2 hu2 hfl hzm
        obtain ⟨bF, hbF⟩ : ∃ g, g = w1.heap.size := ⟨_, rfl⟩
        rw [← hbF] at hfl ⊢
        rw [flRow_new] at hfl
        have hs2 := hu2.size
        replace hU := hU.trans hu2 (by exact (fun _ _ h => h))
        replace hr := hr.upd hu2 (fun k hk hl hS => by have h1 := hF k hk; exact (show False from hS).elim)
        replace hb := hb.upd hu2 (fun hS => by exact (show False from hS))
        have hBp : B ≤ p ∧ p < bF := by omega
        refine WL.val rfl rfl rfl rfl (r_assign rfl (ev_t rfl)) ?_
        refine WL.nil ?_
        refine WX.keep [(1, _), (6, _), (8, _)] ⟨rfl, rfl, rfl, trivial⟩ ?_
        refine WX.next ?_
        refine WC.seq ?_
        refine WC.seq ?_
        refine WC.region ?_
        refine WL.val rfl rfl rfl rfl (r_assign rfl ev_c) ?_
        refine WL.nil ?_
        refine WX.keep [(1, _), (6, _), (8, _), (9, _)] ⟨rfl, rfl, rfl, rfl, trivial⟩ ?_
        refine WX.next ?_
        refine WC.block ?_
        -- loop 1: live [1, 6, 8, 9]
        refine WC.keep [(1, _), (6, _), (8, _), (9, _)] ⟨rfl, rfl, rfl, rfl, trivial⟩ ?_
        refine WC.loop (fun qq E wC => ∃ (m k : Nat) (fl : List Bool), m ≤ l.length ∧ qq = l.length - m ∧ Tile l m (st.drop k) ∧ k ≤ st.length ∧ FL l (st.take k) fl ∧ Upd No w wC ∧ Rd wC F (.slice A l.length c) l.length 1 (l.map Wd) ∧ Blk wC p #[.slice none 0 0, .int .i64 5000, .int .i64 0] 79 ∧ Blk wC bF (fl.map Value.bool).toArray 4 ∧ E = [(1, .slice A l.length c), (6, .pointer (some ⟨p, 0, none⟩)), (8, .slice (some ⟨bF, 0, none⟩) l.length l.length), (9, .int .i64 (m : Int))]) (l.length) ?_ ?_
        · exact ⟨0, 0, _, by omega, by omega, hTl, by omega, FL.zero l, hU, hr, hb, hfl, rfl⟩
        · clear hU hr hb hfl
          rintro qq E wC ⟨m, k, fl, hm, rfl, hTm, hkl, hFL, hU, hr, hb, hfl, rfl⟩
          have hUs := hU.size
          have hbl := hfl.lt
          refine WC.seq ?_
          refine WC.seq ?_
          refine WC.region ?_
          refine WL.val rfl rfl rfl rfl (r_move rfl (ev_t rfl)) ?_
          refine WL.val rfl rfl rfl rfl (r_move rfl (ev_t rfl)) ?_
          refine WL.val rfl rfl rfl rfl (r_lenSlice (ts := #[]) rfl (ev_t rfl) elem_30) ?_
          refine WL.val rfl rfl rfl rfl (r_lss rfl (ev_t rfl) (ev_t rfl)) ?_
          refine WL.nil ?_
          refine WX.keep [(1, _), (6, _), (8, _), (9, _), (33, _)] ⟨rfl, rfl, rfl, rfl, rfl, trivial⟩ ?_
          refine WX.next ?_
          refine WC.cond rfl (ev_t rfl) (fun hc8 => ?_) (fun hc8 => ?_)
          · try (exfalso; first | (simp at hc8; done) | (simp only [decide_eq_true_eq, decide_eq_false_iff_not, Bool.not_eq_true', Bool.not_eq_false', Bool.not_eq_true, Bool.not_eq_false] at hc8; omega) | omega)
            all_goals
             try simp only [decide_eq_true_eq, decide_eq_false_iff_not, Bool.not_eq_true', Bool.not_eq_false', Bool.not_eq_true, Bool.not_eq_false, Option.isNone_none, Option.isNone_some, Option.isSome_none, Option.isSome_some, ne_eq, Decidable.not_not] at hc8
             have hml : m < l.length := by omega
             obtain ⟨rest, hdr, g1, hTn⟩ := hTm.head_ hml
             have hk : st[k]? = some m := by rw [← List.head?_drop, hdr]; rfl
             have hkl2 := (List.getElem?_eq_some_iff.1 hk).1
             have hdr2 : st.drop (k + 1) = rest := by rw [← List.tail_drop, hdr]; rfl
             have hms : m ∈ st := List.mem_of_getElem? hk
             obtain ⟨g2, g3⟩ := hg.kd m hms
             have g4 := hg.n8 hms
             have hgx := getD_lt hml
             have hx64 := hw _ (List.mem_of_getElem? hgx)
             have hsz : szAt l m = szO (l.getD m 0) := rfl
             have hszp := szAt_pos l m
             obtain ⟨b0, off, rfl, _⟩ := hr.open (by omega)
             generalize hxx : l.getD m 0 = x at *
             refine WC.skip ?_
             refine WX.next ?_
             refine WC.block ?_
             refine WC.seq ?_
             refine WC.region ?_
             refine WL.val rfl rfl rfl rfl (r_move rfl (ev_t rfl)) ?_
             refine WL.val rfl rfl rfl rfl (r_move rfl (ev_t rfl)) ?_
             refine WL.val rfl rfl rfl rfl (r_indexAddr rfl (ev_t rfl) (ev_t rfl) elem_30 size_32 (by omega) (by omega)) ?_
             refine WL.val rfl rfl rfl rfl (r_load rfl (ev_t rfl) flat_32 (hr.cell (j := m) (u := Wd x) (show off + (m : Int).toNat * 1 = off + m by omega) (by rw [List.getElem?_map, hgx]; rfl))) ?_
             refine WL.val rfl rfl rfl rfl (r_conv rfl (ev_t rfl) some_32 int_5) ?_
             rw [hd_k]
             refine WL.val rfl rfl rfl rfl (r_assign rfl (ev_t rfl)) ?_
             refine WL.nil ?_
             refine WX.keep [(1, _), (6, _), (8, _), (9, _), (10, _)] ⟨rfl, rfl, rfl, rfl, rfl, trivial⟩ ?_
             refine WX.next ?_
             refine WC.seq ?_
             refine WC.region ?_
             refine WL.val rfl rfl rfl rfl (r_move rfl (ev_t rfl)) ?_
             refine WL.val rfl rfl rfl rfl (r_move rfl (ev_t rfl)) ?_
             refine WL.val rfl rfl rfl rfl (r_indexAddr rfl (ev_t rfl) (ev_t rfl) elem_30 size_32 (by omega) (by omega)) ?_
             refine WL.val rfl rfl rfl rfl (r_load rfl (ev_t rfl) flat_32 (hr.cell (j := m) (u := Wd x) (show off + (m : Int).toNat * 1 = off + m by omega) (by rw [List.getElem?_map, hgx]; rfl))) ?_
             refine WL.val rfl rfl rfl rfl (r_shr rfl (ev_t rfl) ev_c (by omega) (by simp only [IntKind.bits]; omega)) ?_
             rw [hd_u (x := x)]
             refine WL.val rfl rfl rfl rfl (r_assign rfl (ev_t rfl)) ?_
             refine WL.nil ?_
             refine WX.keep [(1, _), (6, _), (8, _), (9, _), (10, _), (11, _)] ⟨rfl, rfl, rfl, rfl, rfl, rfl, trivial⟩ ?_
             refine WX.next ?_
             refine WC.seq ?_
             refine WC.seq ?_
             refine WC.region ?_
             refine WL.val rfl rfl rfl rfl (r_move rfl (ev_t rfl)) ?_
             refine WL.val rfl rfl rfl rfl (r_lss rfl (ev_t rfl) ev_c) ?_
             refine WL.val rfl rfl rfl rfl (r_move rfl (ev_t rfl)) ?_
             refine WL.cases 46 rfl (fun hb11_2 => ?_) (fun hb11_2 => ?_)
             · try simp only [decide_eq_true_eq, decide_eq_false_iff_not, Bool.not_eq_true', Bool.not_eq_false', Bool.not_eq_true, Bool.not_eq_false, Option.isNone_none, Option.isNone_some, Option.isSome_none, Option.isSome_some, ne_eq, Decidable.not_not] at hb11_2
               exfalso
               omega
             · try (exfalso; first | (simp at hb11_2; done) | (simp only [decide_eq_true_eq, decide_eq_false_iff_not, Bool.not_eq_true', Bool.not_eq_false', Bool.not_eq_true, Bool.not_eq_false] at hb11_2; omega) | omega)
               all_goals
                try simp only [decide_eq_true_eq, decide_eq_false_iff_not, Bool.not_eq_true', Bool.not_eq_false', Bool.not_eq_true, Bool.not_eq_false, Option.isNone_none, Option.isNone_some, Option.isSome_none, Option.isSome_some, ne_eq, Decidable.not_not] at hb11_2
                refine WL.val rfl rfl rfl rfl (r_move rfl (ev_t rfl)) ?_
                refine WL.val rfl rfl rfl rfl (r_gtr rfl (ev_t rfl) ev_c) ?_
                refine WL.val rfl rfl rfl rfl (r_pickF rfl (ev_t rfl) (ev_t rfl)) ?_
                refine WL.val rfl rfl rfl rfl (r_move rfl (ev_t rfl)) ?_
                refine WL.cases 50 rfl (fun hb11_6 => ?_) (fun hb11_6 => ?_)
                · try simp only [decide_eq_true_eq, decide_eq_false_iff_not, Bool.not_eq_true', Bool.not_eq_false', Bool.not_eq_true, Bool.not_eq_false, Option.isNone_none, Option.isNone_some, Option.isSome_none, Option.isSome_some, ne_eq, Decidable.not_not] at hb11_6
                  exfalso
                  omega
                · try (exfalso; first | (simp at hb11_6; done) | (simp only [decide_eq_true_eq, decide_eq_false_iff_not, Bool.not_eq_true', Bool.not_eq_false', Bool.not_eq_true, Bool.not_eq_false] at hb11_6; omega) | omega)
                  all_goals
                   try simp only [decide_eq_true_eq, decide_eq_false_iff_not, Bool.not_eq_true', Bool.not_eq_false', Bool.not_eq_true, Bool.not_eq_false, Option.isNone_none, Option.isNone_some, Option.isSome_none, Option.isSome_some, ne_eq, Decidable.not_not] at hb11_6
                   refine WL.val rfl rfl rfl rfl (r_move rfl (ev_t rfl)) ?_
                   refine WL.val rfl rfl rfl rfl (r_move rfl (ev_t rfl)) ?_
                   refine WL.val rfl rfl rfl rfl (r_lenSlice (ts := #[]) rfl (ev_t rfl) elem_30) ?_
                   refine WL.val rfl rfl rfl rfl (r_mulN rfl ev_c (ev_t rfl) (by simp only [inK]; omega)) ?_
                   refine WL.val rfl rfl rfl rfl (r_convN rfl (ev_t rfl) some_3 int_32 (by simp only [inK]; omega)) ?_
                   refine WL.val rfl rfl rfl rfl (r_gtr rfl (ev_t rfl) (ev_t rfl)) ?_
                   refine WL.val rfl rfl rfl rfl (r_pickF rfl (ev_t rfl) (ev_t rfl)) ?_
                   refine WL.val rfl rfl rfl rfl (r_move rfl (ev_t rfl)) ?_
                   refine WL.cases 58 rfl (fun hb11_14 => ?_) (fun hb11_14 => ?_)
                   · try simp only [decide_eq_true_eq, decide_eq_false_iff_not, Bool.not_eq_true', Bool.not_eq_false', Bool.not_eq_true, Bool.not_eq_false, Option.isNone_none, Option.isNone_some, Option.isSome_none, Option.isSome_some, ne_eq, Decidable.not_not] at hb11_14
                     exfalso
                     omega
                   · try (exfalso; first | (simp at hb11_14; done) | (simp only [decide_eq_true_eq, decide_eq_false_iff_not, Bool.not_eq_true', Bool.not_eq_false', Bool.not_eq_true, Bool.not_eq_false] at hb11_14; omega) | omega)
                     all_goals
                      try simp only [decide_eq_true_eq, decide_eq_false_iff_not, Bool.not_eq_true', Bool.not_eq_false', Bool.not_eq_true, Bool.not_eq_false, Option.isNone_none, Option.isNone_some, Option.isSome_none, Option.isSome_some, ne_eq, Decidable.not_not] at hb11_14
                      refine WL.val rfl rfl rfl rfl (r_move rfl (ev_t rfl)) ?_
                      refine WL.val rfl rfl rfl rfl (r_move rfl (ev_t rfl)) ?_
                      refine WL.cons (SO.call (size_ok hr hgx hx64) rfl body_44 ⟨(ev_t rfl), (ev_t rfl), trivial⟩ rfl rfl rfl rfl ?_)
                      rintro v w3 ⟨rfl, hu3⟩
                      have hs3 := hu3.size
                      replace hU := hU.trans hu3 (by exact (fun _ _ h => h))
                      replace hr := hr.upd hu3 (fun k hk hl hS => by have h1 := hF k hk; exact (show False from hS).elim)
                      replace hb := hb.upd hu3 (fun hS => by exact (show False from hS))
                      replace hfl := hfl.upd hu3 (fun hS => by exact (show False from hS))
                      refine WL.val rfl rfl rfl rfl (r_move rfl (ev_t rfl)) ?_
                      refine WL.val rfl rfl rfl rfl (r_lenSlice (ts := #[]) rfl (ev_t rfl) elem_30) ?_
                      refine WL.val rfl rfl rfl rfl (r_move rfl (ev_t rfl)) ?_
                      refine WL.val rfl rfl rfl rfl (r_subN rfl (ev_t rfl) (ev_t rfl) (by simp only [inK]; omega)) ?_
                      refine WL.val rfl rfl rfl rfl (r_gtr rfl (ev_t rfl) (ev_t rfl)) ?_
                      refine WL.val rfl rfl rfl rfl (r_pickF rfl (ev_t rfl) (ev_t rfl)) ?_
                      refine WL.nil ?_
                      refine WX.keep [(1, _), (6, _), (8, _), (9, _), (67, _)] ⟨rfl, rfl, rfl, rfl, rfl, trivial⟩ ?_
                      refine WX.next ?_
                      refine WC.cond rfl (ev_t rfl) (fun hc11 => ?_) (fun hc11 => ?_)
                      · try simp only [decide_eq_true_eq, decide_eq_false_iff_not, Bool.not_eq_true', Bool.not_eq_false', Bool.not_eq_true, Bool.not_eq_false, Option.isNone_none, Option.isNone_some, Option.isSome_none, Option.isSome_some, ne_eq, Decidable.not_not] at hc11
                        exfalso
                        omega
                      · try (exfalso; first | (simp at hc11; done) | (simp only [decide_eq_true_eq, decide_eq_false_iff_not, Bool.not_eq_true', Bool.not_eq_false', Bool.not_eq_true, Bool.not_eq_false] at hc11; omega) | omega)
                        all_goals
                         try simp only [decide_eq_true_eq, decide_eq_false_iff_not, Bool.not_eq_true', Bool.not_eq_false', Bool.not_eq_true, Bool.not_eq_false, Option.isNone_none, Option.isNone_some, Option.isSome_none, Option.isSome_some, ne_eq, Decidable.not_not] at hc11
                         refine WC.skip ?_
                         refine WX.next ?_
                         refine WC.seq ?_
                         refine WC.region ?_
                         refine WL.val rfl rfl rfl rfl (r_move rfl (ev_t rfl)) ?_
                         refine WL.val rfl rfl rfl rfl (r_move rfl (ev_t rfl)) ?_
                         refine WL.val rfl rfl rfl rfl (r_indexAddr rfl (ev_t rfl) (ev_t rfl) elem_93 size_4 (by omega) (by omega)) ?_
                         refine WL.cons (SO.store rfl (ev_t rfl) ev_c size_4 hfl (by rw [Nat.blt_eq]; simp [hFL.1]; omega) rfl rfl rfl rfl ?_)
                         intro w4 hu4 hfl2 hz3
                         rw [show 0 + (m : Int).toNat * 1 = m by omega, flRow_set] at hfl2
                         have hs4 := hu4.size
                         replace hU := hU.trans hu4 (by (intro k hl hk; (try simp only [At, New, Grow, From, No] at hk ⊢); omega))
                         replace hr := hr.upd hu4 (fun k hk hl hS => by have h1 := hF k hk; (simp only [At] at hS; omega))
                         replace hb := hb.upd hu4 (fun hS => by (simp only [At] at hS; omega))
                         have hfl := hfl2
                         refine WL.nil ?_
                         refine WX.keep [(1, _), (6, _), (8, _), (9, _)] ⟨rfl, rfl, rfl, rfl, trivial⟩ ?_
                         refine WX.next ?_
                         refine WC.region ?_
                         refine WL.val rfl rfl rfl rfl (r_move rfl (ev_t rfl)) ?_
                         refine WL.val rfl rfl rfl rfl (r_move rfl (ev_t rfl)) ?_
                         refine WL.val rfl rfl rfl rfl (r_move rfl (ev_t rfl)) ?_
                         refine WL.cons (SO.call (size_ok hr hgx hx64) rfl body_44 ⟨(ev_t rfl), (ev_t rfl), trivial⟩ rfl rfl rfl rfl ?_)
                         rintro v w5 ⟨rfl, hu5⟩
                         have hs5 := hu5.size
                         replace hU := hU.trans hu5 (by exact (fun _ _ h => h))
                         replace hr := hr.upd hu5 (fun k hk hl hS => by have h1 := hF k hk; exact (show False from hS).elim)
                         replace hb := hb.upd hu5 (fun hS => by exact (show False from hS))
                         replace hfl := hfl.upd hu5 (fun hS => by exact (show False from hS))
                         refine WL.val rfl rfl rfl rfl (r_addN rfl (ev_t rfl) (ev_t rfl) (by simp only [inK]; omega)) ?_
                         refine WL.val rfl rfl rfl rfl (r_assign rfl (ev_t rfl)) ?_
                         refine WL.nil ?_
                         refine WX.keep [(1, _), (6, _), (8, _), (9, _)] ⟨rfl, rfl, rfl, rfl, trivial⟩ ?_
                         refine WX.blockNormal ?_
                         refine WX.meet [(1, _), (6, _), (8, _), (9, _)] ⟨rfl, rfl, rfl, rfl, trivial⟩ ?_
                         have ew : IntKind.i64.wrap ((m : Int) + ((szO x : Nat) : Int)) = ((m + szAt l m : Nat) : Int) := by rw [wrap_i64_in (by omega) (by omega)]; omega
                         refine ⟨l.length - (m + szAt l m), by omega, m + szAt l m, k + 1, _, by omega, rfl, by rw [hdr2]; exact hTn, hkl2, by rw [take_get hk]; exact hFL.snoc hml, hU, hr, hb, hfl, ?_⟩
                         first
                           | (rw [hsz]; rfl)
          · try (exfalso; first | (simp at hc8; done) | (simp only [decide_eq_true_eq, decide_eq_false_iff_not, Bool.not_eq_true', Bool.not_eq_false', Bool.not_eq_true, Bool.not_eq_false] at hc8; omega) | omega)
            all_goals
             try simp only [decide_eq_true_eq, decide_eq_false_iff_not, Bool.not_eq_true', Bool.not_eq_false', Bool.not_eq_true, Bool.not_eq_false, Option.isNone_none, Option.isNone_some, Option.isSome_none, Option.isSome_some, ne_eq, Decidable.not_not] at hc8
             refine WC.exit ?_
             refine WX.thenExit ?_
             refine WX.thenExit ?_
             refine WX.blockHere ?_
             refine WX.next ?_
             refine WC.seq ?_
             refine WC.seq ?_
             obtain rfl : m = l.length := by omega
             have hks : st.drop k = [] := by
               cases hd : st.drop k with
               | nil => rfl
               | cons b r =>
                 rw [hd] at hTm
                 obtain ⟨rfl, h1, _⟩ := hTm
                 have := szAt_pos l l.length
                 omega
             rw [List.take_of_length_le (List.drop_eq_nil_iff.1 hks)] at hFL
             refine WC.region ?_
             refine WL.val rfl rfl rfl rfl (r_assign rfl ev_c) ?_
             refine WL.nil ?_
             refine WX.keep [(1, _), (6, _), (8, _), (12, _)] ⟨rfl, rfl, rfl, rfl, trivial⟩ ?_
             refine WX.next ?_
             refine WC.block ?_
             -- loop 2: live [1, 6, 8, 12]
             refine WC.keep [(1, _), (6, _), (8, _), (12, _)] ⟨rfl, rfl, rfl, rfl, trivial⟩ ?_
             refine WC.loop (fun qq E wC => ∃ (m k : Nat), m ≤ l.length ∧ qq = l.length - m ∧ Tile l m (st.drop k) ∧ Upd No w wC ∧ Rd wC F (.slice A l.length c) l.length 1 (l.map Wd) ∧ Blk wC p #[.slice none 0 0, .int .i64 5000, .int .i64 0] 79 ∧ Blk wC bF (fl.map Value.bool).toArray 4 ∧ E = [(1, .slice A l.length c), (6, .pointer (some ⟨p, 0, none⟩)), (8, .slice (some ⟨bF, 0, none⟩) l.length l.length), (12, .int .i64 (m : Int))]) (l.length) ?_ ?_
             · exact ⟨0, 0, by omega, by omega, hTl, hU, hr, hb, hfl, rfl⟩
             · clear hU hr hb hfl
               rintro qq E wC ⟨m, k2, hm, rfl, hTm2, hU, hr, hb, hfl, rfl⟩
               have hUs := hU.size
               have hbl := hfl.lt
               refine WC.seq ?_
               refine WC.seq ?_
               refine WC.region ?_
               refine WL.val rfl rfl rfl rfl (r_move rfl (ev_t rfl)) ?_
               refine WL.val rfl rfl rfl rfl (r_move rfl (ev_t rfl)) ?_
               refine WL.val rfl rfl rfl rfl (r_lenSlice (ts := #[]) rfl (ev_t rfl) elem_30) ?_
               refine WL.val rfl rfl rfl rfl (r_lss rfl (ev_t rfl) (ev_t rfl)) ?_
               refine WL.nil ?_
               refine WX.keep [(1, _), (6, _), (8, _), (12, _), (79, _)] ⟨rfl, rfl, rfl, rfl, rfl, trivial⟩ ?_
               refine WX.next ?_
               refine WC.cond rfl (ev_t rfl) (fun hc16 => ?_) (fun hc16 => ?_)
               · try (exfalso; first | (simp at hc16; done) | (simp only [decide_eq_true_eq, decide_eq_false_iff_not, Bool.not_eq_true', Bool.not_eq_false', Bool.not_eq_true, Bool.not_eq_false] at hc16; omega) | omega)
                 all_goals
                  try simp only [decide_eq_true_eq, decide_eq_false_iff_not, Bool.not_eq_true', Bool.not_eq_false', Bool.not_eq_true, Bool.not_eq_false, Option.isNone_none, Option.isNone_some, Option.isSome_none, Option.isSome_some, ne_eq, Decidable.not_not] at hc16
                  have hml : m < l.length := by omega
                  obtain ⟨rest, hdr, g1, hTn⟩ := hTm2.head_ hml
                  have hk : st[k2]? = some m := by rw [← List.head?_drop, hdr]; rfl
                  have hdr2 : st.drop (k2 + 1) = rest := by rw [← List.tail_drop, hdr]; rfl
                  have hms : m ∈ st := List.mem_of_getElem? hk
                  have hrefs := hg.vd.refs m hms
                  have hgx := getD_lt hml
                  have hx64 := hw _ (List.mem_of_getElem? hgx)
                  have hsz : szAt l m = szO (l.getD m 0) := rfl
                  have hszp := szAt_pos l m
                  obtain ⟨b0, off, rfl, _⟩ := hr.open (by omega)
                  generalize hxx : l.getD m 0 = x at *
                  refine WC.skip ?_
                  refine WX.next ?_
                  refine WC.seq ?_
                  refine WC.block ?_
                  refine WC.seq ?_
                  refine WC.region ?_
                  refine WL.val rfl rfl rfl rfl (r_assign rfl ev_c) ?_
                  refine WL.nil ?_
                  refine WX.keep [(1, _), (6, _), (8, _), (12, _), (13, _)] ⟨rfl, rfl, rfl, rfl, rfl, trivial⟩ ?_
                  refine WX.next ?_
                  refine WC.block ?_
                  -- loop 3: live [1, 6, 8, 12, 13]
                  refine WC.keep [(1, _), (6, _), (8, _), (12, _), (13, _)] ⟨rfl, rfl, rfl, rfl, rfl, trivial⟩ ?_
                  refine WC.loop (fun qq E wD => ∃ (i : Nat), i ≤ x / 256 ∧ qq = x / 256 - i ∧ Upd No w wD ∧ Rd wD F (.slice (some ⟨b0, off, none⟩) l.length c) l.length 1 (l.map Wd) ∧ Blk wD p #[.slice none 0 0, .int .i64 5000, .int .i64 0] 79 ∧ Blk wD bF (fl.map Value.bool).toArray 4 ∧ E = [(1, .slice (some ⟨b0, off, none⟩) l.length c), (6, .pointer (some ⟨p, 0, none⟩)), (8, .slice (some ⟨bF, 0, none⟩) l.length l.length), (12, .int .i64 (m : Int)), (13, .int .i64 (i : Int))]) (x / 256) ?_ ?_
                  · exact ⟨0, by omega, by omega, hU, hr, hb, hfl, rfl⟩
                  · clear hU hr hb hfl
                    rintro qq E wD ⟨i, hi, rfl, hU, hr, hb, hfl, rfl⟩
                    have hUs := hU.size
                    refine WC.seq ?_
                    refine WC.seq ?_
                    refine WC.region ?_
                    refine WL.val rfl rfl rfl rfl (r_move rfl (ev_t rfl)) ?_
                    refine WL.val rfl rfl rfl rfl (r_move rfl (ev_t rfl)) ?_
                    refine WL.val rfl rfl rfl rfl (r_indexAddr rfl (ev_t rfl) (ev_t rfl) elem_30 size_32 (by omega) (by omega)) ?_
                    refine WL.val rfl rfl rfl rfl (r_load rfl (ev_t rfl) flat_32 (hr.cell (j := m) (u := Wd x) (show off + (m : Int).toNat * 1 = off + m by omega) (by rw [List.getElem?_map, hgx]; rfl))) ?_
                    refine WL.val rfl rfl rfl rfl (r_conv rfl (ev_t rfl) some_32 int_5) ?_
                    rw [hd_k]
                    refine WL.val rfl rfl rfl rfl (r_neq rfl (ev_t rfl) ev_c) ?_
                    refine WL.val rfl rfl rfl rfl (r_move rfl (ev_t rfl)) ?_
                    refine WL.cases 91 rfl (fun hb19_6 => ?_) (fun hb19_6 => ?_)
                    · try (exfalso; first | (simp at hb19_6; done) | (simp only [decide_eq_true_eq, decide_eq_false_iff_not, Bool.not_eq_true', Bool.not_eq_false', Bool.not_eq_true, Bool.not_eq_false] at hb19_6; omega) | omega)
                      all_goals
                       try simp only [decide_eq_true_eq, decide_eq_false_iff_not, Bool.not_eq_true', Bool.not_eq_false', Bool.not_eq_true, Bool.not_eq_false, Option.isNone_none, Option.isNone_some, Option.isSome_none, Option.isSome_some, ne_eq, Decidable.not_not] at hb19_6
                       refine WL.val rfl rfl rfl rfl (r_move rfl (ev_t rfl)) ?_
                       refine WL.val rfl rfl rfl rfl (r_move rfl (ev_t rfl)) ?_
                       refine WL.val rfl rfl rfl rfl (r_move rfl (ev_t rfl)) ?_
                       refine WL.val rfl rfl rfl rfl (r_indexAddr rfl (ev_t rfl) (ev_t rfl) elem_30 size_32 (by omega) (by omega)) ?_
                       refine WL.val rfl rfl rfl rfl (r_load rfl (ev_t rfl) flat_32 (hr.cell (j := m) (u := Wd x) (show off + (m : Int).toNat * 1 = off + m by omega) (by rw [List.getElem?_map, hgx]; rfl))) ?_
                       refine WL.val rfl rfl rfl rfl (r_shr rfl (ev_t rfl) ev_c (by omega) (by simp only [IntKind.bits]; omega)) ?_
                       refine WL.val rfl rfl rfl rfl (r_conv rfl (ev_t rfl) some_32 int_3) ?_
                       rw [hd_n hx64]
                       refine WL.val rfl rfl rfl rfl (r_lss rfl (ev_t rfl) (ev_t rfl)) ?_
                       refine WL.val rfl rfl rfl rfl (r_pickT rfl (ev_t rfl) (ev_t rfl)) ?_
                       refine WL.nil ?_
                       refine WX.keep [(1, _), (6, _), (8, _), (12, _), (13, _), (100, _)] ⟨rfl, rfl, rfl, rfl, rfl, rfl, trivial⟩ ?_
                       refine WX.next ?_
                       refine WC.cond rfl (ev_t rfl) (fun hc19 => ?_) (fun hc19 => ?_)
                       · try (exfalso; first | (simp at hc19; done) | (simp only [decide_eq_true_eq, decide_eq_false_iff_not, Bool.not_eq_true', Bool.not_eq_false', Bool.not_eq_true, Bool.not_eq_false] at hc19; omega) | omega)
                         all_goals
                          try simp only [decide_eq_true_eq, decide_eq_false_iff_not, Bool.not_eq_true', Bool.not_eq_false', Bool.not_eq_true, Bool.not_eq_false, Option.isNone_none, Option.isNone_some, Option.isSome_none, Option.isSome_some, ne_eq, Decidable.not_not] at hc19
                          have hik : x % 256 ≠ 3 ∧ i < x / 256 := by first
                            | omega
                            | (simp_all; omega)
                          obtain ⟨hpi, hpi2⟩ := parts_get (old := l) (a := m) (i := i) (by rw [hxx]; exact hik.1) (by rw [hxx]; exact hik.2) g1
                          have hyr := hrefs _ (List.mem_of_getElem? hpi)
                          have hgy := getD_lt (l := l) (i := m + 1 + i) (by omega)
                          have hy64 := hw _ (List.mem_of_getElem? hgy)
                          generalize hyy : l.getD (m + 1 + i) 0 = y at *
                          refine WC.skip ?_
                          refine WX.next ?_
                          refine WC.seq ?_
                          refine WC.block ?_
                          refine WC.seq ?_
                          refine WC.region ?_
                          refine WL.val rfl rfl rfl rfl (r_move rfl (ev_t rfl)) ?_
                          refine WL.val rfl rfl rfl rfl (r_move rfl (ev_t rfl)) ?_
                          refine WL.val rfl rfl rfl rfl (r_addN rfl (ev_t rfl) ev_c (by simp only [inK]; omega)) ?_
                          refine WL.val rfl rfl rfl rfl (r_move rfl (ev_t rfl)) ?_
                          refine WL.val rfl rfl rfl rfl (r_addN rfl (ev_t rfl) (ev_t rfl) (by simp only [inK]; omega)) ?_
                          refine WL.val rfl rfl rfl rfl (r_indexAddr rfl (ev_t rfl) (ev_t rfl) elem_30 size_32 (by omega) (by omega)) ?_
                          refine WL.val rfl rfl rfl rfl (r_load rfl (ev_t rfl) flat_32 (hr.cell (j := m + 1 + i) (u := Wd y) (show off + ((m : Int) + 1 + (i : Int)).toNat * 1 = off + (m + 1 + i) by omega) (by rw [List.getElem?_map, hgy]; rfl))) ?_
                          refine WL.val rfl rfl rfl rfl (r_assign rfl (ev_t rfl)) ?_
                          refine WL.nil ?_
                          refine WX.keep [(1, _), (6, _), (8, _), (12, _), (13, _), (14, _)] ⟨rfl, rfl, rfl, rfl, rfl, rfl, trivial⟩ ?_
                          refine WX.next ?_
                          refine WC.seq ?_
                          refine WC.region ?_
                          refine WL.val rfl rfl rfl rfl (r_move rfl (ev_t rfl)) ?_
                          refine WL.cons (SO.call (isNum_ok hy64) rfl body_19 ⟨(ev_t rfl), trivial⟩ rfl rfl rfl rfl ?_)
                          rintro v w6 ⟨rfl, rfl⟩
                          refine WL.val rfl rfl rfl rfl (r_not rfl (ev_t rfl)) ?_
                          refine WL.val rfl rfl rfl rfl (r_move rfl (ev_t rfl)) ?_
                          refine WL.cases 113 rfl (fun hb22_3 => ?_) (fun hb22_3 => ?_)
                          · try (exfalso; first | (simp at hb22_3; done) | (simp only [decide_eq_true_eq, decide_eq_false_iff_not, Bool.not_eq_true', Bool.not_eq_false', Bool.not_eq_true, Bool.not_eq_false] at hb22_3; omega) | omega)
                            all_goals
                             try simp only [decide_eq_true_eq, decide_eq_false_iff_not, Bool.not_eq_true', Bool.not_eq_false', Bool.not_eq_true, Bool.not_eq_false, Option.isNone_none, Option.isNone_some, Option.isSome_none, Option.isSome_some, ne_eq, Decidable.not_not] at hb22_3
                             have hye : y / 2 ∈ st := by
                               rcases hyr with h | h
                               · simp [h] at hb22_3
                               · exact h
                             have hyl := (hg.vd.in hye).1
                             refine WL.val rfl rfl rfl rfl (r_move rfl (ev_t rfl)) ?_
                             refine WL.val rfl rfl rfl rfl (r_shr rfl (ev_t rfl) ev_c (by omega) (by simp only [IntKind.bits]; omega)) ?_
                             try rw [half_u64]
                             refine WL.val rfl rfl rfl rfl (r_move rfl (ev_t rfl)) ?_
                             refine WL.val rfl rfl rfl rfl (r_lenSlice (ts := #[]) rfl (ev_t rfl) elem_30) ?_
                             refine WL.val rfl rfl rfl rfl (r_convN rfl (ev_t rfl) some_3 int_32 (by simp only [inK]; omega)) ?_
                             refine WL.val rfl rfl rfl rfl (r_geq rfl (ev_t rfl) (ev_t rfl)) ?_
                             refine WL.val rfl rfl rfl rfl (r_move rfl (ev_t rfl)) ?_
                             refine WL.cases 120 rfl (fun hb22_10 => ?_) (fun hb22_10 => ?_)
                             · try simp only [decide_eq_true_eq, decide_eq_false_iff_not, Bool.not_eq_true', Bool.not_eq_false', Bool.not_eq_true, Bool.not_eq_false, Option.isNone_none, Option.isNone_some, Option.isSome_none, Option.isSome_some, ne_eq, Decidable.not_not] at hb22_10
                               exfalso
                               omega
                             · try (exfalso; first | (simp at hb22_10; done) | (simp only [decide_eq_true_eq, decide_eq_false_iff_not, Bool.not_eq_true', Bool.not_eq_false', Bool.not_eq_true, Bool.not_eq_false] at hb22_10; omega) | omega)
                               all_goals
                                try simp only [decide_eq_true_eq, decide_eq_false_iff_not, Bool.not_eq_true', Bool.not_eq_false', Bool.not_eq_true, Bool.not_eq_false, Option.isNone_none, Option.isNone_some, Option.isSome_none, Option.isSome_some, ne_eq, Decidable.not_not] at hb22_10
                                refine WL.val rfl rfl rfl rfl (r_move rfl (ev_t rfl)) ?_
                                refine WL.val rfl rfl rfl rfl (r_move rfl (ev_t rfl)) ?_
                                refine WL.val rfl rfl rfl rfl (r_shr rfl (ev_t rfl) ev_c (by omega) (by simp only [IntKind.bits]; omega)) ?_
                                try rw [half_u64]
                                refine WL.val rfl rfl rfl rfl (r_indexAddr rfl (ev_t rfl) (ev_t rfl) elem_93 size_4 (by omega) (by omega)) ?_
                                refine WL.val rfl rfl rfl rfl (r_load rfl (ev_t rfl) flat_4 (Blk.cell hfl (by rw [show 0 + ((y / 2 : Nat) : Int).toNat * 1 = y / 2 by omega, List.getElem?_toArray, List.getElem?_map, hFL.2 _ (by omega)]; rfl))) ?_
                                refine WL.val rfl rfl rfl rfl (r_not rfl (ev_t rfl)) ?_
                                refine WL.val rfl rfl rfl rfl (r_pickF rfl (ev_t rfl) (ev_t rfl)) ?_
                                refine WL.val rfl rfl rfl rfl (r_pickT rfl (ev_t rfl) (ev_t rfl)) ?_
                                refine WL.nil ?_
                                refine WX.keep [(1, _), (6, _), (8, _), (12, _), (13, _), (128, _)] ⟨rfl, rfl, rfl, rfl, rfl, rfl, trivial⟩ ?_
                                refine WX.next ?_
                                refine WC.cond rfl (ev_t rfl) (fun hc22 => ?_) (fun hc22 => ?_)
                                · try simp only [decide_eq_true_eq, decide_eq_false_iff_not, Bool.not_eq_true', Bool.not_eq_false', Bool.not_eq_true, Bool.not_eq_false, Option.isNone_none, Option.isNone_some, Option.isSome_none, Option.isSome_some, ne_eq, Decidable.not_not] at hc22
                                  exfalso
                                  first
                                    | (simp [hye] at hc22; done)
                                · try (exfalso; first | (simp at hc22; done) | (simp only [decide_eq_true_eq, decide_eq_false_iff_not, Bool.not_eq_true', Bool.not_eq_false', Bool.not_eq_true, Bool.not_eq_false] at hc22; omega) | omega)
                                  all_goals
                                   try simp only [decide_eq_true_eq, decide_eq_false_iff_not, Bool.not_eq_true', Bool.not_eq_false', Bool.not_eq_true, Bool.not_eq_false, Option.isNone_none, Option.isNone_some, Option.isSome_none, Option.isSome_some, ne_eq, Decidable.not_not] at hc22
                                   refine WC.skip ?_
                                   refine WX.blockNormal ?_
                                   refine WX.next ?_
                                   refine WC.region ?_
                                   refine WL.val rfl rfl rfl rfl (r_move rfl (ev_t rfl)) ?_
                                   refine WL.val rfl rfl rfl rfl (r_addN rfl (ev_t rfl) ev_c (by simp only [inK]; omega)) ?_
                                   refine WL.val rfl rfl rfl rfl (r_assign rfl (ev_t rfl)) ?_
                                   refine WL.nil ?_
                                   refine WX.keep [(1, _), (6, _), (8, _), (12, _), (13, _)] ⟨rfl, rfl, rfl, rfl, rfl, trivial⟩ ?_
                                   refine WX.meet [(1, _), (6, _), (8, _), (12, _), (13, _)] ⟨rfl, rfl, rfl, rfl, rfl, trivial⟩ ?_
                                   exact ⟨x / 256 - (i + 1), by omega, i + 1, by omega, rfl, hU, hr, hb, hfl, rfl⟩
                          · try (exfalso; first | (simp at hb22_3; done) | (simp only [decide_eq_true_eq, decide_eq_false_iff_not, Bool.not_eq_true', Bool.not_eq_false', Bool.not_eq_true, Bool.not_eq_false] at hb22_3; omega) | omega)
                            all_goals
                             try simp only [decide_eq_true_eq, decide_eq_false_iff_not, Bool.not_eq_true', Bool.not_eq_false', Bool.not_eq_true, Bool.not_eq_false, Option.isNone_none, Option.isNone_some, Option.isSome_none, Option.isSome_some, ne_eq, Decidable.not_not] at hb22_3
                             refine WL.skip rfl rfl rfl ?_
                             refine WL.skip rfl rfl rfl ?_
                             refine WL.skip rfl rfl rfl ?_
                             refine WL.skip rfl rfl rfl ?_
                             refine WL.skip rfl rfl rfl ?_
                             refine WL.skip rfl rfl rfl ?_
                             refine WL.skip rfl rfl rfl ?_
                             refine WL.skip rfl rfl rfl ?_
                             refine WL.skip rfl rfl rfl ?_
                             refine WL.skip rfl rfl rfl ?_
                             refine WL.skip rfl rfl rfl ?_
                             refine WL.skip rfl rfl rfl ?_
                             refine WL.skip rfl rfl rfl ?_
                             refine WL.skip rfl rfl rfl ?_
                             refine WL.val rfl rfl rfl rfl (r_pickF rfl (ev_t rfl) ev_c) ?_
                             refine WL.nil ?_
                             refine WX.keep [(1, _), (6, _), (8, _), (12, _), (13, _), (128, _)] ⟨rfl, rfl, rfl, rfl, rfl, rfl, trivial⟩ ?_
                             refine WX.next ?_
                             refine WC.cond_false rfl (ev_t rfl) ?_
                             refine WC.skip ?_
                             refine WX.blockNormal ?_
                             refine WX.next ?_
                             refine WC.region ?_
                             refine WL.val rfl rfl rfl rfl (r_move rfl (ev_t rfl)) ?_
                             refine WL.val rfl rfl rfl rfl (r_addN rfl (ev_t rfl) ev_c (by simp only [inK]; omega)) ?_
                             refine WL.val rfl rfl rfl rfl (r_assign rfl (ev_t rfl)) ?_
                             refine WL.nil ?_
                             refine WX.keep [(1, _), (6, _), (8, _), (12, _), (13, _)] ⟨rfl, rfl, rfl, rfl, rfl, trivial⟩ ?_
                             refine WX.meet [(1, _), (6, _), (8, _), (12, _), (13, _)] ⟨rfl, rfl, rfl, rfl, rfl, trivial⟩ ?_
                             exact ⟨x / 256 - (i + 1), by omega, i + 1, by omega, rfl, hU, hr, hb, hfl, rfl⟩
                       · try (exfalso; first | (simp at hc19; done) | (simp only [decide_eq_true_eq, decide_eq_false_iff_not, Bool.not_eq_true', Bool.not_eq_false', Bool.not_eq_true, Bool.not_eq_false] at hc19; omega) | omega)
                         all_goals
                          try simp only [decide_eq_true_eq, decide_eq_false_iff_not, Bool.not_eq_true', Bool.not_eq_false', Bool.not_eq_true, Bool.not_eq_false, Option.isNone_none, Option.isNone_some, Option.isSome_none, Option.isSome_some, ne_eq, Decidable.not_not] at hc19
                          refine WC.exit ?_
                          refine WX.thenExit ?_
                          refine WX.thenExit ?_
                          refine WX.blockHere ?_
                          refine WX.blockNormal ?_
                          refine WX.next ?_
                          refine WC.region ?_
                          refine WL.val rfl rfl rfl rfl (r_move rfl (ev_t rfl)) ?_
                          refine WL.val rfl rfl rfl rfl (r_move rfl (ev_t rfl)) ?_
                          refine WL.val rfl rfl rfl rfl (r_move rfl (ev_t rfl)) ?_
                          refine WL.cons (SO.call (size_ok hr hgx hx64) rfl body_44 ⟨(ev_t rfl), (ev_t rfl), trivial⟩ rfl rfl rfl rfl ?_)
                          rintro v w7 ⟨rfl, hu7⟩
                          have hs7 := hu7.size
                          replace hU := hU.trans hu7 (by exact (fun _ _ h => h))
                          replace hr := hr.upd hu7 (fun k hk hl hS => by have h1 := hF k hk; exact (show False from hS).elim)
                          replace hb := hb.upd hu7 (fun hS => by exact (show False from hS))
                          replace hfl := hfl.upd hu7 (fun hS => by exact (show False from hS))
                          refine WL.val rfl rfl rfl rfl (r_addN rfl (ev_t rfl) (ev_t rfl) (by simp only [inK]; omega)) ?_
                          refine WL.val rfl rfl rfl rfl (r_assign rfl (ev_t rfl)) ?_
                          refine WL.nil ?_
                          refine WX.keep [(1, _), (6, _), (8, _), (12, _)] ⟨rfl, rfl, rfl, rfl, trivial⟩ ?_
                          refine WX.meet [(1, _), (6, _), (8, _), (12, _)] ⟨rfl, rfl, rfl, rfl, trivial⟩ ?_
                          have ew : IntKind.i64.wrap ((m : Int) + ((szO x : Nat) : Int)) = ((m + szAt l m : Nat) : Int) := by rw [wrap_i64_in (by omega) (by omega)]; omega
                          refine ⟨l.length - (m + szAt l m), by omega, m + szAt l m, k2 + 1, by omega, rfl, by rw [hdr2]; exact hTn, hU, hr, hb, hfl, ?_⟩
                          first
                            | (rw [hsz]; rfl)
                    · try (exfalso; first | (simp at hb19_6; done) | (simp only [decide_eq_true_eq, decide_eq_false_iff_not, Bool.not_eq_true', Bool.not_eq_false', Bool.not_eq_true, Bool.not_eq_false] at hb19_6; omega) | omega)
                      all_goals
                       try simp only [decide_eq_true_eq, decide_eq_false_iff_not, Bool.not_eq_true', Bool.not_eq_false', Bool.not_eq_true, Bool.not_eq_false, Option.isNone_none, Option.isNone_some, Option.isSome_none, Option.isSome_some, ne_eq, Decidable.not_not] at hb19_6
                       refine WL.skip rfl rfl rfl ?_
                       refine WL.skip rfl rfl rfl ?_
                       refine WL.skip rfl rfl rfl ?_
                       refine WL.skip rfl rfl rfl ?_
                       refine WL.skip rfl rfl rfl ?_
                       refine WL.skip rfl rfl rfl ?_
                       refine WL.skip rfl rfl rfl ?_
                       refine WL.skip rfl rfl rfl ?_
                       refine WL.val rfl rfl rfl rfl (r_pickF rfl (ev_t rfl) ev_c) ?_
                       refine WL.nil ?_
                       refine WX.keep [(1, _), (6, _), (8, _), (12, _), (13, _), (100, _)] ⟨rfl, rfl, rfl, rfl, rfl, rfl, trivial⟩ ?_
                       refine WX.next ?_
                       refine WC.cond_false rfl (ev_t rfl) ?_
                       refine WC.exit ?_
                       refine WX.thenExit ?_
                       refine WX.thenExit ?_
                       refine WX.blockHere ?_
                       refine WX.blockNormal ?_
                       refine WX.next ?_
                       refine WC.region ?_
                       refine WL.val rfl rfl rfl rfl (r_move rfl (ev_t rfl)) ?_
                       refine WL.val rfl rfl rfl rfl (r_move rfl (ev_t rfl)) ?_
                       refine WL.val rfl rfl rfl rfl (r_move rfl (ev_t rfl)) ?_
                       refine WL.cons (SO.call (size_ok hr hgx hx64) rfl body_44 ⟨(ev_t rfl), (ev_t rfl), trivial⟩ rfl rfl rfl rfl ?_)
                       rintro v w8 ⟨rfl, hu8⟩
                       have hs8 := hu8.size
                       replace hU := hU.trans hu8 (by exact (fun _ _ h => h))
                       replace hr := hr.upd hu8 (fun k hk hl hS => by have h1 := hF k hk; exact (show False from hS).elim)
                       replace hb := hb.upd hu8 (fun hS => by exact (show False from hS))
                       replace hfl := hfl.upd hu8 (fun hS => by exact (show False from hS))
                       refine WL.val rfl rfl rfl rfl (r_addN rfl (ev_t rfl) (ev_t rfl) (by simp only [inK]; omega)) ?_
                       refine WL.val rfl rfl rfl rfl (r_assign rfl (ev_t rfl)) ?_
                       refine WL.nil ?_
                       refine WX.keep [(1, _), (6, _), (8, _), (12, _)] ⟨rfl, rfl, rfl, rfl, trivial⟩ ?_
                       refine WX.meet [(1, _), (6, _), (8, _), (12, _)] ⟨rfl, rfl, rfl, rfl, trivial⟩ ?_
                       have ew : IntKind.i64.wrap ((m : Int) + ((szO x : Nat) : Int)) = ((m + szAt l m : Nat) : Int) := by rw [wrap_i64_in (by omega) (by omega)]; omega
                       refine ⟨l.length - (m + szAt l m), by omega, m + szAt l m, k2 + 1, by omega, rfl, by rw [hdr2]; exact hTn, hU, hr, hb, hfl, ?_⟩
                       first
                         | (rw [hsz]; rfl)
               · try (exfalso; first | (simp at hc16; done) | (simp only [decide_eq_true_eq, decide_eq_false_iff_not, Bool.not_eq_true', Bool.not_eq_false', Bool.not_eq_true, Bool.not_eq_false] at hc16; omega) | omega)
                 all_goals
                  try simp only [decide_eq_true_eq, decide_eq_false_iff_not, Bool.not_eq_true', Bool.not_eq_false', Bool.not_eq_true, Bool.not_eq_false, Option.isNone_none, Option.isNone_some, Option.isSome_none, Option.isSome_some, ne_eq, Decidable.not_not] at hc16
                  refine WC.exit ?_
                  refine WX.thenExit ?_
                  refine WX.thenExit ?_
                  refine WX.blockHere ?_
                  refine WX.next ?_
                  refine WC.seq ?_
                  have hpl3 := hb.lt
                  refine WC.region ?_
                  refine WL.val rfl rfl rfl rfl (r_move rfl (ev_t rfl)) ?_
                  refine WL.val rfl rfl rfl rfl (r_move rfl (ev_t rfl)) ?_
                  refine WL.val rfl rfl rfl rfl (r_nilCheck rfl (ev_t rfl)) ?_
                  refine WL.val rfl rfl rfl rfl (r_field0 rfl (ev_t rfl) fld_79_0) ?_
                  refine WL.val rfl rfl rfl rfl (r_load rfl (ev_t rfl) flat_30 (Blk.cell hb rfl)) ?_
                  refine WL.val rfl rfl rfl rfl (r_move rfl (ev_t rfl)) ?_
                  refine WL.cons (SO.append (Own.nil _ No _ _) hr row_30 (fun u hu => by obtain ⟨x, _, rfl⟩ := List.mem_map.1 hu; rfl) (le_maxLen (by omega)) (by omega) rfl (ev_t rfl) (ev_t rfl) rfl rfl rfl rfl ?_)
                  intro v9 w9 how hu9
                  have hs9 := hu9.size
                  replace hU := hU.trans hu9 (by exact (fun _ _ h => h))
                  replace hr := hr.upd hu9 (fun k hk hl hS => by have h1 := hF k hk; exact (show False from hS).elim)
                  replace hb := hb.upd hu9 (fun hS => by exact (show False from hS))
                  replace hfl := hfl.upd hu9 (fun hS => by exact (show False from hS))
                  obtain ⟨A9, c9, rfl, hc9⟩ := Own.form how
                  simp only [Nat.zero_add, List.nil_append] at how ⊢
                  refine WL.val rfl rfl rfl rfl (r_nilCheck rfl (ev_t rfl)) ?_
                  refine WL.val rfl rfl rfl rfl (r_field0 rfl (ev_t rfl) fld_79_0) ?_
                  refine WL.cons (SO.store rfl (ev_t rfl) (ev_t rfl) size_30 hb rfl rfl rfl rfl rfl ?_)
                  intro w10 hu10 hb hz10
                  have hs10 := hu10.size
                  replace hU := hU.trans hu10 (by (intro k hl hk; (try simp only [At, New, Grow, From, No] at hk ⊢); omega))
                  replace hr := hr.upd hu10 (fun k hk hl hS => by have h1 := hF k hk; (simp only [At] at hS; omega))
                  replace hfl := hfl.upd hu10 (fun hS => by (simp only [At] at hS; omega))
                  replace how := how.upd hu10 (fun k hk hl hS => by (rcases hk with hk | hk; exact hk.elim; simp only [At] at hS; omega))
                  refine WL.nil ?_
                  refine WX.keep [(6, _)] ⟨rfl, trivial⟩ ?_
                  refine WX.next ?_
                  refine WC.seq ?_
                  refine WC.region ?_
                  refine WL.val rfl rfl rfl rfl (r_move rfl (ev_t rfl)) ?_
                  refine WL.val rfl rfl rfl rfl (r_assign rfl (ev_t rfl)) ?_
                  refine WL.val rfl rfl rfl rfl (r_assign rfl ev_c) ?_
                  refine WL.nil ?_
                  refine WX.keep [(4, _), (5, _)] ⟨rfl, rfl, trivial⟩ ?_
                  refine WX.next ?_
                  refine WC.ret ?_
                  refine WX.retE2 rfl rfl rfl ?_
                  refine ⟨_, p, _, _, rfl, ⟨hb, how.bound, ?_, fun k hk => hk.2, ⟨by omega, by omega⟩, by omega⟩, by omega, ?_, hU⟩
                  · intro h
                    rcases h.1 with h | h
                    · exact h
                    · omega
                  · intro k h
                    rcases h.1 with h | h
                    · exact h.elim
                    · have := hU.size; omega
end Go.Proofs.YtdpnnclkkbfihaaDoor
