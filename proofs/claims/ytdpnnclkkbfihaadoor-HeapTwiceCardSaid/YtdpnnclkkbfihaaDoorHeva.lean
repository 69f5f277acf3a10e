/-
  The reference's heap: At.
-/
import Derived.Test.YtdpnnclkkbfihaaDoorHeZ
namespace Go.Proofs.YtdpnnclkkbfihaaDoor
open Go
set_option linter.unusedSimpArgs false
set_option linter.unusedVariables false

/-- the bytes of a text that stands at a place -/
def textB (l : List Nat) (a : Nat) : List UInt8 := if l.getD a 0 % 256 = 3 then (List.range (l.getD a 0 / 256)).map (fun i => UInt8.ofNat (l.getD (a + 1 + i / 8) 0 / 256 ^ (i % 8) % 256)) else []
theorem textB_len {l : List Nat} {a : Nat} (h : l.getD a 0 % 256 = 3) : (textB l a).length = l.getD a 0 / 256 := by unfold textB; rw [if_pos h]; simp
theorem textB_get {l : List Nat} {a i j : Nat} (h : l.getD a 0 % 256 = 3) (hj : j < 8) (hi : 8 * i + j < l.getD a 0 / 256) : (textB l a)[8 * i + j]? = some (UInt8.ofNat (l.getD (a + 1 + i) 0 / 256 ^ j % 256)) := by
  unfold textB
  rw [if_pos h, List.getElem?_map, List.getElem?_range hi]
  simp only [Option.map_some]
  rw [show (8 * i + j) / 8 = i by omega, show (8 * i + j) % 8 = j by omega]
theorem tdiv_wrap {z : Nat} (h : z < 18446744073709551616) : IntKind.u64.wrap ((z : Int).tdiv 256) = ((z / 256 : Nat) : Int) := by
  rw [show (z : Int).tdiv 256 = ((z / 256 : Nat) : Int) from rfl, wrap_u64]
  omega
def validAt (l : List Nat) (a : Nat) : Prop := a < l.length ∧ 1 ≤ l.getD a 0 % 256 ∧ l.getD a 0 % 256 ≤ 6 ∧ l.getD a 0 / 256 ≤ 8 * l.length ∧ a + szAt l a ≤ l.length
/-- what At answers -/
def AtR (w w' : World) (l : List Nat) (a : Nat) (v : Value) : Prop :=
  ∃ (kd n : Nat) (vP : Value) (ps : List Nat) (s : List UInt8), v = .tuple #[.agg #[.int .u8 (kd : Int), vP, .string ⟨s.toArray⟩], .int .i64 (n : Int)] ∧ Own w' (New w w') 31 1 vP ps.length (ps.map Wd) ∧ Upd No w w' ∧
    ((¬ validAt l a ∧ n = 0) ∨ (validAt l a ∧ n = szAt l a ∧ kd = l.getD a 0 % 256 ∧ ps = parts l a ∧ s = textB l a))
set_option maxHeartbeats 2000000 in
theorem at9_ok {w : World} {F : Nat → Prop} {A : Option Addr} {c a : Nat} {l : List Nat} (hr : Rd w F (.slice A l.length c) l.length 1 (l.map Wd)) (hl : l.length ≤ 1000000) (ha : a ≤ 1000000000) (hF : ∀ k, F k → k < w.heap.size) (hw : ∀ y ∈ l, y < 18446744073709551616) :
    Ret Tryd.prog 28 #[.slice A l.length c, .int .i64 (a : Int)] w fun v w' => AtR w w' l a v := by
  refine enterRet (vs := [_, _]) (N := 112) Tryd.func28 rfl rfl rfl ?_
  have hU := Upd.refl No w
  refine WC.keep [(0, _), (1, _)] ⟨rfl, rfl, trivial⟩ ?_
  refine WC.seq ?_
  refine WC.region ?_
  refine WL.cons (SO.alloc rfl rfl rfl rfl (r_alloc rfl zero_56) ?_)
  intro w1 hu1 hB1 hz1
  have hs1 := hu1.size
  replace hU := hU.trans hu1 (by first | exact (fun _ _ h => h) | exact (fun _ _ h => h.elim) | (intro k hl hk; (try simp only [At, New, Grow, From, No] at hk ⊢); omega) | (intro k hl hk; first | exact (show False from hk).elim | (simp only [At] at hk; omega) | (have h2 := hPn k hk; omega)))
  replace hr := hr.upd hu1 (fun k hk hl hS => by have h1 := hF k hk; first | exact (show False from hS).elim | (simp only [At] at hS; omega) | (have h2 := hPn k hS; omega))
  refine WL.val rfl rfl rfl rfl (r_assign rfl ev_c) ?_
  refine WL.nil ?_
  refine WX.keep [(0, _), (1, _), (4, _)] ⟨rfl, rfl, rfl, trivial⟩ ?_
  have hb4 := hB1
  generalize hb4e : w.heap.size = b4 at *
  refine WX.next ?_
  refine WC.seq ?_
  refine WC.seq ?_
  refine WC.region ?_
  refine WL.val rfl rfl rfl rfl (r_move rfl (ev_t rfl)) ?_
  refine WL.val rfl rfl rfl rfl (r_lss rfl (ev_t rfl) ev_c) ?_
  refine WL.val rfl rfl rfl rfl (r_move rfl (ev_t rfl)) ?_
  refine WL.cases 15 rfl (fun hb1_2 => ?_) (fun hb1_2 => ?_)
  · try (exfalso; first | (simp at hb1_2; done) | (simp only [decide_eq_true_eq, decide_eq_false_iff_not, Bool.not_eq_true', Bool.not_eq_false', Bool.not_eq_true, Bool.not_eq_false] at hb1_2; omega) | omega)
    all_goals
     try simp only [decide_eq_true_eq, decide_eq_false_iff_not, Bool.not_eq_true', Bool.not_eq_false', Bool.not_eq_true, Bool.not_eq_false, Option.isNone_none, Option.isNone_some, Option.isSome_none, Option.isSome_some, ne_eq, Decidable.not_not] at hb1_2
     refine WL.skip rfl rfl rfl ?_
     refine WL.skip rfl rfl rfl ?_
     refine WL.skip rfl rfl rfl ?_
     refine WL.skip rfl rfl rfl ?_
     refine WL.val rfl rfl rfl rfl (r_pickT rfl (ev_t rfl) ev_c) ?_
     refine WL.nil ?_
     refine WX.keep [(0, _), (1, _), (4, _), (20, _)] ⟨rfl, rfl, rfl, rfl, trivial⟩ ?_
     refine WX.next ?_
     refine WC.cond_true rfl (ev_t rfl) ?_
     refine WC.seq ?_
     refine WC.region ?_
     refine WL.val rfl rfl rfl rfl (r_build (cs := #[_, _, _]) (vs := []) rfl trivial plc_56 zero_56 rfl) ?_
     refine WL.cons (SO.storeAll (us := [_, _, _]) rfl (ev_t rfl) (ev_t rfl) size_56 hb4 rfl rfl rfl rfl rfl ?_)
     intro w2 hu2 hb4 hz2
     have hs2 := hu2.size
     replace hU := hU.trans hu2 (by first | exact (fun _ _ h => h) | exact (fun _ _ h => h.elim) | (intro k hl hk; (try simp only [At, New, Grow, From, No] at hk ⊢); omega) | (intro k hl hk; first | exact (show False from hk).elim | (simp only [At] at hk; omega) | (have h2 := hPn k hk; omega)))
     replace hr := hr.upd hu2 (fun k hk hl hS => by have h1 := hF k hk; first | exact (show False from hS).elim | (simp only [At] at hS; omega) | (have h2 := hPn k hS; omega))
     refine WL.val rfl rfl rfl rfl (r_assign rfl ev_c) ?_
     refine WL.nil ?_
     refine WX.keep [(4, _), (5, _)] ⟨rfl, rfl, trivial⟩ ?_
     refine WX.next ?_
     refine WC.ret ?_
     refine WX.thenRet ?_
     refine WX.retM (l := [.cell 4 56, .tmp 5]) (vs := [_, _]) rfl ⟨⟨_, [_, _, _], rfl, agg_56, size_56, (Blk.cellsL hb4), rfl⟩, ⟨rfl, trivial⟩⟩ ?_
     exact ⟨0, 0, _, [], [], rfl, Own.nil _ _ _ _, hU, .inl ⟨fun h => by have := h.1; omega, rfl⟩⟩
  · try (exfalso; first | (simp at hb1_2; done) | (simp only [decide_eq_true_eq, decide_eq_false_iff_not, Bool.not_eq_true', Bool.not_eq_false', Bool.not_eq_true, Bool.not_eq_false] at hb1_2; omega) | omega)
    all_goals
     try simp only [decide_eq_true_eq, decide_eq_false_iff_not, Bool.not_eq_true', Bool.not_eq_false', Bool.not_eq_true, Bool.not_eq_false, Option.isNone_none, Option.isNone_some, Option.isSome_none, Option.isSome_some, ne_eq, Decidable.not_not] at hb1_2
     refine WL.val rfl rfl rfl rfl (r_move rfl (ev_t rfl)) ?_
     refine WL.val rfl rfl rfl rfl (r_move rfl (ev_t rfl)) ?_
     refine WL.val rfl rfl rfl rfl (r_lenSlice (ts := #[]) rfl (ev_t rfl) elem_46) ?_
     refine WL.val rfl rfl rfl rfl (r_geq rfl (ev_t rfl) (ev_t rfl)) ?_
     refine WL.val rfl rfl rfl rfl (r_pickF rfl (ev_t rfl) (ev_t rfl)) ?_
     refine WL.nil ?_
     refine WX.keep [(0, _), (1, _), (4, _), (20, _)] ⟨rfl, rfl, rfl, rfl, trivial⟩ ?_
     refine WX.next ?_
     refine WC.cond rfl (ev_t rfl) (fun hc1 => ?_) (fun hc1 => ?_)
     · try (exfalso; first | (simp at hc1; done) | (simp only [decide_eq_true_eq, decide_eq_false_iff_not, Bool.not_eq_true', Bool.not_eq_false', Bool.not_eq_true, Bool.not_eq_false] at hc1; omega) | omega)
       all_goals
        try simp only [decide_eq_true_eq, decide_eq_false_iff_not, Bool.not_eq_true', Bool.not_eq_false', Bool.not_eq_true, Bool.not_eq_false, Option.isNone_none, Option.isNone_some, Option.isSome_none, Option.isSome_some, ne_eq, Decidable.not_not] at hc1
        refine WC.seq ?_
        refine WC.region ?_
        refine WL.val rfl rfl rfl rfl (r_build (cs := #[_, _, _]) (vs := []) rfl trivial plc_56 zero_56 rfl) ?_
        refine WL.cons (SO.storeAll (us := [_, _, _]) rfl (ev_t rfl) (ev_t rfl) size_56 hb4 rfl rfl rfl rfl rfl ?_)
        intro w3 hu3 hb4 hz3
        have hs3 := hu3.size
        replace hU := hU.trans hu3 (by first | exact (fun _ _ h => h) | exact (fun _ _ h => h.elim) | (intro k hl hk; (try simp only [At, New, Grow, From, No] at hk ⊢); omega) | (intro k hl hk; first | exact (show False from hk).elim | (simp only [At] at hk; omega) | (have h2 := hPn k hk; omega)))
        replace hr := hr.upd hu3 (fun k hk hl hS => by have h1 := hF k hk; first | exact (show False from hS).elim | (simp only [At] at hS; omega) | (have h2 := hPn k hS; omega))
        refine WL.val rfl rfl rfl rfl (r_assign rfl ev_c) ?_
        refine WL.nil ?_
        refine WX.keep [(4, _), (5, _)] ⟨rfl, rfl, trivial⟩ ?_
        refine WX.next ?_
        refine WC.ret ?_
        refine WX.thenRet ?_
        refine WX.retM (l := [.cell 4 56, .tmp 5]) (vs := [_, _]) rfl ⟨⟨_, [_, _, _], rfl, agg_56, size_56, (Blk.cellsL hb4), rfl⟩, ⟨rfl, trivial⟩⟩ ?_
        exact ⟨0, 0, _, [], [], rfl, Own.nil _ _ _ _, hU, .inl ⟨fun h => by have := h.1; omega, rfl⟩⟩
     · try (exfalso; first | (simp at hc1; done) | (simp only [decide_eq_true_eq, decide_eq_false_iff_not, Bool.not_eq_true', Bool.not_eq_false', Bool.not_eq_true, Bool.not_eq_false] at hc1; omega) | omega)
       all_goals
        try simp only [decide_eq_true_eq, decide_eq_false_iff_not, Bool.not_eq_true', Bool.not_eq_false', Bool.not_eq_true, Bool.not_eq_false, Option.isNone_none, Option.isNone_some, Option.isSome_none, Option.isSome_some, ne_eq, Decidable.not_not] at hc1
        have hal : a < l.length := by omega
        obtain ⟨b0, off, rfl, _⟩ := hr.open (by omega)
        have hgx := getD_lt hal
        have hx64 := hw _ (List.mem_of_getElem? hgx)
        generalize hxx : l.getD a 0 = x at *
        refine WC.skip ?_
        refine WX.next ?_
        refine WC.seq ?_
        refine WC.region ?_
        refine WL.val rfl rfl rfl rfl (r_move rfl (ev_t rfl)) ?_
        refine WL.val rfl rfl rfl rfl (r_move rfl (ev_t rfl)) ?_
        refine WL.val rfl rfl rfl rfl (r_indexAddr rfl (ev_t rfl) (ev_t rfl) elem_46 size_31 (by omega) (by omega)) ?_
        refine WL.val rfl rfl rfl rfl (r_load rfl (ev_t rfl) flat_31 (hr.cell (j := a) (u := Wd x) (show off + (a : Int).toNat * 1 = off + a by omega) (by rw [List.getElem?_map, hgx]; rfl))) ?_
        first | refine WL.val rfl rfl rfl rfl (r_remN rfl (ev_t rfl) ev_c (by omega) (by omega)) ?_ | refine WL.val rfl rfl rfl rfl (r_rem rfl (ev_t rfl) ev_c (by omega)) ?_
        first | refine WL.val rfl rfl rfl rfl (r_convN rfl (ev_t rfl) some_31 int_5 (by simp only [inK]; omega)) ?_ | refine WL.val rfl rfl rfl rfl (r_conv rfl (ev_t rfl) some_31 int_5) ?_
        refine WL.val rfl rfl rfl rfl (r_assign rfl (ev_t rfl)) ?_
        refine WL.nil ?_
        refine WX.keep [(0, _), (1, _), (4, _), (6, _)] ⟨rfl, rfl, rfl, rfl, trivial⟩ ?_
        refine WX.next ?_
        refine WC.seq ?_
        refine WC.region ?_
        refine WL.val rfl rfl rfl rfl (r_move rfl (ev_t rfl)) ?_
        refine WL.val rfl rfl rfl rfl (r_move rfl (ev_t rfl)) ?_
        refine WL.val rfl rfl rfl rfl (r_indexAddr rfl (ev_t rfl) (ev_t rfl) elem_46 size_31 (by omega) (by omega)) ?_
        refine WL.val rfl rfl rfl rfl (r_load rfl (ev_t rfl) flat_31 (hr.cell (j := a) (u := Wd x) (show off + (a : Int).toNat * 1 = off + a by omega) (by rw [List.getElem?_map, hgx]; rfl))) ?_
        first | refine WL.val rfl rfl rfl rfl (r_quoN rfl (ev_t rfl) ev_c (by omega) (by omega) (by simp only [inK]; omega)) ?_ | refine WL.val rfl rfl rfl rfl (r_quo rfl (ev_t rfl) ev_c (by omega)) ?_
        refine WL.val rfl rfl rfl rfl (r_assign rfl (ev_t rfl)) ?_
        refine WL.nil ?_
        refine WX.keep [(0, _), (1, _), (4, _), (6, _), (7, _)] ⟨rfl, rfl, rfl, rfl, rfl, trivial⟩ ?_
        refine WX.next ?_
        refine WC.seq ?_
        refine WC.seq ?_
        refine WC.region ?_
        rw [show (x : Int) % 256 = ((x % 256 : Nat) : Int) by omega, show (x : Int) / 256 = ((x / 256 : Nat) : Int) by omega]
        refine WL.val rfl rfl rfl rfl (r_move rfl (ev_t rfl)) ?_
        refine WL.val rfl rfl rfl rfl (r_lss rfl (ev_t rfl) ev_c) ?_
        refine WL.val rfl rfl rfl rfl (r_move rfl (ev_t rfl)) ?_
        refine WL.cases 35 rfl (fun hb5_2 => ?_) (fun hb5_2 => ?_)
        · try (exfalso; first | (simp at hb5_2; done) | (simp only [decide_eq_true_eq, decide_eq_false_iff_not, Bool.not_eq_true', Bool.not_eq_false', Bool.not_eq_true, Bool.not_eq_false] at hb5_2; omega) | omega)
          all_goals
           try simp only [decide_eq_true_eq, decide_eq_false_iff_not, Bool.not_eq_true', Bool.not_eq_false', Bool.not_eq_true, Bool.not_eq_false, Option.isNone_none, Option.isNone_some, Option.isSome_none, Option.isSome_some, ne_eq, Decidable.not_not] at hb5_2
           refine WL.skip rfl rfl rfl ?_
           refine WL.skip rfl rfl rfl ?_
           refine WL.val rfl rfl rfl rfl (r_pickT rfl (ev_t rfl) ev_c) ?_
           refine WL.val rfl rfl rfl rfl (r_move rfl (ev_t rfl)) ?_
           refine WL.skip rfl rfl rfl ?_
           refine WL.skip rfl rfl rfl ?_
           refine WL.skip rfl rfl rfl ?_
           refine WL.skip rfl rfl rfl ?_
           refine WL.skip rfl rfl rfl ?_
           refine WL.skip rfl rfl rfl ?_
           refine WL.val rfl rfl rfl rfl (r_pickT rfl (ev_t rfl) ev_c) ?_
           refine WL.nil ?_
           refine WX.keep [(0, _), (1, _), (4, _), (6, _), (7, _), (46, _)] ⟨rfl, rfl, rfl, rfl, rfl, rfl, trivial⟩ ?_
           refine WX.next ?_
           refine WC.cond_true rfl (ev_t rfl) ?_
           refine WC.seq ?_
           refine WC.region ?_
           refine WL.val rfl rfl rfl rfl (r_build (cs := #[_, _, _]) (vs := []) rfl trivial plc_56 zero_56 rfl) ?_
           refine WL.cons (SO.storeAll (us := [_, _, _]) rfl (ev_t rfl) (ev_t rfl) size_56 hb4 rfl rfl rfl rfl rfl ?_)
           intro w4 hu4 hb4 hz4
           have hs4 := hu4.size
           replace hU := hU.trans hu4 (by first | exact (fun _ _ h => h) | exact (fun _ _ h => h.elim) | (intro k hl hk; (try simp only [At, New, Grow, From, No] at hk ⊢); omega) | (intro k hl hk; first | exact (show False from hk).elim | (simp only [At] at hk; omega) | (have h2 := hPn k hk; omega)))
           replace hr := hr.upd hu4 (fun k hk hl hS => by have h1 := hF k hk; first | exact (show False from hS).elim | (simp only [At] at hS; omega) | (have h2 := hPn k hS; omega))
           refine WL.val rfl rfl rfl rfl (r_assign rfl ev_c) ?_
           refine WL.nil ?_
           refine WX.keep [(4, _), (5, _)] ⟨rfl, rfl, trivial⟩ ?_
           refine WX.next ?_
           refine WC.ret ?_
           refine WX.thenRet ?_
           refine WX.retM (l := [.cell 4 56, .tmp 5]) (vs := [_, _]) rfl ⟨⟨_, [_, _, _], rfl, agg_56, size_56, (Blk.cellsL hb4), rfl⟩, ⟨rfl, trivial⟩⟩ ?_
           refine ⟨0, 0, _, [], [], rfl, Own.nil _ _ _ _, hU, .inl ⟨fun h => ?_, rfl⟩⟩
           obtain ⟨_, h1, h2, h3, _⟩ := h
           rw [hxx] at h1 h2 h3
           first
             | omega
             | (simp_all; omega)
        · try (exfalso; first | (simp at hb5_2; done) | (simp only [decide_eq_true_eq, decide_eq_false_iff_not, Bool.not_eq_true', Bool.not_eq_false', Bool.not_eq_true, Bool.not_eq_false] at hb5_2; omega) | omega)
          all_goals
           try simp only [decide_eq_true_eq, decide_eq_false_iff_not, Bool.not_eq_true', Bool.not_eq_false', Bool.not_eq_true, Bool.not_eq_false, Option.isNone_none, Option.isNone_some, Option.isSome_none, Option.isSome_some, ne_eq, Decidable.not_not] at hb5_2
           refine WL.val rfl rfl rfl rfl (r_move rfl (ev_t rfl)) ?_
           refine WL.val rfl rfl rfl rfl (r_gtr rfl (ev_t rfl) ev_c) ?_
           refine WL.val rfl rfl rfl rfl (r_pickF rfl (ev_t rfl) (ev_t rfl)) ?_
           refine WL.val rfl rfl rfl rfl (r_move rfl (ev_t rfl)) ?_
           refine WL.cases 39 rfl (fun hb5_6 => ?_) (fun hb5_6 => ?_)
           · try (exfalso; first | (simp at hb5_6; done) | (simp only [decide_eq_true_eq, decide_eq_false_iff_not, Bool.not_eq_true', Bool.not_eq_false', Bool.not_eq_true, Bool.not_eq_false] at hb5_6; omega) | omega)
             all_goals
              try simp only [decide_eq_true_eq, decide_eq_false_iff_not, Bool.not_eq_true', Bool.not_eq_false', Bool.not_eq_true, Bool.not_eq_false, Option.isNone_none, Option.isNone_some, Option.isSome_none, Option.isSome_some, ne_eq, Decidable.not_not] at hb5_6
              refine WL.skip rfl rfl rfl ?_
              refine WL.skip rfl rfl rfl ?_
              refine WL.skip rfl rfl rfl ?_
              refine WL.skip rfl rfl rfl ?_
              refine WL.skip rfl rfl rfl ?_
              refine WL.skip rfl rfl rfl ?_
              refine WL.val rfl rfl rfl rfl (r_pickT rfl (ev_t rfl) ev_c) ?_
              refine WL.nil ?_
              refine WX.keep [(0, _), (1, _), (4, _), (6, _), (7, _), (46, _)] ⟨rfl, rfl, rfl, rfl, rfl, rfl, trivial⟩ ?_
              refine WX.next ?_
              refine WC.cond_true rfl (ev_t rfl) ?_
              refine WC.seq ?_
              refine WC.region ?_
              refine WL.val rfl rfl rfl rfl (r_build (cs := #[_, _, _]) (vs := []) rfl trivial plc_56 zero_56 rfl) ?_
              refine WL.cons (SO.storeAll (us := [_, _, _]) rfl (ev_t rfl) (ev_t rfl) size_56 hb4 rfl rfl rfl rfl rfl ?_)
              intro w5 hu5 hb4 hz5
              have hs5 := hu5.size
              replace hU := hU.trans hu5 (by first | exact (fun _ _ h => h) | exact (fun _ _ h => h.elim) | (intro k hl hk; (try simp only [At, New, Grow, From, No] at hk ⊢); omega) | (intro k hl hk; first | exact (show False from hk).elim | (simp only [At] at hk; omega) | (have h2 := hPn k hk; omega)))
              replace hr := hr.upd hu5 (fun k hk hl hS => by have h1 := hF k hk; first | exact (show False from hS).elim | (simp only [At] at hS; omega) | (have h2 := hPn k hS; omega))
              refine WL.val rfl rfl rfl rfl (r_assign rfl ev_c) ?_
              refine WL.nil ?_
              refine WX.keep [(4, _), (5, _)] ⟨rfl, rfl, trivial⟩ ?_
              refine WX.next ?_
              refine WC.ret ?_
              refine WX.thenRet ?_
              refine WX.retM (l := [.cell 4 56, .tmp 5]) (vs := [_, _]) rfl ⟨⟨_, [_, _, _], rfl, agg_56, size_56, (Blk.cellsL hb4), rfl⟩, ⟨rfl, trivial⟩⟩ ?_
              refine ⟨0, 0, _, [], [], rfl, Own.nil _ _ _ _, hU, .inl ⟨fun h => ?_, rfl⟩⟩
              obtain ⟨_, h1, h2, h3, _⟩ := h
              rw [hxx] at h1 h2 h3
              first
                | omega
                | (simp_all; omega)
           · try (exfalso; first | (simp at hb5_6; done) | (simp only [decide_eq_true_eq, decide_eq_false_iff_not, Bool.not_eq_true', Bool.not_eq_false', Bool.not_eq_true, Bool.not_eq_false] at hb5_6; omega) | omega)
             all_goals
              try simp only [decide_eq_true_eq, decide_eq_false_iff_not, Bool.not_eq_true', Bool.not_eq_false', Bool.not_eq_true, Bool.not_eq_false, Option.isNone_none, Option.isNone_some, Option.isSome_none, Option.isSome_some, ne_eq, Decidable.not_not] at hb5_6
              refine WL.val rfl rfl rfl rfl (r_move rfl (ev_t rfl)) ?_
              refine WL.val rfl rfl rfl rfl (r_move rfl (ev_t rfl)) ?_
              refine WL.val rfl rfl rfl rfl (r_lenSlice (ts := #[]) rfl (ev_t rfl) elem_46) ?_
              first | refine WL.val rfl rfl rfl rfl (r_mulN rfl ev_c (ev_t rfl) (by simp only [inK]; omega)) ?_ | refine WL.val rfl rfl rfl rfl (r_mul rfl ev_c (ev_t rfl)) ?_
              first | refine WL.val rfl rfl rfl rfl (r_convN rfl (ev_t rfl) some_3 int_31 (by simp only [inK]; omega)) ?_ | refine WL.val rfl rfl rfl rfl (r_conv rfl (ev_t rfl) some_3 int_31) ?_
              refine WL.val rfl rfl rfl rfl (r_gtr rfl (ev_t rfl) (ev_t rfl)) ?_
              refine WL.val rfl rfl rfl rfl (r_pickF rfl (ev_t rfl) (ev_t rfl)) ?_
              refine WL.nil ?_
              refine WX.keep [(0, _), (1, _), (4, _), (6, _), (7, _), (46, _)] ⟨rfl, rfl, rfl, rfl, rfl, rfl, trivial⟩ ?_
              refine WX.next ?_
              refine WC.cond rfl (ev_t rfl) (fun hc5 => ?_) (fun hc5 => ?_)
              · try (exfalso; first | (simp at hc5; done) | (simp only [decide_eq_true_eq, decide_eq_false_iff_not, Bool.not_eq_true', Bool.not_eq_false', Bool.not_eq_true, Bool.not_eq_false] at hc5; omega) | omega)
                all_goals
                 try simp only [decide_eq_true_eq, decide_eq_false_iff_not, Bool.not_eq_true', Bool.not_eq_false', Bool.not_eq_true, Bool.not_eq_false, Option.isNone_none, Option.isNone_some, Option.isSome_none, Option.isSome_some, ne_eq, Decidable.not_not] at hc5
                 refine WC.seq ?_
                 refine WC.region ?_
                 refine WL.val rfl rfl rfl rfl (r_build (cs := #[_, _, _]) (vs := []) rfl trivial plc_56 zero_56 rfl) ?_
                 refine WL.cons (SO.storeAll (us := [_, _, _]) rfl (ev_t rfl) (ev_t rfl) size_56 hb4 rfl rfl rfl rfl rfl ?_)
                 intro w6 hu6 hb4 hz6
                 have hs6 := hu6.size
                 replace hU := hU.trans hu6 (by first | exact (fun _ _ h => h) | exact (fun _ _ h => h.elim) | (intro k hl hk; (try simp only [At, New, Grow, From, No] at hk ⊢); omega) | (intro k hl hk; first | exact (show False from hk).elim | (simp only [At] at hk; omega) | (have h2 := hPn k hk; omega)))
                 replace hr := hr.upd hu6 (fun k hk hl hS => by have h1 := hF k hk; first | exact (show False from hS).elim | (simp only [At] at hS; omega) | (have h2 := hPn k hS; omega))
                 refine WL.val rfl rfl rfl rfl (r_assign rfl ev_c) ?_
                 refine WL.nil ?_
                 refine WX.keep [(4, _), (5, _)] ⟨rfl, rfl, trivial⟩ ?_
                 refine WX.next ?_
                 refine WC.ret ?_
                 refine WX.thenRet ?_
                 refine WX.retM (l := [.cell 4 56, .tmp 5]) (vs := [_, _]) rfl ⟨⟨_, [_, _, _], rfl, agg_56, size_56, (Blk.cellsL hb4), rfl⟩, ⟨rfl, trivial⟩⟩ ?_
                 refine ⟨0, 0, _, [], [], rfl, Own.nil _ _ _ _, hU, .inl ⟨fun h => ?_, rfl⟩⟩
                 obtain ⟨_, h1, h2, h3, _⟩ := h
                 rw [hxx] at h1 h2 h3
                 first
                   | omega
                   | (simp_all; omega)
              · try (exfalso; first | (simp at hc5; done) | (simp only [decide_eq_true_eq, decide_eq_false_iff_not, Bool.not_eq_true', Bool.not_eq_false', Bool.not_eq_true, Bool.not_eq_false] at hc5; omega) | omega)
                all_goals
                 try simp only [decide_eq_true_eq, decide_eq_false_iff_not, Bool.not_eq_true', Bool.not_eq_false', Bool.not_eq_true, Bool.not_eq_false, Option.isNone_none, Option.isNone_some, Option.isSome_none, Option.isSome_some, ne_eq, Decidable.not_not] at hc5
                 have hk1 : 1 ≤ x % 256 ∧ x % 256 ≤ 6 ∧ x / 256 ≤ 8 * l.length := by first
                   | omega
                   | (simp_all; omega)
                 refine WC.skip ?_
                 refine WX.next ?_
                 refine WC.seq ?_
                 refine WC.region ?_
                 refine WL.val rfl rfl rfl rfl (r_move rfl (ev_t rfl)) ?_
                 refine WL.val rfl rfl rfl rfl (r_build (cs := #[_, _, _]) (vs := [(0, _)]) rfl ⟨⟨rfl, (ev_t rfl)⟩, trivial⟩ plc_56 zero_56 rfl) ?_
                 obtain ⟨b8, hb8e⟩ : ∃ g, g = w1.heap.size := ⟨_, rfl⟩
                 refine WL.cons (SO.alloc rfl rfl rfl rfl (r_alloc rfl zero_56) ?_)
                 intro w7 hu7 hB7 hz7
                 have hs7 := hu7.size
                 replace hU := hU.trans hu7 (by first | exact (fun _ _ h => h) | exact (fun _ _ h => h.elim) | (intro k hl hk; (try simp only [At, New, Grow, From, No] at hk ⊢); omega) | (intro k hl hk; first | exact (show False from hk).elim | (simp only [At] at hk; omega) | (have h2 := hPn k hk; omega)))
                 replace hr := hr.upd hu7 (fun k hk hl hS => by have h1 := hF k hk; first | exact (show False from hS).elim | (simp only [At] at hS; omega) | (have h2 := hPn k hS; omega))
                 replace hb4 := hb4.upd hu7 (fun hS => by first | exact (show False from hS) | (simp only [At] at hS; omega) | (have h2 := hPn _ hS; omega))
                 refine WL.cons (SO.storeAll (us := [_, _, _]) rfl (ev_t rfl) (ev_t rfl) size_56 hB7 rfl rfl rfl rfl rfl ?_)
                 intro w8 hu8 hB7 hz8
                 have hs8 := hu8.size
                 replace hU := hU.trans hu8 (by first | exact (fun _ _ h => h) | exact (fun _ _ h => h.elim) | (intro k hl hk; (try simp only [At, New, Grow, From, No] at hk ⊢); omega) | (intro k hl hk; first | exact (show False from hk).elim | (simp only [At] at hk; omega) | (have h2 := hPn k hk; omega)))
                 replace hr := hr.upd hu8 (fun k hk hl hS => by have h1 := hF k hk; first | exact (show False from hS).elim | (simp only [At] at hS; omega) | (have h2 := hPn k hS; omega))
                 replace hb4 := hb4.upd hu8 (fun hS => by first | exact (show False from hS) | (simp only [At] at hS; omega) | (have h2 := hPn _ hS; omega))
                 refine WL.nil ?_
                 refine WX.keep [(0, _), (1, _), (4, _), (6, _), (7, _), (8, _)] ⟨rfl, rfl, rfl, rfl, rfl, rfl, trivial⟩ ?_
                 have hb8 := hB7
                 rw [← hb8e] at hb8 ⊢
                 have hb84 : b4 < b8 := by have := hb4.lt; have := hb8.lt; omega
                 refine WX.next ?_
                 refine WC.seq ?_
                 refine WC.region ?_
                 refine WL.val rfl rfl rfl rfl (r_move rfl (ev_t rfl)) ?_
                 first | refine WL.val rfl rfl rfl rfl (r_convN rfl (ev_t rfl) some_31 int_3 (by simp only [inK]; omega)) ?_ | refine WL.val rfl rfl rfl rfl (r_conv rfl (ev_t rfl) some_31 int_3) ?_
                 refine WL.val rfl rfl rfl rfl (r_assign rfl (ev_t rfl)) ?_
                 refine WL.nil ?_
                 refine WX.keep [(0, _), (1, _), (4, _), (6, _), (7, _), (8, _), (9, _)] ⟨rfl, rfl, rfl, rfl, rfl, rfl, rfl, trivial⟩ ?_
                 refine WX.next ?_
                 -- cut 9: live [0, 1, 4, 6, 7, 8, 9]
                 refine WC.cut (fun E wB => Upd No w wB ∧ Rd wB F (.slice (some ⟨b0, off, none⟩) l.length c) l.length 1 (l.map Wd) ∧ Blk wB b4 #[.int .u8 0, .slice none 0 0, .string ⟨#[]⟩] 56 ∧ Blk wB b8 #[.int .u8 ((x % 256 : Nat) : Int), .slice none 0 0, .string ⟨#[]⟩] 56 ∧ E = [(0, .slice (some ⟨b0, off, none⟩) l.length c), (1, .int .i64 (a : Int)), (4, .pointer (some ⟨b4, 0, none⟩)), (6, .int .u8 ((x % 256 : Nat) : Int)), (7, .int .u64 ((x / 256 : Nat) : Int)), (8, .pointer (some ⟨b8, 0, none⟩)), (9, .int .i64 ((szO x - 1 : Nat) : Int))]) ?_ ?_
                 · refine WC.seq ?_
                   refine WC.region ?_
                   refine WL.val rfl rfl rfl rfl (r_move rfl (ev_t rfl)) ?_
                   refine WL.val rfl rfl rfl rfl (r_eql rfl (ev_t rfl) ev_c) ?_
                   refine WL.nil ?_
                   refine WX.keep [(0, _), (1, _), (4, _), (6, _), (7, _), (8, _), (9, _), (53, _)] ⟨rfl, rfl, rfl, rfl, rfl, rfl, rfl, rfl, trivial⟩ ?_
                   refine WX.next ?_
                   refine WC.cond rfl (ev_t rfl) (fun hc9 => ?_) (fun hc9 => ?_)
                   · try (exfalso; first | (simp at hc9; done) | (simp only [decide_eq_true_eq, decide_eq_false_iff_not, Bool.not_eq_true', Bool.not_eq_false', Bool.not_eq_true, Bool.not_eq_false] at hc9; omega) | omega)
                     all_goals
                      try simp only [decide_eq_true_eq, decide_eq_false_iff_not, Bool.not_eq_true', Bool.not_eq_false', Bool.not_eq_true, Bool.not_eq_false, Option.isNone_none, Option.isNone_some, Option.isSome_none, Option.isSome_some, ne_eq, Decidable.not_not] at hc9
                      refine WC.region ?_
                      refine WL.val rfl rfl rfl rfl (r_move rfl (ev_t rfl)) ?_
                      first | refine WL.val rfl rfl rfl rfl (r_convN rfl (ev_t rfl) some_31 int_3 (by simp only [inK]; omega)) ?_ | refine WL.val rfl rfl rfl rfl (r_conv rfl (ev_t rfl) some_31 int_3) ?_
                      first | refine WL.val rfl rfl rfl rfl (r_addN rfl (ev_t rfl) ev_c (by simp only [inK]; omega)) ?_ | refine WL.val rfl rfl rfl rfl (r_add rfl (ev_t rfl) ev_c) ?_
                      first | refine WL.val rfl rfl rfl rfl (r_quoN rfl (ev_t rfl) ev_c (by omega) (by omega) (by simp only [inK]; omega)) ?_ | refine WL.val rfl rfl rfl rfl (r_quo rfl (ev_t rfl) ev_c (by omega)) ?_
                      refine WL.val rfl rfl rfl rfl (r_assign rfl (ev_t rfl)) ?_
                      refine WL.nil ?_
                      refine WX.keep [(0, _), (1, _), (4, _), (6, _), (7, _), (8, _), (9, _)] ⟨rfl, rfl, rfl, rfl, rfl, rfl, rfl, trivial⟩ ?_
                      refine WX.meet [(0, _), (1, _), (4, _), (6, _), (7, _), (8, _), (9, _)] ⟨rfl, rfl, rfl, rfl, rfl, rfl, rfl, trivial⟩ ?_
                      first
                        | (have e : szO x - 1 = (x / 256 + 7) / 8 := by unfold szO; rw [if_pos (by omega)]; omega
                           exact ⟨hU, hr, hb4, hb8, by rw [e]; rfl⟩)
                        | (have e : szO x - 1 = x / 256 := by unfold szO; rw [if_neg (by omega)]; omega
                           exact ⟨hU, hr, hb4, hb8, by rw [e]⟩)
                        | trace_state
                   · try (exfalso; first | (simp at hc9; done) | (simp only [decide_eq_true_eq, decide_eq_false_iff_not, Bool.not_eq_true', Bool.not_eq_false', Bool.not_eq_true, Bool.not_eq_false] at hc9; omega) | omega)
                     all_goals
                      try simp only [decide_eq_true_eq, decide_eq_false_iff_not, Bool.not_eq_true', Bool.not_eq_false', Bool.not_eq_true, Bool.not_eq_false, Option.isNone_none, Option.isNone_some, Option.isSome_none, Option.isSome_some, ne_eq, Decidable.not_not] at hc9
                      refine WC.skip ?_
                      refine WX.meet [(0, _), (1, _), (4, _), (6, _), (7, _), (8, _), (9, _)] ⟨rfl, rfl, rfl, rfl, rfl, rfl, rfl, trivial⟩ ?_
                      first
                        | (have e : szO x - 1 = (x / 256 + 7) / 8 := by unfold szO; rw [if_pos (by omega)]; omega
                           exact ⟨hU, hr, hb4, hb8, by rw [e]; rfl⟩)
                        | (have e : szO x - 1 = x / 256 := by unfold szO; rw [if_neg (by omega)]; omega
                           exact ⟨hU, hr, hb4, hb8, by rw [e]⟩)
                        | trace_state
                 · clear hU hr hb4 hb8
                   rintro E wB ⟨hU, hr, hb4, hb8, rfl⟩
                   have hUs := hU.size
                   have hszp := szO_pos x
                   have hszu : szO x ≤ 2 + x / 256 := by unfold szO; split <;> omega
                   refine WC.seq ?_
                   refine WC.seq ?_
                   refine WC.region ?_
                   refine WL.val rfl rfl rfl rfl (r_move rfl (ev_t rfl)) ?_
                   refine WL.val rfl rfl rfl rfl (r_move rfl (ev_t rfl)) ?_
                   refine WL.val rfl rfl rfl rfl (r_lenSlice (ts := #[]) rfl (ev_t rfl) elem_46) ?_
                   refine WL.val rfl rfl rfl rfl (r_move rfl (ev_t rfl)) ?_
                   first | refine WL.val rfl rfl rfl rfl (r_subN rfl (ev_t rfl) (ev_t rfl) (by simp only [inK]; omega)) ?_ | refine WL.val rfl rfl rfl rfl (r_sub rfl (ev_t rfl) (ev_t rfl)) ?_
                   first | refine WL.val rfl rfl rfl rfl (r_subN rfl (ev_t rfl) ev_c (by simp only [inK]; omega)) ?_ | refine WL.val rfl rfl rfl rfl (r_sub rfl (ev_t rfl) ev_c) ?_
                   refine WL.val rfl rfl rfl rfl (r_gtr rfl (ev_t rfl) (ev_t rfl)) ?_
                   refine WL.nil ?_
                   refine WX.keep [(0, _), (1, _), (4, _), (6, _), (7, _), (8, _), (9, _), (64, _)] ⟨rfl, rfl, rfl, rfl, rfl, rfl, rfl, rfl, trivial⟩ ?_
                   refine WX.next ?_
                   refine WC.cond rfl (ev_t rfl) (fun hc11 => ?_) (fun hc11 => ?_)
                   · try (exfalso; first | (simp at hc11; done) | (simp only [decide_eq_true_eq, decide_eq_false_iff_not, Bool.not_eq_true', Bool.not_eq_false', Bool.not_eq_true, Bool.not_eq_false] at hc11; omega) | omega)
                     all_goals
                      try simp only [decide_eq_true_eq, decide_eq_false_iff_not, Bool.not_eq_true', Bool.not_eq_false', Bool.not_eq_true, Bool.not_eq_false, Option.isNone_none, Option.isNone_some, Option.isSome_none, Option.isSome_some, ne_eq, Decidable.not_not] at hc11
                      refine WC.seq ?_
                      refine WC.region ?_
                      refine WL.val rfl rfl rfl rfl (r_build (cs := #[_, _, _]) (vs := []) rfl trivial plc_56 zero_56 rfl) ?_
                      refine WL.cons (SO.storeAll (us := [_, _, _]) rfl (ev_t rfl) (ev_t rfl) size_56 hb4 rfl rfl rfl rfl rfl ?_)
                      intro w9 hu9 hb4 hz9
                      have hs9 := hu9.size
                      replace hU := hU.trans hu9 (by first | exact (fun _ _ h => h) | exact (fun _ _ h => h.elim) | (intro k hl hk; (try simp only [At, New, Grow, From, No] at hk ⊢); omega) | (intro k hl hk; first | exact (show False from hk).elim | (simp only [At] at hk; omega) | (have h2 := hPn k hk; omega)))
                      replace hr := hr.upd hu9 (fun k hk hl hS => by have h1 := hF k hk; first | exact (show False from hS).elim | (simp only [At] at hS; omega) | (have h2 := hPn k hS; omega))
                      replace hb8 := hb8.upd hu9 (fun hS => by first | exact (show False from hS) | (simp only [At] at hS; omega) | (have h2 := hPn _ hS; omega))
                      refine WL.val rfl rfl rfl rfl (r_assign rfl ev_c) ?_
                      refine WL.nil ?_
                      refine WX.keep [(4, _), (5, _)] ⟨rfl, rfl, trivial⟩ ?_
                      refine WX.next ?_
                      refine WC.ret ?_
                      refine WX.thenRet ?_
                      refine WX.retM (l := [.cell 4 56, .tmp 5]) (vs := [_, _]) rfl ⟨⟨_, [_, _, _], rfl, agg_56, size_56, (Blk.cellsL hb4), rfl⟩, ⟨rfl, trivial⟩⟩ ?_
                      refine ⟨0, 0, _, [], [], rfl, Own.nil _ _ _ _, hU, .inl ⟨fun h => ?_, rfl⟩⟩
                      obtain ⟨_, _, _, _, h4⟩ := h
                      have e : szAt l a = szO x := by unfold szAt; rw [hxx]
                      rw [e] at h4
                      omega
                   · try (exfalso; first | (simp at hc11; done) | (simp only [decide_eq_true_eq, decide_eq_false_iff_not, Bool.not_eq_true', Bool.not_eq_false', Bool.not_eq_true, Bool.not_eq_false] at hc11; omega) | omega)
                     all_goals
                      try simp only [decide_eq_true_eq, decide_eq_false_iff_not, Bool.not_eq_true', Bool.not_eq_false', Bool.not_eq_true, Bool.not_eq_false, Option.isNone_none, Option.isNone_some, Option.isSome_none, Option.isSome_some, ne_eq, Decidable.not_not] at hc11
                      have hfit : a + szO x ≤ l.length := by omega
                      have hsz : szAt l a = szO x := by unfold szAt; rw [hxx]
                      have hval : validAt l a := ⟨hal, by rw [hxx]; exact hk1.1, by rw [hxx]; exact hk1.2.1, by rw [hxx]; exact hk1.2.2, by rw [hsz]; exact hfit⟩
                      refine WC.skip ?_
                      refine WX.next ?_
                      refine WC.seq ?_
                      refine WC.seq ?_
                      refine WC.region ?_
                      refine WL.val rfl rfl rfl rfl (r_assign rfl ev_c) ?_
                      refine WL.nil ?_
                      refine WX.keep [(0, _), (1, _), (4, _), (6, _), (7, _), (8, _), (9, _), (10, _)] ⟨rfl, rfl, rfl, rfl, rfl, rfl, rfl, rfl, trivial⟩ ?_
                      refine WX.next ?_
                      refine WC.block ?_
                      -- loop 1: live [0, 1, 4, 6, 7, 8, 9, 10]
                      refine WC.keep [(0, _), (1, _), (4, _), (6, _), (7, _), (8, _), (9, _), (10, _)] ⟨rfl, rfl, rfl, rfl, rfl, rfl, rfl, rfl, trivial⟩ ?_
                      refine WC.loop (fun qq E wC => ∃ (i : Nat) (vP : Value) (Gp : Nat → Prop), i ≤ szO x - 1 ∧ qq = szO x - 1 - i ∧ Upd No w wC ∧ Rd wC F (.slice (some ⟨b0, off, none⟩) l.length c) l.length 1 (l.map Wd) ∧ (∃ zk zp zs, Blk wC b4 #[zk, zp, zs] 56) ∧ Own wC Gp 31 1 vP ((parts l a).take i).length (((parts l a).take i).map Wd) ∧ (∀ k, Gp k → b4 < k ∧ k ≠ b8) ∧ Blk wC b8 #[.int .u8 ((x % 256 : Nat) : Int), vP, .string ⟨((textB l a).take (8 * i)).toArray⟩] 56 ∧ E = [(0, .slice (some ⟨b0, off, none⟩) l.length c), (1, .int .i64 (a : Int)), (4, .pointer (some ⟨b4, 0, none⟩)), (6, .int .u8 ((x % 256 : Nat) : Int)), (7, .int .u64 ((x / 256 : Nat) : Int)), (8, .pointer (some ⟨b8, 0, none⟩)), (9, .int .i64 ((szO x - 1 : Nat) : Int)), (10, .int .i64 (i : Int))]) (szO x - 1) ?_ ?_
                      · exact ⟨0, _, No, by omega, by omega, hU, hr, ⟨_, _, _, hb4⟩, by simpa using Own.nil _ _ _ _, fun k h => h.elim, by simpa using hb8, rfl⟩
                      · clear hU hr hb4 hb8
                        rintro qq E wC ⟨i, vP, Gp, hi, rfl, hU, hr, ⟨zk, zp, zs, hb4⟩, hP, hPn, hb8, rfl⟩
                        have hUs := hU.size
                        refine WC.seq ?_
                        refine WC.seq ?_
                        refine WC.region ?_
                        refine WL.val rfl rfl rfl rfl (r_move rfl (ev_t rfl)) ?_
                        refine WL.val rfl rfl rfl rfl (r_move rfl (ev_t rfl)) ?_
                        refine WL.val rfl rfl rfl rfl (r_lss rfl (ev_t rfl) (ev_t rfl)) ?_
                        refine WL.nil ?_
                        refine WX.keep [(0, _), (1, _), (4, _), (6, _), (7, _), (8, _), (9, _), (10, _), (68, _)] ⟨rfl, rfl, rfl, rfl, rfl, rfl, rfl, rfl, rfl, trivial⟩ ?_
                        refine WX.next ?_
                        refine WC.cond rfl (ev_t rfl) (fun hc14 => ?_) (fun hc14 => ?_)
                        · try (exfalso; first | (simp at hc14; done) | (simp only [decide_eq_true_eq, decide_eq_false_iff_not, Bool.not_eq_true', Bool.not_eq_false', Bool.not_eq_true, Bool.not_eq_false] at hc14; omega) | omega)
                          all_goals
                           try simp only [decide_eq_true_eq, decide_eq_false_iff_not, Bool.not_eq_true', Bool.not_eq_false', Bool.not_eq_true, Bool.not_eq_false, Option.isNone_none, Option.isNone_some, Option.isSome_none, Option.isSome_some, ne_eq, Decidable.not_not] at hc14
                           have hil : i < szO x - 1 := by omega
                           have hgi := getD_lt (l := l) (i := a + 1 + i) (by omega)
                           have hy64 := hw _ (List.mem_of_getElem? hgi)
                           generalize hyy : l.getD (a + 1 + i) 0 = y at *
                           refine WC.skip ?_
                           refine WX.next ?_
                           refine WC.seq ?_
                           refine WC.block ?_
                           refine WC.seq ?_
                           refine WC.region ?_
                           refine WL.val rfl rfl rfl rfl (r_move rfl (ev_t rfl)) ?_
                           refine WL.val rfl rfl rfl rfl (r_move rfl (ev_t rfl)) ?_
                           first | refine WL.val rfl rfl rfl rfl (r_addN rfl (ev_t rfl) ev_c (by simp only [inK]; omega)) ?_ | refine WL.val rfl rfl rfl rfl (r_add rfl (ev_t rfl) ev_c) ?_
                           refine WL.val rfl rfl rfl rfl (r_move rfl (ev_t rfl)) ?_
                           first | refine WL.val rfl rfl rfl rfl (r_addN rfl (ev_t rfl) (ev_t rfl) (by simp only [inK]; omega)) ?_ | refine WL.val rfl rfl rfl rfl (r_add rfl (ev_t rfl) (ev_t rfl)) ?_
                           refine WL.val rfl rfl rfl rfl (r_indexAddr rfl (ev_t rfl) (ev_t rfl) elem_46 size_31 (by omega) (by omega)) ?_
                           refine WL.val rfl rfl rfl rfl (r_load rfl (ev_t rfl) flat_31 (hr.cell (j := a + 1 + i) (u := Wd y) (show off + ((a : Int) + 1 + (i : Int)).toNat * 1 = off + (a + 1 + i) by omega) (by rw [List.getElem?_map, hgi]; rfl))) ?_
                           refine WL.val rfl rfl rfl rfl (r_assign rfl (ev_t rfl)) ?_
                           refine WL.nil ?_
                           refine WX.keep [(0, _), (1, _), (4, _), (6, _), (7, _), (8, _), (9, _), (10, _), (11, _)] ⟨rfl, rfl, rfl, rfl, rfl, rfl, rfl, rfl, rfl, trivial⟩ ?_
                           refine WX.next ?_
                           refine WC.seq ?_
                           refine WC.seq ?_
                           refine WC.region ?_
                           refine WL.val rfl rfl rfl rfl (r_move rfl (ev_t rfl)) ?_
                           refine WL.val rfl rfl rfl rfl (r_neq rfl (ev_t rfl) ev_c) ?_
                           refine WL.nil ?_
                           refine WX.keep [(0, _), (1, _), (4, _), (6, _), (7, _), (8, _), (9, _), (10, _), (11, _), (79, _)] ⟨rfl, rfl, rfl, rfl, rfl, rfl, rfl, rfl, rfl, rfl, trivial⟩ ?_
                           refine WX.next ?_
                           refine WC.cond rfl (ev_t rfl) (fun hc17 => ?_) (fun hc17 => ?_)
                           · try (exfalso; first | (simp at hc17; done) | (simp only [decide_eq_true_eq, decide_eq_false_iff_not, Bool.not_eq_true', Bool.not_eq_false', Bool.not_eq_true, Bool.not_eq_false] at hc17; omega) | omega)
                             all_goals
                              try simp only [decide_eq_true_eq, decide_eq_false_iff_not, Bool.not_eq_true', Bool.not_eq_false', Bool.not_eq_true, Bool.not_eq_false, Option.isNone_none, Option.isNone_some, Option.isSome_none, Option.isSome_some, ne_eq, Decidable.not_not] at hc17
                              have hk3 : x % 256 ≠ 3 := by omega
                              have hk3' : l.getD a 0 % 256 ≠ 3 := by rw [hxx]; exact hk3
                              have hin : i < l.getD a 0 / 256 := by rw [hxx]; unfold szO at hil; rw [if_neg hk3] at hil; omega
                              have hpg := (parts_get hk3' hin (by rw [hsz]; exact hfit)).1
                              rw [hyy] at hpg
                              have htb : textB l a = [] := if_neg hk3'
                              have hpl : ((parts l a).take i).length ≤ 1000000 := by rw [List.length_take]; omega
                              have hb8l := hb8.lt
                              refine WC.seq ?_
                              refine WC.region ?_
                              first | refine WL.val rfl rfl rfl rfl (r_field0 rfl (ev_t rfl) fld_56_1) ?_ | refine WL.val rfl rfl rfl rfl (r_fieldAt rfl (ev_t rfl) fld_56_1) ?_
                              refine WL.val rfl rfl rfl rfl (r_load rfl (ev_t rfl) flat_46 (Blk.cell hb8 rfl)) ?_
                              refine WL.val rfl rfl rfl rfl (r_move rfl (ev_t rfl)) ?_
                              refine WL.cons (SO.alloc rfl rfl rfl rfl (r_buildSlice1 (vs := [_]) rfl ⟨(ev_t rfl), trivial⟩ rfl row_46 rfl rfl) ?_)
                              intro w10 hu10 hB10 hz10
                              have hs10 := hu10.size
                              replace hU := hU.trans hu10 (by first | exact (fun _ _ h => h) | exact (fun _ _ h => h.elim) | (intro k hl hk; (try simp only [At, New, Grow, From, No] at hk ⊢); omega) | (intro k hl hk; first | exact (show False from hk).elim | (simp only [At] at hk; omega) | (have h2 := hPn k hk; omega)))
                              replace hr := hr.upd hu10 (fun k hk hl hS => by have h1 := hF k hk; first | exact (show False from hS).elim | (simp only [At] at hS; omega) | (have h2 := hPn k hS; omega))
                              replace hb4 := hb4.upd hu10 (fun hS => by first | exact (show False from hS) | (simp only [At] at hS; omega) | (have h2 := hPn _ hS; omega))
                              replace hb8 := hb8.upd hu10 (fun hS => by first | exact (show False from hS) | (simp only [At] at hS; omega) | (have h2 := hPn _ hS; omega))
                              replace hP := hP.upd hu10 (fun k hk hl hS => by first | exact (show False from hS).elim | (simp only [At] at hS; have := hPn k hk; omega) | (simp only [At] at hS; have := hk.2; omega))
                              refine WL.cons (SO.append hP (show Rd _ _ _ 1 1 [Wd y] from Rd.of_blk (F := At _) (n := 1) (sz := 1) hB10 rfl rfl (by omega)) row_46 (fun u hu => by simp at hu; subst hu; rfl) (le_maxLen (by omega)) (by omega) rfl (ev_t rfl) (ev_t rfl) rfl rfl rfl rfl ?_)
                              intro v11 w11 hP hu11
                              have hs11 := hu11.size
                              replace hU := hU.trans hu11 (by first | exact (fun _ _ h => h) | exact (fun _ _ h => h.elim) | (intro k hl hk; (try simp only [At, New, Grow, From, No] at hk ⊢); omega) | (intro k hl hk; first | exact (show False from hk).elim | (simp only [At] at hk; omega) | (have h2 := hPn k hk; omega)))
                              replace hr := hr.upd hu11 (fun k hk hl hS => by have h1 := hF k hk; first | exact (show False from hS).elim | (simp only [At] at hS; omega) | (have h2 := hPn k hS; omega))
                              replace hb4 := hb4.upd hu11 (fun hS => by first | exact (show False from hS) | (simp only [At] at hS; omega) | (have h2 := hPn _ hS; omega))
                              replace hb8 := hb8.upd hu11 (fun hS => by first | exact (show False from hS) | (simp only [At] at hS; omega) | (have h2 := hPn _ hS; omega))
                              obtain ⟨A11, c11, rfl, hc11⟩ := Own.form hP
                              replace hP := hP.mono (F' := fun k => b4 < k ∧ k ≠ b8) (fun k hk => by rcases hk with hk | hk; exact hPn k hk; exact ⟨by omega, by omega⟩)
                              first | refine WL.val rfl rfl rfl rfl (r_field0 rfl (ev_t rfl) fld_56_1) ?_ | refine WL.val rfl rfl rfl rfl (r_fieldAt rfl (ev_t rfl) fld_56_1) ?_
                              refine WL.cons (SO.store rfl (ev_t rfl) (ev_t rfl) size_46 hb8 rfl rfl rfl rfl rfl ?_)
                              intro w12 hu12 hb8 hz12
                              have hs12 := hu12.size
                              replace hU := hU.trans hu12 (by first | exact (fun _ _ h => h) | exact (fun _ _ h => h.elim) | (intro k hl hk; (try simp only [At, New, Grow, From, No] at hk ⊢); omega) | (intro k hl hk; first | exact (show False from hk).elim | (simp only [At] at hk; omega) | (have h2 := hPn k hk; omega)))
                              replace hr := hr.upd hu12 (fun k hk hl hS => by have h1 := hF k hk; first | exact (show False from hS).elim | (simp only [At] at hS; omega) | (have h2 := hPn k hS; omega))
                              replace hb4 := hb4.upd hu12 (fun hS => by first | exact (show False from hS) | (simp only [At] at hS; omega) | (have h2 := hPn _ hS; omega))
                              replace hP := hP.upd hu12 (fun k hk hl hS => by first | exact (show False from hS).elim | (simp only [At] at hS; have := hPn k hk; omega) | (simp only [At] at hS; have := hk.2; omega))
                              refine WL.nil ?_
                              refine WX.keep [(0, _), (1, _), (4, _), (6, _), (7, _), (8, _), (9, _), (10, _)] ⟨rfl, rfl, rfl, rfl, rfl, rfl, rfl, rfl, trivial⟩ ?_
                              refine WX.next ?_
                              refine WC.exit ?_
                              refine WX.thenExit ?_
                              refine WX.blockHere ?_
                              refine WX.next ?_
                              refine WC.region ?_
                              refine WL.val rfl rfl rfl rfl (r_move rfl (ev_t rfl)) ?_
                              first | refine WL.val rfl rfl rfl rfl (r_addN rfl (ev_t rfl) ev_c (by simp only [inK]; omega)) ?_ | refine WL.val rfl rfl rfl rfl (r_add rfl (ev_t rfl) ev_c) ?_
                              refine WL.val rfl rfl rfl rfl (r_assign rfl (ev_t rfl)) ?_
                              refine WL.nil ?_
                              refine WX.keep [(0, _), (1, _), (4, _), (6, _), (7, _), (8, _), (9, _), (10, _)] ⟨rfl, rfl, rfl, rfl, rfl, rfl, rfl, rfl, trivial⟩ ?_
                              refine WX.meet [(0, _), (1, _), (4, _), (6, _), (7, _), (8, _), (9, _), (10, _)] ⟨rfl, rfl, rfl, rfl, rfl, rfl, rfl, rfl, trivial⟩ ?_
                              first
                                | (have e5 : (parts l a).take i ++ [y] = (parts l a).take (i + 1) := (take_get hpg).symm
                                   have e6 : ((parts l a).take i).map Wd ++ [Wd y] = ((parts l a).take (i + 1)).map Wd := by rw [← e5, List.map_append]; rfl
                                   have e7 : ((parts l a).take i).length + 1 = ((parts l a).take (i + 1)).length := by rw [← e5, List.length_append]; rfl
                                   rw [e6, e7] at hP
                                   rw [e7] at hb8
                                   have e8 : (textB l a).take (8 * (i + 1)) = (textB l a).take (8 * i) := by rw [htb]; simp
                                   rw [← e8] at hb8
                                   exact ⟨szO x - 1 - (i + 1), by omega, i + 1, _, _, by omega, rfl, hU, hr, ⟨_, _, _, hb4⟩, hP, fun k hk => hk, hb8, rfl⟩)
                                | (have hjn : j = 8 ∨ x / 256 ≤ 8 * i + j := by first | omega | (simp_all; omega)
                                   have e5 : (textB l a).take (8 * i + j) = (textB l a).take (8 * (i + 1)) := by
                                     rcases hjn with h | h
                                     · rw [show 8 * (i + 1) = 8 * i + j by omega]
                                     · rw [List.take_of_length_le (by omega), List.take_of_length_le (by omega)]
                                   rw [e5] at hb8
                                   have e6 : (parts l a).take i = (parts l a).take (i + 1) := by rw [hpn]; simp
                                   rw [e6] at hP
                                   exact ⟨szO x - 1 - (i + 1), by omega, i + 1, _, _, by omega, rfl, hU, hr, ⟨_, _, _, hb4⟩, hP, hPn, hb8, rfl⟩)
                           · try (exfalso; first | (simp at hc17; done) | (simp only [decide_eq_true_eq, decide_eq_false_iff_not, Bool.not_eq_true', Bool.not_eq_false', Bool.not_eq_true, Bool.not_eq_false] at hc17; omega) | omega)
                             all_goals
                              try simp only [decide_eq_true_eq, decide_eq_false_iff_not, Bool.not_eq_true', Bool.not_eq_false', Bool.not_eq_true, Bool.not_eq_false, Option.isNone_none, Option.isNone_some, Option.isSome_none, Option.isSome_some, ne_eq, Decidable.not_not] at hc17
                              have hk3 : x % 256 = 3 := by omega
                              have hk3' : l.getD a 0 % 256 = 3 := by rw [hxx]; exact hk3
                              have hso : szO x = 1 + (x / 256 + 7) / 8 := by unfold szO; rw [if_pos hk3]
                              have hpn : parts l a = [] := if_pos hk3'
                              have htl : (textB l a).length = x / 256 := by rw [textB_len hk3', hxx]
                              refine WC.skip ?_
                              refine WX.next ?_
                              refine WC.seq ?_
                              refine WC.region ?_
                              refine WL.val rfl rfl rfl rfl (r_assign rfl ev_c) ?_
                              refine WL.nil ?_
                              refine WX.keep [(0, _), (1, _), (4, _), (6, _), (7, _), (8, _), (9, _), (10, _), (11, _), (12, _)] ⟨rfl, rfl, rfl, rfl, rfl, rfl, rfl, rfl, rfl, rfl, trivial⟩ ?_
                              refine WX.next ?_
                              refine WC.block ?_
                              -- loop 2: live [0, 1, 4, 6, 7, 8, 9, 10, 11, 12]
                              refine WC.keep [(0, _), (1, _), (4, _), (6, _), (7, _), (8, _), (9, _), (10, _), (11, _), (12, _)] ⟨rfl, rfl, rfl, rfl, rfl, rfl, rfl, rfl, rfl, rfl, trivial⟩ ?_
                              refine WC.loop (fun qq E wD => ∃ (j : Nat), j ≤ 8 ∧ qq = 8 - j ∧ Upd No w wD ∧ Rd wD F (.slice (some ⟨b0, off, none⟩) l.length c) l.length 1 (l.map Wd) ∧ Blk wD b4 #[zk, zp, zs] 56 ∧ Own wD Gp 31 1 vP ((parts l a).take i).length (((parts l a).take i).map Wd) ∧ Blk wD b8 #[.int .u8 ((x % 256 : Nat) : Int), vP, .string ⟨((textB l a).take (8 * i + j)).toArray⟩] 56 ∧ E = [(0, .slice (some ⟨b0, off, none⟩) l.length c), (1, .int .i64 (a : Int)), (4, .pointer (some ⟨b4, 0, none⟩)), (6, .int .u8 ((x % 256 : Nat) : Int)), (7, .int .u64 ((x / 256 : Nat) : Int)), (8, .pointer (some ⟨b8, 0, none⟩)), (9, .int .i64 ((szO x - 1 : Nat) : Int)), (10, .int .i64 (i : Int)), (11, .int .u64 ((y / 256 ^ j : Nat) : Int)), (12, .int .i64 (j : Int))]) (8) ?_ ?_
                              · exact ⟨0, by omega, by omega, hU, hr, hb4, hP, by simpa using hb8, by simp [Wd]⟩
                              · clear hU hr hb4 hP hb8
                                rintro qq E wD ⟨j, hj, rfl, hU, hr, hb4, hP, hb8, rfl⟩
                                have hUs := hU.size
                                have hsl : ((textB l a).take (8 * i + j)).length = min (8 * i + j) (x / 256) := by rw [List.length_take, htl]
                                have hyj : y / 256 ^ j < 18446744073709551616 := Nat.lt_of_le_of_lt (Nat.div_le_self _ _) hy64
                                refine WC.seq ?_
                                refine WC.seq ?_
                                refine WC.region ?_
                                refine WL.val rfl rfl rfl rfl (r_move rfl (ev_t rfl)) ?_
                                refine WL.val rfl rfl rfl rfl (r_lss rfl (ev_t rfl) ev_c) ?_
                                refine WL.val rfl rfl rfl rfl (r_move rfl (ev_t rfl)) ?_
                                refine WL.cases 88 rfl (fun hb20_2 => ?_) (fun hb20_2 => ?_)
                                · try (exfalso; first | (simp at hb20_2; done) | (simp only [decide_eq_true_eq, decide_eq_false_iff_not, Bool.not_eq_true', Bool.not_eq_false', Bool.not_eq_true, Bool.not_eq_false] at hb20_2; omega) | omega)
                                  all_goals
                                   try simp only [decide_eq_true_eq, decide_eq_false_iff_not, Bool.not_eq_true', Bool.not_eq_false', Bool.not_eq_true, Bool.not_eq_false, Option.isNone_none, Option.isNone_some, Option.isSome_none, Option.isSome_some, ne_eq, Decidable.not_not] at hb20_2
                                   first | refine WL.val rfl rfl rfl rfl (r_field0 rfl (ev_t rfl) fld_56_2) ?_ | refine WL.val rfl rfl rfl rfl (r_fieldAt rfl (ev_t rfl) fld_56_2) ?_
                                   refine WL.val rfl rfl rfl rfl (r_load rfl (ev_t rfl) flat_9 (Blk.cell hb8 rfl)) ?_
                                   refine WL.val rfl rfl rfl rfl (r_lenStrL rfl (ev_t rfl) str_9) ?_
                                   refine WL.val rfl rfl rfl rfl (r_move rfl (ev_t rfl)) ?_
                                   first | refine WL.val rfl rfl rfl rfl (r_convN rfl (ev_t rfl) some_31 int_3 (by simp only [inK]; omega)) ?_ | refine WL.val rfl rfl rfl rfl (r_conv rfl (ev_t rfl) some_31 int_3) ?_
                                   refine WL.val rfl rfl rfl rfl (r_lss rfl (ev_t rfl) (ev_t rfl)) ?_
                                   refine WL.val rfl rfl rfl rfl (r_pickT rfl (ev_t rfl) (ev_t rfl)) ?_
                                   refine WL.nil ?_
                                   refine WX.keep [(0, _), (1, _), (4, _), (6, _), (7, _), (8, _), (9, _), (10, _), (11, _), (12, _), (95, _)] ⟨rfl, rfl, rfl, rfl, rfl, rfl, rfl, rfl, rfl, rfl, rfl, trivial⟩ ?_
                                   refine WX.next ?_
                                   refine WC.cond rfl (ev_t rfl) (fun hc20 => ?_) (fun hc20 => ?_)
                                   · try (exfalso; first | (simp at hc20; done) | (simp only [decide_eq_true_eq, decide_eq_false_iff_not, Bool.not_eq_true', Bool.not_eq_false', Bool.not_eq_true, Bool.not_eq_false] at hc20; omega) | omega)
                                     all_goals
                                      try simp only [decide_eq_true_eq, decide_eq_false_iff_not, Bool.not_eq_true', Bool.not_eq_false', Bool.not_eq_true, Bool.not_eq_false, Option.isNone_none, Option.isNone_some, Option.isSome_none, Option.isSome_some, ne_eq, Decidable.not_not] at hc20
                                      have hj8 : j < 8 ∧ 8 * i + j < x / 256 := by first
                                        | omega
                                        | (simp_all; omega)
                                      have htg := textB_get (l := l) (a := a) (i := i) hk3' hj8.1 (by rw [hxx]; exact hj8.2)
                                      rw [hyy] at htg
                                      generalize hbb : UInt8.ofNat (y / 256 ^ j % 256) = bt at htg
                                      have hbv : bt.toNat = y / 256 ^ j % 256 := by rw [← hbb, UInt8.toNat_ofNat']; omega
                                      refine WC.skip ?_
                                      refine WX.next ?_
                                      refine WC.seq ?_
                                      refine WC.block ?_
                                      refine WC.seq ?_
                                      refine WC.region ?_
                                      first | refine WL.val rfl rfl rfl rfl (r_field0 rfl (ev_t rfl) fld_56_2) ?_ | refine WL.val rfl rfl rfl rfl (r_fieldAt rfl (ev_t rfl) fld_56_2) ?_
                                      refine WL.val rfl rfl rfl rfl (r_load rfl (ev_t rfl) flat_9 (Blk.cell hb8 rfl)) ?_
                                      refine WL.val rfl rfl rfl rfl (r_move rfl (ev_t rfl)) ?_
                                      first | refine WL.val rfl rfl rfl rfl (r_remN rfl (ev_t rfl) ev_c (by omega) (by omega)) ?_ | refine WL.val rfl rfl rfl rfl (r_rem rfl (ev_t rfl) ev_c (by omega)) ?_
                                      first | refine WL.val rfl rfl rfl rfl (r_convN rfl (ev_t rfl) some_31 int_5 (by simp only [inK]; omega)) ?_ | refine WL.val rfl rfl rfl rfl (r_conv rfl (ev_t rfl) some_31 int_5) ?_
                                      have e22 : IntKind.u8.wrap (((y / 256 ^ j : Nat) : Int).tmod 256) = (bt.toNat : Int) := by
                                        rw [show ((y / 256 ^ j : Nat) : Int).tmod 256 = ((y / 256 ^ j % 256 : Nat) : Int) from rfl, wrap_u8, hbv]
                                        omega
                                      rw [e22]
                                      have hb1 : [bt].length = 1 := rfl
                                      refine WL.cons (SO.alloc rfl rfl rfl rfl (r_buildSlice1 (vs := [_]) rfl ⟨(ev_t rfl), trivial⟩ rfl row_63 rfl rfl) ?_)
                                      intro w13 hu13 hB13 hz13
                                      have hs13 := hu13.size
                                      replace hU := hU.trans hu13 (by first | exact (fun _ _ h => h) | exact (fun _ _ h => h.elim) | (intro k hl hk; (try simp only [At, New, Grow, From, No] at hk ⊢); omega) | (intro k hl hk; first | exact (show False from hk).elim | (simp only [At] at hk; omega) | (have h2 := hPn k hk; omega)))
                                      replace hr := hr.upd hu13 (fun k hk hl hS => by have h1 := hF k hk; first | exact (show False from hS).elim | (simp only [At] at hS; omega) | (have h2 := hPn k hS; omega))
                                      replace hb4 := hb4.upd hu13 (fun hS => by first | exact (show False from hS) | (simp only [At] at hS; omega) | (have h2 := hPn _ hS; omega))
                                      replace hb8 := hb8.upd hu13 (fun hS => by first | exact (show False from hS) | (simp only [At] at hS; omega) | (have h2 := hPn _ hS; omega))
                                      replace hP := hP.upd hu13 (fun k hk hl hS => by first | exact (show False from hS).elim | (simp only [At] at hS; have := hPn k hk; omega) | (simp only [At] at hS; have := hk.2; omega))
                                      refine WL.val rfl rfl rfl rfl (r_toStr rfl (ev_t rfl) (show Rd _ _ _ 1 1 ([bt].map U8) from Rd.of_blk (F := At _) (n := 1) (sz := 1) hB13 rfl rfl (by omega)) elem_63 int_5 str_9) ?_
                                      refine WL.val rfl rfl rfl rfl (r_addStrL rfl (ev_t rfl) (ev_t rfl) (by omega)) ?_
                                      first | refine WL.val rfl rfl rfl rfl (r_field0 rfl (ev_t rfl) fld_56_2) ?_ | refine WL.val rfl rfl rfl rfl (r_fieldAt rfl (ev_t rfl) fld_56_2) ?_
                                      refine WL.cons (SO.store rfl (ev_t rfl) (ev_t rfl) size_9 hb8 rfl rfl rfl rfl rfl ?_)
                                      intro w14 hu14 hb8 hz14
                                      have hs14 := hu14.size
                                      replace hU := hU.trans hu14 (by first | exact (fun _ _ h => h) | exact (fun _ _ h => h.elim) | (intro k hl hk; (try simp only [At, New, Grow, From, No] at hk ⊢); omega) | (intro k hl hk; first | exact (show False from hk).elim | (simp only [At] at hk; omega) | (have h2 := hPn k hk; omega)))
                                      replace hr := hr.upd hu14 (fun k hk hl hS => by have h1 := hF k hk; first | exact (show False from hS).elim | (simp only [At] at hS; omega) | (have h2 := hPn k hS; omega))
                                      replace hb4 := hb4.upd hu14 (fun hS => by first | exact (show False from hS) | (simp only [At] at hS; omega) | (have h2 := hPn _ hS; omega))
                                      replace hP := hP.upd hu14 (fun k hk hl hS => by first | exact (show False from hS).elim | (simp only [At] at hS; have := hPn k hk; omega) | (simp only [At] at hS; have := hk.2; omega))
                                      refine WL.nil ?_
                                      refine WX.keep [(0, _), (1, _), (4, _), (6, _), (7, _), (8, _), (9, _), (10, _), (11, _), (12, _)] ⟨rfl, rfl, rfl, rfl, rfl, rfl, rfl, rfl, rfl, rfl, trivial⟩ ?_
                                      refine WX.next ?_
                                      refine WC.region ?_
                                      refine WL.val rfl rfl rfl rfl (r_move rfl (ev_t rfl)) ?_
                                      first | refine WL.val rfl rfl rfl rfl (r_quoN rfl (ev_t rfl) ev_c (by omega) (by omega) (by simp only [inK]; omega)) ?_ | refine WL.val rfl rfl rfl rfl (r_quo rfl (ev_t rfl) ev_c (by omega)) ?_
                                      refine WL.val rfl rfl rfl rfl (r_assign rfl (ev_t rfl)) ?_
                                      refine WL.nil ?_
                                      refine WX.keep [(0, _), (1, _), (4, _), (6, _), (7, _), (8, _), (9, _), (10, _), (11, _), (12, _)] ⟨rfl, rfl, rfl, rfl, rfl, rfl, rfl, rfl, rfl, rfl, trivial⟩ ?_
                                      refine WX.blockNormal ?_
                                      refine WX.next ?_
                                      refine WC.region ?_
                                      refine WL.val rfl rfl rfl rfl (r_move rfl (ev_t rfl)) ?_
                                      first | refine WL.val rfl rfl rfl rfl (r_addN rfl (ev_t rfl) ev_c (by simp only [inK]; omega)) ?_ | refine WL.val rfl rfl rfl rfl (r_add rfl (ev_t rfl) ev_c) ?_
                                      refine WL.val rfl rfl rfl rfl (r_assign rfl (ev_t rfl)) ?_
                                      refine WL.nil ?_
                                      refine WX.keep [(0, _), (1, _), (4, _), (6, _), (7, _), (8, _), (9, _), (10, _), (11, _), (12, _)] ⟨rfl, rfl, rfl, rfl, rfl, rfl, rfl, rfl, rfl, rfl, trivial⟩ ?_
                                      refine WX.meet [(0, _), (1, _), (4, _), (6, _), (7, _), (8, _), (9, _), (10, _), (11, _), (12, _)] ⟨rfl, rfl, rfl, rfl, rfl, rfl, rfl, rfl, rfl, rfl, trivial⟩ ?_
                                      have e5 : (textB l a).take (8 * i + j) ++ [bt] = (textB l a).take (8 * i + (j + 1)) := (take_get htg).symm
                                      rw [e5] at hb8
                                      refine ⟨8 - (j + 1), by omega, j + 1, by omega, rfl, hU, hr, hb4, hP, hb8, ?_⟩
                                      have e6 : ((y / 256 ^ (j + 1) : Nat) : Int) = ((y / 256 ^ j / 256 : Nat) : Int) := by rw [Nat.pow_succ, Nat.div_div_eq_div_mul]
                                      have e7 := tdiv_wrap hyj
                                      rw [e6, e7]
                                      rfl
                                   · try (exfalso; first | (simp at hc20; done) | (simp only [decide_eq_true_eq, decide_eq_false_iff_not, Bool.not_eq_true', Bool.not_eq_false', Bool.not_eq_true, Bool.not_eq_false] at hc20; omega) | omega)
                                     all_goals
                                      try simp only [decide_eq_true_eq, decide_eq_false_iff_not, Bool.not_eq_true', Bool.not_eq_false', Bool.not_eq_true, Bool.not_eq_false, Option.isNone_none, Option.isNone_some, Option.isSome_none, Option.isSome_some, ne_eq, Decidable.not_not] at hc20
                                      refine WC.exit ?_
                                      refine WX.thenExit ?_
                                      refine WX.thenExit ?_
                                      refine WX.blockHere ?_
                                      refine WX.blockNormal ?_
                                      refine WX.next ?_
                                      refine WC.region ?_
                                      refine WL.val rfl rfl rfl rfl (r_move rfl (ev_t rfl)) ?_
                                      first | refine WL.val rfl rfl rfl rfl (r_addN rfl (ev_t rfl) ev_c (by simp only [inK]; omega)) ?_ | refine WL.val rfl rfl rfl rfl (r_add rfl (ev_t rfl) ev_c) ?_
                                      refine WL.val rfl rfl rfl rfl (r_assign rfl (ev_t rfl)) ?_
                                      refine WL.nil ?_
                                      refine WX.keep [(0, _), (1, _), (4, _), (6, _), (7, _), (8, _), (9, _), (10, _)] ⟨rfl, rfl, rfl, rfl, rfl, rfl, rfl, rfl, trivial⟩ ?_
                                      refine WX.meet [(0, _), (1, _), (4, _), (6, _), (7, _), (8, _), (9, _), (10, _)] ⟨rfl, rfl, rfl, rfl, rfl, rfl, rfl, rfl, trivial⟩ ?_
                                      first
                                        | (have e5 : (parts l a).take i ++ [y] = (parts l a).take (i + 1) := (take_get hpg).symm
                                           have e6 : ((parts l a).take i).map Wd ++ [Wd y] = ((parts l a).take (i + 1)).map Wd := by rw [← e5, List.map_append]; rfl
                                           have e7 : ((parts l a).take i).length + 1 = ((parts l a).take (i + 1)).length := by rw [← e5, List.length_append]; rfl
                                           rw [e6, e7] at hP
                                           rw [e7] at hb8
                                           have e8 : (textB l a).take (8 * (i + 1)) = (textB l a).take (8 * i) := by rw [htb]; simp
                                           rw [← e8] at hb8
                                           exact ⟨szO x - 1 - (i + 1), by omega, i + 1, _, _, by omega, rfl, hU, hr, ⟨_, _, _, hb4⟩, hP, fun k hk => hk, hb8, rfl⟩)
                                        | (have hjn : j = 8 ∨ x / 256 ≤ 8 * i + j := by first | omega | (simp_all; omega)
                                           have e5 : (textB l a).take (8 * i + j) = (textB l a).take (8 * (i + 1)) := by
                                             rcases hjn with h | h
                                             · rw [show 8 * (i + 1) = 8 * i + j by omega]
                                             · rw [List.take_of_length_le (by omega), List.take_of_length_le (by omega)]
                                           rw [e5] at hb8
                                           have e6 : (parts l a).take i = (parts l a).take (i + 1) := by rw [hpn]; simp
                                           rw [e6] at hP
                                           exact ⟨szO x - 1 - (i + 1), by omega, i + 1, _, _, by omega, rfl, hU, hr, ⟨_, _, _, hb4⟩, hP, hPn, hb8, rfl⟩)
                                · try (exfalso; first | (simp at hb20_2; done) | (simp only [decide_eq_true_eq, decide_eq_false_iff_not, Bool.not_eq_true', Bool.not_eq_false', Bool.not_eq_true, Bool.not_eq_false] at hb20_2; omega) | omega)
                                  all_goals
                                   try simp only [decide_eq_true_eq, decide_eq_false_iff_not, Bool.not_eq_true', Bool.not_eq_false', Bool.not_eq_true, Bool.not_eq_false, Option.isNone_none, Option.isNone_some, Option.isSome_none, Option.isSome_some, ne_eq, Decidable.not_not] at hb20_2
                                   refine WL.skip rfl rfl rfl ?_
                                   refine WL.skip rfl rfl rfl ?_
                                   refine WL.skip rfl rfl rfl ?_
                                   refine WL.skip rfl rfl rfl ?_
                                   refine WL.skip rfl rfl rfl ?_
                                   refine WL.skip rfl rfl rfl ?_
                                   refine WL.val rfl rfl rfl rfl (r_pickF rfl (ev_t rfl) ev_c) ?_
                                   refine WL.nil ?_
                                   refine WX.keep [(0, _), (1, _), (4, _), (6, _), (7, _), (8, _), (9, _), (10, _), (11, _), (12, _), (95, _)] ⟨rfl, rfl, rfl, rfl, rfl, rfl, rfl, rfl, rfl, rfl, rfl, trivial⟩ ?_
                                   refine WX.next ?_
                                   refine WC.cond_false rfl (ev_t rfl) ?_
                                   refine WC.exit ?_
                                   refine WX.thenExit ?_
                                   refine WX.thenExit ?_
                                   refine WX.blockHere ?_
                                   refine WX.blockNormal ?_
                                   refine WX.next ?_
                                   refine WC.region ?_
                                   refine WL.val rfl rfl rfl rfl (r_move rfl (ev_t rfl)) ?_
                                   first | refine WL.val rfl rfl rfl rfl (r_addN rfl (ev_t rfl) ev_c (by simp only [inK]; omega)) ?_ | refine WL.val rfl rfl rfl rfl (r_add rfl (ev_t rfl) ev_c) ?_
                                   refine WL.val rfl rfl rfl rfl (r_assign rfl (ev_t rfl)) ?_
                                   refine WL.nil ?_
                                   refine WX.keep [(0, _), (1, _), (4, _), (6, _), (7, _), (8, _), (9, _), (10, _)] ⟨rfl, rfl, rfl, rfl, rfl, rfl, rfl, rfl, trivial⟩ ?_
                                   refine WX.meet [(0, _), (1, _), (4, _), (6, _), (7, _), (8, _), (9, _), (10, _)] ⟨rfl, rfl, rfl, rfl, rfl, rfl, rfl, rfl, trivial⟩ ?_
                                   first
                                     | (have e5 : (parts l a).take i ++ [y] = (parts l a).take (i + 1) := (take_get hpg).symm
                                        have e6 : ((parts l a).take i).map Wd ++ [Wd y] = ((parts l a).take (i + 1)).map Wd := by rw [← e5, List.map_append]; rfl
                                        have e7 : ((parts l a).take i).length + 1 = ((parts l a).take (i + 1)).length := by rw [← e5, List.length_append]; rfl
                                        rw [e6, e7] at hP
                                        rw [e7] at hb8
                                        have e8 : (textB l a).take (8 * (i + 1)) = (textB l a).take (8 * i) := by rw [htb]; simp
                                        rw [← e8] at hb8
                                        exact ⟨szO x - 1 - (i + 1), by omega, i + 1, _, _, by omega, rfl, hU, hr, ⟨_, _, _, hb4⟩, hP, fun k hk => hk, hb8, rfl⟩)
                                     | (have hjn : j = 8 ∨ x / 256 ≤ 8 * i + j := by first | omega | (simp_all; omega)
                                        have e5 : (textB l a).take (8 * i + j) = (textB l a).take (8 * (i + 1)) := by
                                          rcases hjn with h | h
                                          · rw [show 8 * (i + 1) = 8 * i + j by omega]
                                          · rw [List.take_of_length_le (by omega), List.take_of_length_le (by omega)]
                                        rw [e5] at hb8
                                        have e6 : (parts l a).take i = (parts l a).take (i + 1) := by rw [hpn]; simp
                                        rw [e6] at hP
                                        exact ⟨szO x - 1 - (i + 1), by omega, i + 1, _, _, by omega, rfl, hU, hr, ⟨_, _, _, hb4⟩, hP, hPn, hb8, rfl⟩)
                        · try (exfalso; first | (simp at hc14; done) | (simp only [decide_eq_true_eq, decide_eq_false_iff_not, Bool.not_eq_true', Bool.not_eq_false', Bool.not_eq_true, Bool.not_eq_false] at hc14; omega) | omega)
                          all_goals
                           try simp only [decide_eq_true_eq, decide_eq_false_iff_not, Bool.not_eq_true', Bool.not_eq_false', Bool.not_eq_true, Bool.not_eq_false, Option.isNone_none, Option.isNone_some, Option.isSome_none, Option.isSome_some, ne_eq, Decidable.not_not] at hc14
                           refine WC.exit ?_
                           refine WX.thenExit ?_
                           refine WX.thenExit ?_
                           refine WX.blockHere ?_
                           refine WX.next ?_
                           refine WC.seq ?_
                           obtain rfl : i = szO x - 1 := by omega
                           have ep : (parts l a).take (szO x - 1) = parts l a := by
                             refine List.take_of_length_le ?_
                             by_cases hk3 : x % 256 = 3
                             · have : parts l a = [] := if_pos (by rw [hxx]; exact hk3)
                               rw [this]; simp
                             · rw [parts_len (by rw [hxx]; exact hk3) (by rw [hsz]; exact hfit), hxx]
                               unfold szO
                               rw [if_neg hk3]
                               omega
                           have et : (textB l a).take (8 * (szO x - 1)) = textB l a := by
                             refine List.take_of_length_le ?_
                             by_cases hk3 : x % 256 = 3
                             · rw [textB_len (by rw [hxx]; exact hk3), hxx]
                               unfold szO
                               rw [if_pos hk3]
                               omega
                             · have : textB l a = [] := if_neg (by rw [hxx]; exact hk3)
                               rw [this]; simp
                           rw [ep] at hP
                           rw [et] at hb8
                           obtain ⟨AP, cP, rfl, _⟩ := hP.form
                           refine WC.region ?_
                           refine WL.val rfl rfl rfl rfl (r_loadAgg (vs := [_, _, _]) rfl (ev_t rfl) agg_56 size_56 (Blk.cellsL hb8)) ?_
                           refine WL.val rfl rfl rfl rfl (r_move rfl (ev_t rfl)) ?_
                           first | refine WL.val rfl rfl rfl rfl (r_addN rfl ev_c (ev_t rfl) (by simp only [inK]; omega)) ?_ | refine WL.val rfl rfl rfl rfl (r_add rfl ev_c (ev_t rfl)) ?_
                           refine WL.cons (SO.storeAll (us := [_, _, _]) rfl (ev_t rfl) (ev_t rfl) size_56 hb4 rfl rfl rfl rfl rfl ?_)
                           intro w15 hu15 hb4 hz15
                           have hs15 := hu15.size
                           replace hU := hU.trans hu15 (by first | exact (fun _ _ h => h) | exact (fun _ _ h => h.elim) | (intro k hl hk; (try simp only [At, New, Grow, From, No] at hk ⊢); omega) | (intro k hl hk; first | exact (show False from hk).elim | (simp only [At] at hk; omega) | (have h2 := hPn k hk; omega)))
                           replace hr := hr.upd hu15 (fun k hk hl hS => by have h1 := hF k hk; first | exact (show False from hS).elim | (simp only [At] at hS; omega) | (have h2 := hPn k hS; omega))
                           replace hb8 := hb8.upd hu15 (fun hS => by first | exact (show False from hS) | (simp only [At] at hS; omega) | (have h2 := hPn _ hS; omega))
                           replace hP := hP.upd hu15 (fun k hk hl hS => by first | exact (show False from hS).elim | (simp only [At] at hS; have := hPn k hk; omega) | (simp only [At] at hS; have := hk.2; omega))
                           rw [show ((1 : Int) + ((szO x - 1 : Nat) : Int)) = ((szAt l a : Nat) : Int) by rw [hsz]; omega]
                           refine WL.val rfl rfl rfl rfl (r_assign rfl (ev_t rfl)) ?_
                           refine WL.nil ?_
                           refine WX.keep [(4, _), (5, _)] ⟨rfl, rfl, trivial⟩ ?_
                           refine WX.next ?_
                           refine WC.ret ?_
                           refine WX.retM (l := [.cell 4 56, .tmp 5]) (vs := [_, _]) rfl ⟨⟨_, [_, _, _], rfl, agg_56, size_56, (Blk.cellsL hb4), rfl⟩, ⟨rfl, trivial⟩⟩ ?_
                           exact ⟨x % 256, szAt l a, _, parts l a, textB l a, rfl, hP.bound.mono (fun k hk => ⟨by have := hPn k hk.1; omega, hk.2⟩), hU, .inr ⟨hval, rfl, by rw [hxx], rfl, rfl⟩⟩
end Go.Proofs.YtdpnnclkkbfihaaDoor
