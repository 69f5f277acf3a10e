/-
  Several texts put together: Hewi.
-/
import Derived.Test.YtdpnnclkkbfihaaDoorZf
/-
  HeapPlays: the state between calls.
-/
namespace Go.Proofs.YtdpnnclkkbfihaaDoor
open Go
set_option linter.unusedSimpArgs false
set_option linter.unusedVariables false

structure ActP where
  kind : Nat
  k : Nat
  v : Value
  ps : List Int
  s : List UInt8
def I64 (n : Int) : Value := .int .i64 n
def ActP.cells (a : ActP) : List Value := [.int .u8 (a.kind : Int), .int .u8 (a.k : Int), a.v, .string ⟨a.s.toArray⟩]
theorem ActP.cells_len (a : ActP) : a.cells.length = 4 := rfl
structure ActP.OK (a : ActP) (W : World) : Prop where
  kind : a.kind < 256
  k : a.k < 256
  rd : Rd W (fun k => k < W.heap.size) a.v a.ps.length 1 (a.ps.map I64)
  ps : ∀ n ∈ a.ps, -9223372036854775808 ≤ n ∧ n ≤ 9223372036854775807
  s : a.s.length ≤ 140737488351232
/-- a heap, the words it is to have, and roots -/
def PL (w : World) (B p q i : Nat) (mem ys : List Nat) (vm vr : Value) : Prop :=
  ∃ (G Gm Gr : Nat → Prop) (A : Option Addr) (c : Nat) (st : List Nat) (n : Nat), HS w G p A c mem q n ∧ GoodH mem st ∧ TxI mem st ∧ n ≤ i ∧ ys.length ≤ i ∧ Own w Gm 31 1 vm mem.length (mem.map Wd) ∧ Own w Gr tWord 1 vr ys.length (ys.map Wd) ∧
    (∀ y ∈ ys, y % 2 = 0 ∧ y / 2 ∈ st) ∧ (∀ k, G k → B ≤ k) ∧ (∀ k, Gm k → B ≤ k ∧ k ≠ p ∧ ¬ G k ∧ ¬ Gr k ∧ k < w.heap.size) ∧ (∀ k, Gr k → B ≤ k ∧ k ≠ p ∧ ¬ G k ∧ k < w.heap.size)
theorem PL.upd {w w' : World} {S : Nat → Prop} {B p q i : Nat} {mem ys : List Nat} {vm vr : Value} (h : PL w B p q i mem ys vm vr) (hu : Upd S w w') (hn : ∀ k, k < w.heap.size → ¬ S k) : PL w' B p q i mem ys vm vr := by
  obtain ⟨G, Gm, Gr, A, c, st, n, h1, h2, h3, h4, h5, h6, h7, h8, h9, h10, h11⟩ := h
  have := hu.size
  exact ⟨G, Gm, Gr, A, c, st, n, h1.upd hu (fun k _ hl => hn k hl), h2, h3, h4, h5, h6.upd hu (fun k _ hl => hn k hl), h7.upd hu (fun k _ hl => hn k hl), h8, h9, fun k hk => by have := h10 k hk; exact ⟨this.1, this.2.1, this.2.2.1, this.2.2.2.1, by omega⟩, fun k hk => by have := h11 k hk; exact ⟨this.1, this.2.1, this.2.2.1, by omega⟩⟩
theorem PL.mono {w : World} {B p q i j : Nat} {mem ys : List Nat} {vm vr : Value} (h : PL w B p q i mem ys vm vr) (hij : i ≤ j) : PL w B p q j mem ys vm vr := by
  obtain ⟨G, Gm, Gr, A, c, st, n, h1, h2, h3, h4, h5, h6⟩ := h
  exact ⟨G, Gm, Gr, A, c, st, n, h1, h2, h3, by omega, by omega, h6⟩
def kdL : List Nat := [1, 2, 4, 5, 3]
theorem kd_cell {b : Nat} {w : World} {T : TypeId} (h : Blk w b #[.int .u8 1, .int .u8 2, .int .u8 4, .int .u8 5, .int .u8 3] T) {k : Nat} (hk : k < 5) : w.cell? ⟨b, k, none⟩ = some (.int .u8 ((kdL.getD k 0 : Nat) : Int)) := by
  refine Blk.cell h ?_
  rcases (by omega : k = 0 ∨ k = 1 ∨ k = 2 ∨ k = 3 ∨ k = 4) with rfl | rfl | rfl | rfl | rfl <;> rfl
theorem kd_ok {k : Nat} (hk : k < 5) : 1 ≤ kdL.getD k 0 ∧ kdL.getD k 0 ≤ 6 ∧ (kdL.getD k 0 = 3 ↔ k = 4) := by
  rcases (by omega : k = 0 ∨ k = 1 ∨ k = 2 ∨ k = 3 ∨ k = 4) with rfl | rfl | rfl | rfl | rfl <;> decide
theorem Rd.cutW {w : World} {F : Nat → Prop} {A : Option Addr} {c lo hi : Nat} {l : List Nat} (hr : Rd w F (.slice A l.length c) l.length 1 (l.map Wd)) (h1 : lo ≤ hi) (h2 : hi ≤ l.length) : Rd w F (.slice (cutA A c lo 1) (hi - lo) (c - lo)) (hi - lo) 1 (((l.drop lo).take (hi - lo)).map Wd) := by
  have h := hr.slice h1 h2
  simp only [Nat.mul_one] at h
  rw [← List.map_drop, ← List.map_take] at h
  exact h
theorem objW_len (kd : Nat) (zs : List Nat) (s : List UInt8) : (objW kd zs s).length = need9 kd zs.length s := by
  unfold objW need9
  split
  · rw [List.length_cons, encT_len]; omega
  · rw [List.length_cons]; omega
theorem GoodH.obj {mem st zs : List Nat} {kd : Nat} {s : List UInt8} (hg : GoodH mem st) (ht : TxI mem st) (hkd : 1 ≤ kd ∧ kd ≤ 6) (hz : ∀ z ∈ zs, z < 18446744073709551616 ∧ (z % 2 = 1 ∨ z / 2 ∈ st)) (hzl : zs.length ≤ 1000) (hs : s.length ≤ 1000000) :
    GoodH (mem ++ objW kd zs s) (st ++ [mem.length]) ∧ TxI (mem ++ objW kd zs s) (st ++ [mem.length]) := by
  by_cases hk : kd = 3
  · subst hk
    have e : objW 3 zs s = (s.length * 256 + 3) :: encT s := if_pos rfl
    rw [e]
    refine ⟨hg.more ?_ (fun y hy => ?_) (fun h => absurd (by omega) h) (by omega), ht.more hg.vd (fun _ => ⟨s, textAt_new mem s⟩)⟩
    · unfold szO; rw [if_pos (by omega), encT_len]; omega
    · rcases List.mem_cons.1 hy with rfl | hy
      · omega
      · exact encT_lt hy
  · have e : objW kd zs s = (zs.length * 256 + kd) :: zs := if_neg hk
    rw [e]
    refine ⟨hg.more ?_ (fun y hy => ?_) (fun _ x hx => (hz x hx).2) (by omega), ht.more hg.vd (fun h => by omega)⟩
    · unfold szO; rw [if_neg (by omega)]; omega
    · rcases List.mem_cons.1 hy with rfl | hy
      · omega
      · exact (hz y hy).1
theorem hys2T {mem st ys zs fin ys2 : List Nat} (hye : ∀ y ∈ ys, y % 2 = 0 ∧ y / 2 ∈ st) (hyf : ∀ x ∈ ys ++ zs, x % 2 = 1 ∨ x / 2 ∈ fin) (h : ys2 = ys.map (there mem fin)) : ∀ y ∈ ys2, y % 2 = 0 ∧ y / 2 ∈ fin.map (plc (szAt mem) fin) := fun y hy => by
  rw [h] at hy
  obtain ⟨y0, hy0, rfl⟩ := List.mem_map.1 hy
  have h1 := hye y0 hy0
  have h2 := there_tgt (old := mem) (hyf y0 (List.mem_append_left _ hy0))
  have h3 : there mem fin y0 % 2 = 0 := by
    unfold there; split <;> omega
  exact ⟨h3, by rcases h2 with h | h; omega; exact h⟩
theorem zsT {l st ys zs ord zs2 : List Nat} (hxz : ∀ x ∈ ys ++ zs, x < 18446744073709551616 ∧ (x % 2 = 1 ∨ x / 2 ∈ st)) (hyf : ∀ x ∈ ys ++ zs, x % 2 = 1 ∨ x / 2 ∈ ord) (ht : tot (szAt l) ord ≤ 1000000) (h : zs2 = zs.map (there l ord)) : ∀ z ∈ zs2, z < 18446744073709551616 ∧ (z % 2 = 1 ∨ z / 2 ∈ ord.map (plc (szAt l) ord)) := fun z hz => by
  rw [h] at hz
  obtain ⟨z0, hz0, rfl⟩ := List.mem_map.1 hz
  exact ⟨there_lt (hxz z0 (List.mem_append_right _ hz0)).1 ht, there_tgt (hyf z0 (List.mem_append_right _ hz0))⟩
namespace heapPlays
set_option maxHeartbeats 16000000 in
theorem walk {w : World} {q0 : Nat} {sv : Value} {l : List ActP} (hq0 : q0 < 256) (hs0 : Rd w (fun k => k < w.heap.size) sv l.length 4 (l.flatMap ActP.cells)) (hA : ∀ a ∈ l, a.OK w) :
    Ret Tryd.prog 7 #[.int .u8 (q0 : Int), sv] w fun v w' => v = .bool true ∧ Upd No w w' := by
  obtain ⟨Al, cl, rfl, hcl⟩ := hs0.slice_form
  have hlm := hs0.le
  generalize hB : w.heap.size = B at *
  refine enterRet (vs := [_, _]) (N := 358) Tryd.func7 rfl rfl rfl ?_
  have hU := Upd.refl No w
  refine WC.keep [(0, _), (1, _)] ⟨rfl, rfl, trivial⟩ ?_
  refine WC.seq ?_
  refine WC.region ?_
  refine WL.val rfl rfl rfl rfl (r_assign rfl ev_c) ?_
  refine WL.nil ?_
  refine WX.keep [(0, _), (1, _)] ⟨rfl, rfl, trivial⟩ ?_
  refine WX.next ?_
  refine WC.seq ?_
  refine WC.seq ?_
  refine WC.region ?_
  refine WL.cons (SO.call (awake_ok) rfl body_9 trivial rfl rfl rfl rfl ?_)
  rintro v w1 ⟨rfl, hu1⟩
  have hs1 := hu1.size
  replace hU := hU.trans hu1 (by exact (fun _ _ h => h))
  refine WL.val rfl rfl rfl rfl (r_not rfl (ev_t rfl)) ?_
  refine WL.val rfl rfl rfl rfl (r_move rfl (ev_t rfl)) ?_
  refine WL.val rfl rfl rfl rfl (r_pickF rfl (ev_t rfl) ev_c) ?_
  refine WL.nil ?_
  refine WX.keep [(0, _), (1, _), (35, _)] ⟨rfl, rfl, rfl, trivial⟩ ?_
  refine WX.next ?_
  refine WC.cond rfl (ev_t rfl) (fun hc1 => ?_) (fun hc1 => ?_)
  · try simp only [decide_eq_true_eq, decide_eq_false_iff_not, Bool.not_eq_true', Bool.not_eq_false', Bool.not_eq_true, Bool.not_eq_false, Option.isNone_none, Option.isNone_some, Option.isSome_none, Option.isSome_some, ne_eq, Decidable.not_not] at hc1
    exfalso
    (simp at hc1)
  · try (exfalso; first | (simp at hc1; done) | (simp only [decide_eq_true_eq, decide_eq_false_iff_not, Bool.not_eq_true', Bool.not_eq_false', Bool.not_eq_true, Bool.not_eq_false] at hc1; omega) | omega)
    all_goals
     try simp only [decide_eq_true_eq, decide_eq_false_iff_not, Bool.not_eq_true', Bool.not_eq_false', Bool.not_eq_true, Bool.not_eq_false, Option.isNone_none, Option.isNone_some, Option.isSome_none, Option.isSome_some, ne_eq, Decidable.not_not] at hc1
     refine WC.skip ?_
     refine WX.next ?_
     refine WC.seq ?_
     refine WC.region ?_
     refine WL.val rfl rfl rfl rfl (r_move rfl (ev_t rfl)) ?_
     refine WL.val rfl rfl rfl rfl (r_convN rfl (ev_t rfl) some_5 int_3 (by simp only [inK]; omega)) ?_
     refine WL.val rfl rfl rfl rfl (r_addN rfl ev_c (ev_t rfl) (by simp only [inK]; omega)) ?_
     refine WL.val rfl rfl rfl rfl (r_assign rfl (ev_t rfl)) ?_
     refine WL.nil ?_
     refine WX.keep [(1, _), (5, _)] ⟨rfl, rfl, trivial⟩ ?_
     refine WX.next ?_
     refine WC.seq ?_
     have eq0 : (1 : Int) + (q0 : Int) = ((1 + q0 : Nat) : Int) := by omega
     rw [eq0]
     obtain ⟨q, hqe⟩ : ∃ q, q = 1 + q0 := ⟨_, rfl⟩
     rw [← hqe]
     refine WC.region ?_
     refine WL.val rfl rfl rfl rfl (r_move rfl (ev_t rfl)) ?_
     refine WL.cons (SO.call (new_ok (by simp only [inK]; omega)) rfl body_11 ⟨(ev_t rfl), trivial⟩ rfl rfl rfl rfl ?_)
     rintro v w2 ⟨-, hnew, hu2⟩
     have hs2 := hu2.size
     replace hU := hU.trans hu2 (by exact (fun _ _ h => h))
     obtain ⟨rfl, hbp⟩ := hnew (by omega)
     obtain ⟨p, hpe⟩ : ∃ p, p = (w1).heap.size := ⟨_, rfl⟩
     rw [← hpe] at hbp ⊢
     have hBp : B ≤ p := by have := hU.size; have := (hu2).size; omega
     have hbpl := hbp.lt
     refine WL.val rfl rfl rfl rfl (r_move rfl (ev_t rfl)) ?_
     refine WL.val rfl rfl rfl rfl (r_extract rfl (ev_t rfl) rfl) ?_
     refine WL.val rfl rfl rfl rfl (r_extract rfl (ev_t rfl) rfl) ?_
     refine WL.val rfl rfl rfl rfl (r_assign rfl (ev_t rfl)) ?_
     refine WL.val rfl rfl rfl rfl (r_assign rfl (ev_t rfl)) ?_
     refine WL.nil ?_
     refine WX.keep [(1, _), (5, _), (6, _), (7, _)] ⟨rfl, rfl, rfl, rfl, trivial⟩ ?_
     refine WX.next ?_
     refine WC.seq ?_
     refine WC.seq ?_
     refine WC.region ?_
     refine WL.val rfl rfl rfl rfl (r_move rfl (ev_t rfl)) ?_
     refine WL.val rfl rfl rfl rfl (r_neq rfl (ev_t rfl) ev_c) ?_
     refine WL.nil ?_
     refine WX.keep [(1, _), (5, _), (6, _), (45, _)] ⟨rfl, rfl, rfl, rfl, trivial⟩ ?_
     refine WX.next ?_
     refine WC.cond rfl (ev_t rfl) (fun hc5 => ?_) (fun hc5 => ?_)
     · try simp only [decide_eq_true_eq, decide_eq_false_iff_not, Bool.not_eq_true', Bool.not_eq_false', Bool.not_eq_true, Bool.not_eq_false, Option.isNone_none, Option.isNone_some, Option.isSome_none, Option.isSome_some, ne_eq, Decidable.not_not] at hc5
       exfalso
       (simp at hc5)
     · try (exfalso; first | (simp at hc5; done) | (simp only [decide_eq_true_eq, decide_eq_false_iff_not, Bool.not_eq_true', Bool.not_eq_false', Bool.not_eq_true, Bool.not_eq_false] at hc5; omega) | omega)
       all_goals
        try simp only [decide_eq_true_eq, decide_eq_false_iff_not, Bool.not_eq_true', Bool.not_eq_false', Bool.not_eq_true, Bool.not_eq_false, Option.isNone_none, Option.isNone_some, Option.isSome_none, Option.isSome_some, ne_eq, Decidable.not_not] at hc5
        refine WC.skip ?_
        refine WX.next ?_
        refine WC.seq ?_
        refine WC.region ?_
        refine WL.val rfl rfl rfl rfl (r_assign rfl ev_c) ?_
        refine WL.nil ?_
        refine WX.keep [(1, _), (5, _), (6, _), (8, _)] ⟨rfl, rfl, rfl, rfl, trivial⟩ ?_
        refine WX.next ?_
        refine WC.seq ?_
        refine WC.region ?_
        refine WL.val rfl rfl rfl rfl (r_assign rfl ev_c) ?_
        refine WL.nil ?_
        refine WX.keep [(1, _), (5, _), (6, _), (8, _), (9, _)] ⟨rfl, rfl, rfl, rfl, rfl, trivial⟩ ?_
        refine WX.next ?_
        refine WC.seq ?_
        refine WC.seq ?_
        refine WC.region ?_
        refine WL.val rfl rfl rfl rfl (r_assign rfl ev_c) ?_
        refine WL.nil ?_
        refine WX.keep [(1, _), (5, _), (6, _), (8, _), (9, _), (10, _)] ⟨rfl, rfl, rfl, rfl, rfl, rfl, trivial⟩ ?_
        refine WX.next ?_
        refine WC.block ?_
        -- loop 1: live [1, 5, 6, 8, 9, 10]
        refine WC.keep [(1, _), (5, _), (6, _), (8, _), (9, _), (10, _)] ⟨rfl, rfl, rfl, rfl, rfl, rfl, trivial⟩ ?_
        refine WC.loop (fun qq E wC => ∃ (i : Nat) (mem ys : List Nat) (vm vr : Value), i ≤ 80 ∧ i ≤ l.length ∧ qq = l.length - i ∧ PL wC B p q i mem ys vm vr ∧ Upd No w wC ∧ E = [(1, .slice Al l.length cl), (5, .int .i64 (q : Int)), (6, .pointer (some ⟨p, 0, none⟩)), (8, vm), (9, vr), (10, .int .i64 (i : Int))]) (l.length) ?_ ?_
        · have hle9 : ([] : List Nat).length ≤ q ∧ q ≤ 1048576 := ⟨Nat.zero_le _, by omega⟩
          exact ⟨0, [], [], _, _, by omega, by omega, by omega, ⟨No, No, No, none, 0, [], 0, ⟨hbp, Own.nil _ _ _ _, fun h => h.elim, fun k h => h.elim, hle9, by omega⟩, ⟨Vd.nil, fun a h => (by cases h)⟩, fun a h => (by cases h), by omega, by simp, Own.nil _ _ _ _, Own.nil _ _ _ _, fun y h => (by cases h), fun k h => h.elim, fun k h => h.elim, fun k h => h.elim⟩, hU, rfl⟩
        · clear hU
          rintro qq E wC ⟨i, mem, ys, vm, vr, hi80, hi, rfl, hPL, hU, rfl⟩
          obtain ⟨G, Gm, Gr, A, c, st, n, hH, hg, ht, hn, hyl, hM, hR, hye, hGB, hGm, hGr⟩ := hPL
          obtain ⟨Am, cm, rfl, _⟩ := hM.form
          obtain ⟨Ar, cr, rfl, _⟩ := hR.form
          have hUs := hU.size
          have hGl := hH.lt
          have hpl := hH.hd.lt
          have hle := hH.le
          have hml : mem.length ≤ 1000 := by omega
          refine WC.seq ?_
          refine WC.seq ?_
          refine WC.region ?_
          refine WL.val rfl rfl rfl rfl (r_move rfl (ev_t rfl)) ?_
          refine WL.val rfl rfl rfl rfl (r_move rfl (ev_t rfl)) ?_
          refine WL.val rfl rfl rfl rfl (r_lenSlice (ts := #[]) rfl (ev_t rfl) elem_59) ?_
          refine WL.val rfl rfl rfl rfl (r_lss rfl (ev_t rfl) (ev_t rfl)) ?_
          refine WL.val rfl rfl rfl rfl (r_move rfl (ev_t rfl)) ?_
          refine WL.cases 50 rfl (fun hb10_4 => ?_) (fun hb10_4 => ?_)
          · try (exfalso; first | (simp at hb10_4; done) | (simp only [decide_eq_true_eq, decide_eq_false_iff_not, Bool.not_eq_true', Bool.not_eq_false', Bool.not_eq_true, Bool.not_eq_false] at hb10_4; omega) | omega)
            all_goals
             try simp only [decide_eq_true_eq, decide_eq_false_iff_not, Bool.not_eq_true', Bool.not_eq_false', Bool.not_eq_true, Bool.not_eq_false, Option.isNone_none, Option.isNone_some, Option.isSome_none, Option.isSome_some, ne_eq, Decidable.not_not] at hb10_4
             have hil : i < l.length := by omega
             refine WL.val rfl rfl rfl rfl (r_move rfl (ev_t rfl)) ?_
             refine WL.val rfl rfl rfl rfl (r_lss rfl (ev_t rfl) ev_c) ?_
             refine WL.val rfl rfl rfl rfl (r_pickT rfl (ev_t rfl) (ev_t rfl)) ?_
             refine WL.nil ?_
             refine WX.keep [(1, _), (5, _), (6, _), (8, _), (9, _), (10, _), (53, _)] ⟨rfl, rfl, rfl, rfl, rfl, rfl, rfl, trivial⟩ ?_
             refine WX.next ?_
             refine WC.cond rfl (ev_t rfl) (fun hc10 => ?_) (fun hc10 => ?_)
             · try (exfalso; first | (simp at hc10; done) | (simp only [decide_eq_true_eq, decide_eq_false_iff_not, Bool.not_eq_true', Bool.not_eq_false', Bool.not_eq_true, Bool.not_eq_false] at hc10; omega) | omega)
               all_goals
                try simp only [decide_eq_true_eq, decide_eq_false_iff_not, Bool.not_eq_true', Bool.not_eq_false', Bool.not_eq_true, Bool.not_eq_false, Option.isNone_none, Option.isNone_some, Option.isSome_none, Option.isSome_some, ne_eq, Decidable.not_not] at hc10
                have hi8 : i < 80 := by omega
                obtain ⟨bl, ol, rfl, _⟩ := hs0.open (by omega)
                obtain ⟨a, hga⟩ : ∃ a, l[i]? = some a := ⟨_, List.getElem?_eq_getElem hil⟩
                obtain ⟨hk0, hk1, hrd, hps, hsl⟩ := hA a (List.mem_of_getElem? hga)
                have hcell := flatMap_get ActP.cells_len hga
                rcases a with ⟨ak, akk, av, aps, as_⟩
                simp only [ActP.cells] at hk0 hk1 hrd hps hsl hcell
                obtain ⟨Aa, ca, rfl, hca⟩ := hrd.slice_form
                have ham := hrd.le
                refine WC.skip ?_
                refine WX.next ?_
                refine WC.seq ?_
                refine WC.block ?_
                refine WC.seq ?_
                refine WC.region ?_
                refine WL.val rfl rfl rfl rfl (r_move rfl (ev_t rfl)) ?_
                refine WL.val rfl rfl rfl rfl (r_move rfl (ev_t rfl)) ?_
                refine WL.val rfl rfl rfl rfl (r_indexAddr rfl (ev_t rfl) (ev_t rfl) elem_59 size_62 (by omega) (by omega)) ?_
                refine WL.val rfl rfl rfl rfl (r_loadAgg (vs := [_, _, _, _]) rfl (ev_t rfl) agg_62 size_62 (Rd.cellsL (us := [.int .u8 (ak : Int), .int .u8 (akk : Int), .slice Aa aps.length ca, .string ⟨as_.toArray⟩]) (hs0.upd hU (fun _ _ _ h => h)) (i := i * 4) (by omega) hcell)) ?_
                refine WL.cons (SO.alloc rfl rfl rfl rfl (r_alloc rfl zero_62) ?_)
                intro w3 hu3 hB3 hz3
                have hs3 := hu3.size
                replace hU := hU.trans hu3 (by exact (fun _ _ h => h))
                replace hH := hH.upd hu3 (fun k hk hl hS => by exact (show False from hS).elim)
                replace hM := hM.upd hu3 (fun k hk hl hS => by have h1 := hGm k hk; exact (show False from hS).elim)
                replace hR := hR.upd hu3 (fun k hk hl hS => by have h1 := hGr k hk; exact (show False from hS).elim)
                refine WL.cons (SO.storeAll (us := [_, _, _, _]) rfl (ev_t rfl) (ev_t rfl) size_62 hB3 rfl rfl rfl rfl rfl ?_)
                intro w4 hu4 hB3 hz4
                have hs4 := hu4.size
                replace hU := hU.trans hu4 (by (intro k hl hk; (try simp only [At, New, Grow, From, No] at hk ⊢); omega))
                replace hH := hH.upd hu4 (fun k hk hl hS => by (simp only [At] at hS; rcases hk with hk | hk; omega; have := hGl k hk; omega))
                replace hM := hM.upd hu4 (fun k hk hl hS => by have h1 := hGm k hk; (simp only [At] at hS; omega))
                replace hR := hR.upd hu4 (fun k hk hl hS => by have h1 := hGr k hk; (simp only [At] at hS; omega))
                refine WL.nil ?_
                refine WX.keep [(1, _), (5, _), (6, _), (8, _), (9, _), (10, _), (11, _)] ⟨rfl, rfl, rfl, rfl, rfl, rfl, rfl, trivial⟩ ?_
                obtain ⟨bX, hbXe⟩ : ∃ b, b = wC.heap.size := ⟨_, rfl⟩
                have hBx : Blk w4 bX #[.int .u8 (ak : Int), .int .u8 (akk : Int), .slice Aa aps.length ca, .string ⟨as_.toArray⟩] 62 := by rw [hbXe]; exact hB3
                rw [← hbXe]
                have hbl := hBx.lt
                refine WX.next ?_
                -- cut 13: live [1, 5, 6, 8, 9, 10]
                refine WC.cut (fun E wB => ∃ (mem ys : List Nat) (vm vr : Value), PL wB B p q (i + 1) mem ys vm vr ∧ Upd No w wB ∧ E = [(1, .slice (some ⟨bl, ol, none⟩) l.length cl), (5, .int .i64 (q : Int)), (6, .pointer (some ⟨p, 0, none⟩)), (8, vm), (9, vr), (10, .int .i64 (i : Int))]) ?_ ?_
                · refine WC.seq ?_
                  refine WC.region ?_
                  refine WL.val rfl rfl rfl rfl (r_field0 rfl (ev_t rfl) fld_62_0) ?_
                  refine WL.val rfl rfl rfl rfl (r_load rfl (ev_t rfl) flat_5 (Blk.cell hBx rfl)) ?_
                  refine WL.val rfl rfl rfl rfl (r_remN rfl (ev_t rfl) ev_c (by omega) (by omega)) ?_
                  obtain ⟨kk, hkk⟩ : ∃ k, k = ak % 8 := ⟨_, rfl⟩
                  rw [show (ak : Int) % 8 = ((kk : Nat) : Int) by omega]
                  have hk8 : kk < 8 := by omega
                  refine WL.val rfl rfl rfl rfl (r_assign rfl (ev_t rfl)) ?_
                  refine WL.nil ?_
                  refine WX.keep [(1, _), (5, _), (6, _), (8, _), (9, _), (10, _), (11, _), (12, _)] ⟨rfl, rfl, rfl, rfl, rfl, rfl, rfl, rfl, trivial⟩ ?_
                  refine WX.next ?_
                  refine WC.block ?_
                  refine WC.seq ?_
                  refine WC.region ?_
                  refine WL.val rfl rfl rfl rfl (r_move rfl (ev_t rfl)) ?_
                  refine WL.val rfl rfl rfl rfl (r_lss rfl (ev_t rfl) ev_c) ?_
                  refine WL.val rfl rfl rfl rfl (r_assign rfl (ev_t rfl)) ?_
                  refine WL.nil ?_
                  refine WX.keep [(1, _), (5, _), (6, _), (8, _), (9, _), (10, _), (11, _), (12, _), (83, _)] ⟨rfl, rfl, rfl, rfl, rfl, rfl, rfl, rfl, rfl, trivial⟩ ?_
                  refine WX.next ?_
                  refine WC.cond rfl (ev_t rfl) (fun hc19 => ?_) (fun hc19 => ?_)
                  · try (exfalso; first | (simp at hc19; done) | (simp only [decide_eq_true_eq, decide_eq_false_iff_not, Bool.not_eq_true', Bool.not_eq_false', Bool.not_eq_true, Bool.not_eq_false] at hc19; omega) | omega)
                    all_goals
                     try simp only [decide_eq_true_eq, decide_eq_false_iff_not, Bool.not_eq_true', Bool.not_eq_false', Bool.not_eq_true, Bool.not_eq_false, Option.isNone_none, Option.isNone_some, Option.isSome_none, Option.isSome_some, ne_eq, Decidable.not_not] at hc19
                     have hk5 : kk < 5 := by omega
                     refine WC.seq ?_
                     refine WC.region ?_
                     refine WL.cons (SO.alloc rfl rfl rfl rfl (r_buildSlice1 (vs := [_, _, _, _, _]) rfl ⟨ev_c, ev_c, ev_c, ev_c, ev_c, trivial⟩ rfl row_63 rfl rfl) ?_)
                     intro w5 hu5 hB5 hz5
                     have hs5 := hu5.size
                     replace hU := hU.trans hu5 (by exact (fun _ _ h => h))
                     replace hH := hH.upd hu5 (fun k hk hl hS => by exact (show False from hS).elim)
                     replace hM := hM.upd hu5 (fun k hk hl hS => by have h1 := hGm k hk; exact (show False from hS).elim)
                     replace hR := hR.upd hu5 (fun k hk hl hS => by have h1 := hGr k hk; exact (show False from hS).elim)
                     replace hBx := hBx.upd hu5 (fun hS => by exact (show False from hS))
                     refine WL.val rfl rfl rfl rfl (r_move rfl (ev_t rfl)) ?_
                     refine WL.val rfl rfl rfl rfl (r_indexAddr rfl (ev_t rfl) (ev_t rfl) elem_63 size_5 (by omega) (by omega)) ?_
                     rw [show 0 + (kk : Int).toNat * 1 = kk by omega]
                     refine WL.val rfl rfl rfl rfl (r_load rfl (ev_t rfl) flat_5 (kd_cell hB5 hk5)) ?_
                     obtain ⟨kd, hkd⟩ : ∃ d, d = kdL.getD kk 0 := ⟨_, rfl⟩
                     rw [← hkd]
                     have hkdo := kd_ok hk5
                     rw [← hkd] at hkdo
                     refine WL.val rfl rfl rfl rfl (r_build (cs := #[_, _, _]) (vs := [(0, _)]) rfl ⟨⟨rfl, (ev_t rfl)⟩, trivial⟩ plc_56 zero_56 rfl) ?_
                     obtain ⟨bO, hbOe⟩ : ∃ g, g = w5.heap.size := ⟨_, rfl⟩
                     have hbXO : bX < bO := by have := hBx.lt; omega
                     refine WL.cons (SO.alloc rfl rfl rfl rfl (r_alloc rfl zero_56) ?_)
                     intro w6 hu6 hB6 hz6
                     have hs6 := hu6.size
                     replace hU := hU.trans hu6 (by exact (fun _ _ h => h))
                     replace hH := hH.upd hu6 (fun k hk hl hS => by exact (show False from hS).elim)
                     replace hM := hM.upd hu6 (fun k hk hl hS => by have h1 := hGm k hk; exact (show False from hS).elim)
                     replace hR := hR.upd hu6 (fun k hk hl hS => by have h1 := hGr k hk; exact (show False from hS).elim)
                     replace hBx := hBx.upd hu6 (fun hS => by exact (show False from hS))
                     refine WL.cons (SO.storeAll (us := [_, _, _]) rfl (ev_t rfl) (ev_t rfl) size_56 hB6 rfl rfl rfl rfl rfl ?_)
                     intro w7 hu7 hB6 hz7
                     have hs7 := hu7.size
                     replace hU := hU.trans hu7 (by (intro k hl hk; (try simp only [At, New, Grow, From, No] at hk ⊢); omega))
                     replace hH := hH.upd hu7 (fun k hk hl hS => by (simp only [At] at hS; rcases hk with hk | hk; omega; have := hGl k hk; omega))
                     replace hM := hM.upd hu7 (fun k hk hl hS => by have h1 := hGm k hk; (simp only [At] at hS; omega))
                     replace hR := hR.upd hu7 (fun k hk hl hS => by have h1 := hGr k hk; (simp only [At] at hS; omega))
                     replace hBx := hBx.upd hu7 (fun hS => by (simp only [At] at hS; omega))
                     refine WL.nil ?_
                     refine WX.keep [(1, _), (5, _), (6, _), (8, _), (9, _), (10, _), (11, _), (12, _), (13, _)] ⟨rfl, rfl, rfl, rfl, rfl, rfl, rfl, rfl, rfl, trivial⟩ ?_
                     have hbO : Blk w7 bO #[.int .u8 (kd : Int), .slice none 0 0, .string ⟨([] : List UInt8).toArray⟩] 56 := by rw [hbOe]; exact hB6
                     rw [← hbOe]
                     refine WX.next ?_
                     refine WC.seq ?_
                     refine WC.region ?_
                     refine WL.val rfl rfl rfl rfl (r_assign rfl ev_c) ?_
                     refine WL.nil ?_
                     refine WX.keep [(1, _), (5, _), (6, _), (8, _), (9, _), (10, _), (11, _), (12, _), (13, _), (14, _)] ⟨rfl, rfl, rfl, rfl, rfl, rfl, rfl, rfl, rfl, rfl, trivial⟩ ?_
                     refine WX.next ?_
                     -- cut 22: live [1, 5, 6, 8, 9, 10, 11, 12, 13, 14]
                     refine WC.cut (fun E wB => ∃ (s2 : List UInt8), Upd No w wB ∧ HS wB G p A c mem q n ∧ Own wB Gm 31 1 (.slice Am mem.length cm) mem.length (mem.map Wd) ∧ Own wB Gr tWord 1 (.slice Ar ys.length cr) ys.length (ys.map Wd) ∧ Blk wB bX #[.int .u8 (ak : Int), .int .u8 (akk : Int), .slice Aa aps.length ca, .string ⟨as_.toArray⟩] 62 ∧ Blk wB bO #[.int .u8 (kd : Int), .slice none 0 0, .string ⟨s2.toArray⟩] 56 ∧ ((kd = 3 ∧ s2 = as_) ∨ (kd ≠ 3 ∧ s2 = [])) ∧ E = [(1, .slice (some ⟨bl, ol, none⟩) l.length cl), (5, .int .i64 (q : Int)), (6, .pointer (some ⟨p, 0, none⟩)), (8, .slice Am mem.length cm), (9, .slice Ar ys.length cr), (10, .int .i64 (i : Int)), (11, .pointer (some ⟨bX, 0, none⟩)), (12, .int .u8 (kk : Int)), (13, .pointer (some ⟨bO, 0, none⟩)), (14, .slice none 0 0)]) ?_ ?_
                     · refine WC.seq ?_
                       refine WC.region ?_
                       refine WL.val rfl rfl rfl rfl (r_move rfl (ev_t rfl)) ?_
                       refine WL.val rfl rfl rfl rfl (r_eql rfl (ev_t rfl) ev_c) ?_
                       refine WL.nil ?_
                       refine WX.keep [(1, _), (5, _), (6, _), (8, _), (9, _), (10, _), (11, _), (12, _), (13, _), (14, _), (92, _)] ⟨rfl, rfl, rfl, rfl, rfl, rfl, rfl, rfl, rfl, rfl, rfl, trivial⟩ ?_
                       refine WX.next ?_
                       refine WC.cond rfl (ev_t rfl) (fun hc22 => ?_) (fun hc22 => ?_)
                       · try (exfalso; first | (simp at hc22; done) | (simp only [decide_eq_true_eq, decide_eq_false_iff_not, Bool.not_eq_true', Bool.not_eq_false', Bool.not_eq_true, Bool.not_eq_false] at hc22; omega) | omega)
                         all_goals
                          try simp only [decide_eq_true_eq, decide_eq_false_iff_not, Bool.not_eq_true', Bool.not_eq_false', Bool.not_eq_true, Bool.not_eq_false, Option.isNone_none, Option.isNone_some, Option.isSome_none, Option.isSome_some, ne_eq, Decidable.not_not] at hc22
                          refine WC.region ?_
                          refine WL.val rfl rfl rfl rfl (r_field0 rfl (ev_t rfl) fld_62_3) ?_
                          refine WL.val rfl rfl rfl rfl (r_load rfl (ev_t rfl) flat_9 (Blk.cell hBx rfl)) ?_
                          refine WL.val rfl rfl rfl rfl (r_field0 rfl (ev_t rfl) fld_56_2) ?_
                          refine WL.cons (SO.store rfl (ev_t rfl) (ev_t rfl) size_9 hbO rfl rfl rfl rfl rfl ?_)
                          intro w8 hu8 hbO hz8
                          have hs8 := hu8.size
                          replace hU := hU.trans hu8 (by (intro k hl hk; (try simp only [At, New, Grow, From, No] at hk ⊢); omega))
                          replace hH := hH.upd hu8 (fun k hk hl hS => by (simp only [At] at hS; rcases hk with hk | hk; omega; have := hGl k hk; omega))
                          replace hM := hM.upd hu8 (fun k hk hl hS => by have h1 := hGm k hk; (simp only [At] at hS; omega))
                          replace hR := hR.upd hu8 (fun k hk hl hS => by have h1 := hGr k hk; (simp only [At] at hS; omega))
                          replace hBx := hBx.upd hu8 (fun hS => by (simp only [At] at hS; omega))
                          refine WL.nil ?_
                          refine WX.keep [(1, _), (5, _), (6, _), (8, _), (9, _), (10, _), (11, _), (12, _), (13, _), (14, _)] ⟨rfl, rfl, rfl, rfl, rfl, rfl, rfl, rfl, rfl, rfl, trivial⟩ ?_
                          refine WX.meet [(1, _), (5, _), (6, _), (8, _), (9, _), (10, _), (11, _), (12, _), (13, _), (14, _)] ⟨rfl, rfl, rfl, rfl, rfl, rfl, rfl, rfl, rfl, rfl, trivial⟩ ?_
                          first
                            | exact ⟨as_, hU, hH, hM, hR, hBx, hbO, .inl ⟨hkdo.2.2.2 (by omega), rfl⟩, rfl⟩
                       · try (exfalso; first | (simp at hc22; done) | (simp only [decide_eq_true_eq, decide_eq_false_iff_not, Bool.not_eq_true', Bool.not_eq_false', Bool.not_eq_true, Bool.not_eq_false] at hc22; omega) | omega)
                         all_goals
                          try simp only [decide_eq_true_eq, decide_eq_false_iff_not, Bool.not_eq_true', Bool.not_eq_false', Bool.not_eq_true, Bool.not_eq_false, Option.isNone_none, Option.isNone_some, Option.isSome_none, Option.isSome_some, ne_eq, Decidable.not_not] at hc22
                          refine WC.skip ?_
                          refine WX.meet [(1, _), (5, _), (6, _), (8, _), (9, _), (10, _), (11, _), (12, _), (13, _), (14, _)] ⟨rfl, rfl, rfl, rfl, rfl, rfl, rfl, rfl, rfl, rfl, trivial⟩ ?_
                          first
                            | exact ⟨[], hU, hH, hM, hR, hBx, hbO, .inr ⟨fun h => by have := hkdo.2.2.1 h; omega, rfl⟩, rfl⟩
                     · clear hU hH hM hR hBx hbO
                       rintro E wB ⟨s2, hU, hH, hM, hR, hBx, hbO, hs2, rfl⟩
                       -- cut 24: live [1, 5, 6, 8, 9, 10, 11, 12, 13, 14]
                       refine WC.cut (fun E wE => ∃ (zs : List Nat) (vP : Value) (Gv : Nat → Prop), zs.length ≤ 6 ∧ (kk = 4 → zs = []) ∧ (zs.length = 0 → vP = .slice none 0 0) ∧ (∀ z ∈ zs, z < 18446744073709551616 ∧ (z % 2 = 1 ∨ z / 2 ∈ st)) ∧ Own wE Gv tWord 1 vP zs.length (zs.map Wd) ∧ (∀ k, Gv k → bO < k ∧ k < wE.heap.size) ∧ Upd No w wE ∧ HS wE G p A c mem q n ∧ Own wE Gm 31 1 (.slice Am mem.length cm) mem.length (mem.map Wd) ∧ Own wE Gr tWord 1 (.slice Ar ys.length cr) ys.length (ys.map Wd) ∧ Blk wE bX #[.int .u8 (ak : Int), .int .u8 (akk : Int), .slice Aa aps.length ca, .string ⟨as_.toArray⟩] 62 ∧ Blk wE bO #[.int .u8 (kd : Int), .slice none 0 0, .string ⟨s2.toArray⟩] 56 ∧ E = [(1, .slice (some ⟨bl, ol, none⟩) l.length cl), (5, .int .i64 (q : Int)), (6, .pointer (some ⟨p, 0, none⟩)), (8, .slice Am mem.length cm), (9, .slice Ar ys.length cr), (10, .int .i64 (i : Int)), (11, .pointer (some ⟨bX, 0, none⟩)), (12, .int .u8 (kk : Int)), (13, .pointer (some ⟨bO, 0, none⟩)), (14, vP)]) ?_ ?_
                       · refine WC.seq ?_
                         refine WC.region ?_
                         refine WL.val rfl rfl rfl rfl (r_assign rfl ev_c) ?_
                         refine WL.nil ?_
                         refine WX.keep [(1, _), (5, _), (6, _), (8, _), (9, _), (10, _), (11, _), (12, _), (13, _), (14, _), (15, _)] ⟨rfl, rfl, rfl, rfl, rfl, rfl, rfl, rfl, rfl, rfl, rfl, trivial⟩ ?_
                         refine WX.next ?_
                         refine WC.block ?_
                         -- loop 2: live [1, 5, 6, 8, 9, 10, 11, 12, 13, 14, 15]
                         refine WC.keep [(1, _), (5, _), (6, _), (8, _), (9, _), (10, _), (11, _), (12, _), (13, _), (14, _), (15, _)] ⟨rfl, rfl, rfl, rfl, rfl, rfl, rfl, rfl, rfl, rfl, rfl, trivial⟩ ?_
                         refine WC.loop (fun qq E wD => ∃ (j : Nat) (zs : List Nat) (vP : Value) (Gv : Nat → Prop), j ≤ aps.length ∧ qq = aps.length - j ∧ zs.length = j ∧ j ≤ 6 ∧ (kk = 4 → j = 0) ∧ (j = 0 → vP = .slice none 0 0) ∧ (∀ z ∈ zs, z < 18446744073709551616 ∧ (z % 2 = 1 ∨ z / 2 ∈ st)) ∧ Own wD Gv tWord 1 vP j (zs.map Wd) ∧ (∀ k, Gv k → bO < k) ∧ Upd No w wD ∧ HS wD G p A c mem q n ∧ Own wD Gm 31 1 (.slice Am mem.length cm) mem.length (mem.map Wd) ∧ Own wD Gr tWord 1 (.slice Ar ys.length cr) ys.length (ys.map Wd) ∧ Blk wD bX #[.int .u8 (ak : Int), .int .u8 (akk : Int), .slice Aa aps.length ca, .string ⟨as_.toArray⟩] 62 ∧ Blk wD bO #[.int .u8 (kd : Int), .slice none 0 0, .string ⟨s2.toArray⟩] 56 ∧ E = [(1, .slice (some ⟨bl, ol, none⟩) l.length cl), (5, .int .i64 (q : Int)), (6, .pointer (some ⟨p, 0, none⟩)), (8, .slice Am mem.length cm), (9, .slice Ar ys.length cr), (10, .int .i64 (i : Int)), (11, .pointer (some ⟨bX, 0, none⟩)), (12, .int .u8 (kk : Int)), (13, .pointer (some ⟨bO, 0, none⟩)), (14, vP), (15, .int .i64 (j : Int))]) (aps.length) ?_ ?_
                         · exact ⟨0, [], _, No, by omega, by omega, rfl, by omega, fun _ => rfl, fun _ => rfl, fun z h => (by cases h), Own.nil _ _ _ _, fun k h => h.elim, hU, hH, hM, hR, hBx, hbO, rfl⟩
                         · clear hU hH hM hR hBx hbO
                           rintro qq E wD ⟨j, zs, vP, Gv, hj, rfl, hzl, hj6, hk4, hv0, hzs, hV, hGv, hU, hH, hM, hR, hBx, hbO, rfl⟩
                           have hbOD := hbO.lt
                           refine WC.seq ?_
                           refine WC.seq ?_
                           refine WC.region ?_
                           refine WL.val rfl rfl rfl rfl (r_move rfl (ev_t rfl)) ?_
                           refine WL.val rfl rfl rfl rfl (r_field0 rfl (ev_t rfl) fld_62_2) ?_
                           refine WL.val rfl rfl rfl rfl (r_load rfl (ev_t rfl) flat_60 (Blk.cell hBx rfl)) ?_
                           refine WL.val rfl rfl rfl rfl (r_lenSlice (ts := #[]) rfl (ev_t rfl) elem_60) ?_
                           refine WL.val rfl rfl rfl rfl (r_lss rfl (ev_t rfl) (ev_t rfl)) ?_
                           refine WL.val rfl rfl rfl rfl (r_move rfl (ev_t rfl)) ?_
                           refine WL.cases 101 rfl (fun hb25_5 => ?_) (fun hb25_5 => ?_)
                           · try (exfalso; first | (simp at hb25_5; done) | (simp only [decide_eq_true_eq, decide_eq_false_iff_not, Bool.not_eq_true', Bool.not_eq_false', Bool.not_eq_true, Bool.not_eq_false] at hb25_5; omega) | omega)
                             all_goals
                              try simp only [decide_eq_true_eq, decide_eq_false_iff_not, Bool.not_eq_true', Bool.not_eq_false', Bool.not_eq_true, Bool.not_eq_false, Option.isNone_none, Option.isNone_some, Option.isSome_none, Option.isSome_some, ne_eq, Decidable.not_not] at hb25_5
                              refine WL.val rfl rfl rfl rfl (r_move rfl (ev_t rfl)) ?_
                              refine WL.val rfl rfl rfl rfl (r_lss rfl (ev_t rfl) ev_c) ?_
                              refine WL.val rfl rfl rfl rfl (r_pickT rfl (ev_t rfl) (ev_t rfl)) ?_
                              refine WL.val rfl rfl rfl rfl (r_move rfl (ev_t rfl)) ?_
                              refine WL.cases 105 rfl (fun hb25_9 => ?_) (fun hb25_9 => ?_)
                              · try (exfalso; first | (simp at hb25_9; done) | (simp only [decide_eq_true_eq, decide_eq_false_iff_not, Bool.not_eq_true', Bool.not_eq_false', Bool.not_eq_true, Bool.not_eq_false] at hb25_9; omega) | omega)
                                all_goals
                                 try simp only [decide_eq_true_eq, decide_eq_false_iff_not, Bool.not_eq_true', Bool.not_eq_false', Bool.not_eq_true, Bool.not_eq_false, Option.isNone_none, Option.isNone_some, Option.isSome_none, Option.isSome_some, ne_eq, Decidable.not_not] at hb25_9
                                 refine WL.val rfl rfl rfl rfl (r_move rfl (ev_t rfl)) ?_
                                 refine WL.val rfl rfl rfl rfl (r_lss rfl (ev_t rfl) ev_c) ?_
                                 refine WL.val rfl rfl rfl rfl (r_pickT rfl (ev_t rfl) (ev_t rfl)) ?_
                                 refine WL.nil ?_
                                 refine WX.keep [(1, _), (5, _), (6, _), (8, _), (9, _), (10, _), (11, _), (12, _), (13, _), (14, _), (15, _), (108, _)] ⟨rfl, rfl, rfl, rfl, rfl, rfl, rfl, rfl, rfl, rfl, rfl, rfl, trivial⟩ ?_
                                 refine WX.next ?_
                                 refine WC.cond rfl (ev_t rfl) (fun hc25 => ?_) (fun hc25 => ?_)
                                 · try (exfalso; first | (simp at hc25; done) | (simp only [decide_eq_true_eq, decide_eq_false_iff_not, Bool.not_eq_true', Bool.not_eq_false', Bool.not_eq_true, Bool.not_eq_false] at hc25; omega) | omega)
                                   all_goals
                                    try simp only [decide_eq_true_eq, decide_eq_false_iff_not, Bool.not_eq_true', Bool.not_eq_false', Bool.not_eq_true, Bool.not_eq_false, Option.isNone_none, Option.isNone_some, Option.isSome_none, Option.isSome_some, ne_eq, Decidable.not_not] at hc25
                                    have hjl : j < aps.length := by omega
                                    have hj5 : j < 6 := by omega
                                    have hk3 : kk < 4 := by omega
                                    obtain ⟨ba, oa, rfl, _⟩ := hrd.open (by omega)
                                    obtain ⟨n0, hn0⟩ : ∃ n0, aps[j]? = some n0 := ⟨_, List.getElem?_eq_getElem hjl⟩
                                    refine WC.skip ?_
                                    refine WX.next ?_
                                    refine WC.seq ?_
                                    refine WC.block ?_
                                    refine WC.region ?_
                                    refine WL.val rfl rfl rfl rfl (r_move rfl (ev_t rfl)) ?_
                                    refine WL.val rfl rfl rfl rfl (r_field0 rfl (ev_t rfl) fld_62_2) ?_
                                    refine WL.val rfl rfl rfl rfl (r_load rfl (ev_t rfl) flat_60 (Blk.cell hBx rfl)) ?_
                                    refine WL.val rfl rfl rfl rfl (r_move rfl (ev_t rfl)) ?_
                                    refine WL.val rfl rfl rfl rfl (r_indexAddr rfl (ev_t rfl) (ev_t rfl) elem_60 size_2 (by omega) (by omega)) ?_
                                    refine WL.val rfl rfl rfl rfl (r_load rfl (ev_t rfl) flat_2 ((hrd.upd hU (fun _ _ _ h => h)).cell (j := j) (u := I64 n0) (show oa + (j : Int).toNat * 1 = oa + j by omega) (by rw [List.getElem?_map, hn0]; rfl))) ?_
                                    refine WL.val rfl rfl rfl rfl (r_move rfl (ev_t rfl)) ?_
                                    refine WL.cons (SO.call (lpart_ok (hR.rd (by omega)) (hps n0 (List.mem_of_getElem? hn0)) (by omega) (fun y hy => by have h1 := hye y hy; have h2 := (hg.vd.in h1.2).1; omega)) rfl body_30 ⟨(ev_t rfl), (ev_t rfl), trivial⟩ rfl rfl rfl rfl ?_)
                                    rintro v w9 ⟨hu9, z, rfl, hz, hzy⟩
                                    have hs9 := hu9.size
                                    replace hU := hU.trans hu9 (by exact (fun _ _ h => h))
                                    replace hH := hH.upd hu9 (fun k hk hl hS => by exact (show False from hS).elim)
                                    replace hM := hM.upd hu9 (fun k hk hl hS => by have h1 := hGm k hk; exact (show False from hS).elim)
                                    replace hR := hR.upd hu9 (fun k hk hl hS => by have h1 := hGr k hk; exact (show False from hS).elim)
                                    replace hBx := hBx.upd hu9 (fun hS => by exact (show False from hS))
                                    replace hbO := hbO.upd hu9 (fun hS => by exact (show False from hS))
                                    replace hV := hV.upd hu9 (fun k hk hl hS => by have h1 := hGv k hk; exact (show False from hS).elim)
                                    have hzst : z % 2 = 1 ∨ z / 2 ∈ st := by rcases hzy with h | h; exact .inl h; exact .inr (hye z h).2
                                    refine WL.cons (SO.alloc rfl rfl rfl rfl (r_buildSlice1 (vs := [_]) rfl ⟨(ev_t rfl), trivial⟩ rfl row_30 rfl rfl) ?_)
                                    intro w10 hu10 hB10 hz10
                                    have hs10 := hu10.size
                                    replace hU := hU.trans hu10 (by exact (fun _ _ h => h))
                                    replace hH := hH.upd hu10 (fun k hk hl hS => by exact (show False from hS).elim)
                                    replace hM := hM.upd hu10 (fun k hk hl hS => by have h1 := hGm k hk; exact (show False from hS).elim)
                                    replace hR := hR.upd hu10 (fun k hk hl hS => by have h1 := hGr k hk; exact (show False from hS).elim)
                                    replace hBx := hBx.upd hu10 (fun hS => by exact (show False from hS))
                                    replace hbO := hbO.upd hu10 (fun hS => by exact (show False from hS))
                                    replace hV := hV.upd hu10 (fun k hk hl hS => by have h1 := hGv k hk; exact (show False from hS).elim)
                                    refine WL.cons (SO.append hV (show Rd _ _ _ 1 1 [Wd z] from Rd.of_blk (F := At _) (n := 1) (sz := 1) hB10 rfl rfl (by omega)) row_30 (fun u hu => by simp at hu; subst hu; rfl) (le_maxLen (by omega)) (by omega) rfl (ev_t rfl) (ev_t rfl) rfl rfl rfl rfl ?_)
                                    intro v11 w11 hV hu11
                                    have hs11 := hu11.size
                                    replace hU := hU.trans hu11 (by (intro k hl hk; first | exact (show False from hk).elim | (have h2 := (hGm2x k hk).1; omega) | (have h2 := (hGm k hk).1; omega) | (have h2 := (hGr k hk).1; omega) | (have h2 := hGB k hk; omega) | (have h2 := hGv k hk; omega) | (simp only [At] at hk; omega) | (rcases hk with h | h | h | h; omega; have := hGB k h; omega; have := (hGr k h).1; omega; have := (hGvb k h).1; omega) | (rcases hk with h | h; omega; have := (hGr k h).1; omega)))
                                    replace hH := hH.upd hu11 (fun k hk hl hS => by (have h2 := hGv k hS; rcases hk with hk | hk; omega; have := hGl k hk; omega))
                                    replace hM := hM.upd hu11 (fun k hk hl hS => by have h1 := hGm k hk; (have h2 := hGv k hS; have h3 := h1.2.2.2.2; omega))
                                    replace hR := hR.upd hu11 (fun k hk hl hS => by have h1 := hGr k hk; (have h2 := hGv k hS; have h3 := h1.2.2.2; omega))
                                    replace hBx := hBx.upd hu11 (fun hS => by (have h2 := hGv _ hS; omega))
                                    replace hbO := hbO.upd hu11 (fun hS => by (have h2 := hGv _ hS; omega))
                                    obtain ⟨A11, c11, rfl, hc11⟩ := Own.form hV
                                    refine WL.val rfl rfl rfl rfl (r_assign rfl (ev_t rfl)) ?_
                                    refine WL.nil ?_
                                    refine WX.keep [(1, _), (5, _), (6, _), (8, _), (9, _), (10, _), (11, _), (12, _), (13, _), (14, _), (15, _)] ⟨rfl, rfl, rfl, rfl, rfl, rfl, rfl, rfl, rfl, rfl, rfl, trivial⟩ ?_
                                    refine WX.blockNormal ?_
                                    refine WX.next ?_
                                    refine WC.region ?_
                                    refine WL.val rfl rfl rfl rfl (r_move rfl (ev_t rfl)) ?_
                                    refine WL.val rfl rfl rfl rfl (r_addN rfl (ev_t rfl) ev_c (by simp only [inK]; omega)) ?_
                                    refine WL.val rfl rfl rfl rfl (r_assign rfl (ev_t rfl)) ?_
                                    refine WL.nil ?_
                                    refine WX.keep [(1, _), (5, _), (6, _), (8, _), (9, _), (10, _), (11, _), (12, _), (13, _), (14, _), (15, _)] ⟨rfl, rfl, rfl, rfl, rfl, rfl, rfl, rfl, rfl, rfl, rfl, trivial⟩ ?_
                                    refine WX.meet [(1, _), (5, _), (6, _), (8, _), (9, _), (10, _), (11, _), (12, _), (13, _), (14, _), (15, _)] ⟨rfl, rfl, rfl, rfl, rfl, rfl, rfl, rfl, rfl, rfl, rfl, trivial⟩ ?_
                                    rw [show zs.map Wd ++ [Wd z] = (zs ++ [z]).map Wd by simp] at hV
                                    have hbOl := hbO.lt
                                    have hs9 := (hu11).size
                                    refine ⟨aps.length - (j + 1), by omega, j + 1, zs ++ [z], _, _, by omega, rfl, by simp [hzl], by omega, fun h => by omega, fun h => by omega, ?_, hV, ?_, hU, hH, hM, hR, hBx, hbO, rfl⟩
                                    · intro y hy
                                      rcases List.mem_append.1 hy with hy | hy
                                      · exact hzs y hy
                                      · simp at hy; subst hy; exact ⟨hz, hzst⟩
                                    · intro k hk
                                      rcases hk with hk | hk
                                      · exact hGv k hk
                                      · omega
                                 · try (exfalso; first | (simp at hc25; done) | (simp only [decide_eq_true_eq, decide_eq_false_iff_not, Bool.not_eq_true', Bool.not_eq_false', Bool.not_eq_true, Bool.not_eq_false] at hc25; omega) | omega)
                                   all_goals
                                    try simp only [decide_eq_true_eq, decide_eq_false_iff_not, Bool.not_eq_true', Bool.not_eq_false', Bool.not_eq_true, Bool.not_eq_false, Option.isNone_none, Option.isNone_some, Option.isSome_none, Option.isSome_some, ne_eq, Decidable.not_not] at hc25
                                    refine WC.exit ?_
                                    refine WX.thenExit ?_
                                    refine WX.thenExit ?_
                                    refine WX.blockHere ?_
                                    refine WX.meet [(1, _), (5, _), (6, _), (8, _), (9, _), (10, _), (11, _), (12, _), (13, _), (14, _)] ⟨rfl, rfl, rfl, rfl, rfl, rfl, rfl, rfl, rfl, rfl, trivial⟩ ?_
                                    subst hzl
                                    have hVb := hV.bound
                                    exact ⟨zs, vP, _, hj6, fun h => List.eq_nil_of_length_eq_zero (hk4 h), hv0, hzs, hVb, fun k hk => ⟨hGv k hk.1, hk.2⟩, hU, hH, hM, hR, hBx, hbO, rfl⟩
                              · try (exfalso; first | (simp at hb25_9; done) | (simp only [decide_eq_true_eq, decide_eq_false_iff_not, Bool.not_eq_true', Bool.not_eq_false', Bool.not_eq_true, Bool.not_eq_false] at hb25_9; omega) | omega)
                                all_goals
                                 try simp only [decide_eq_true_eq, decide_eq_false_iff_not, Bool.not_eq_true', Bool.not_eq_false', Bool.not_eq_true, Bool.not_eq_false, Option.isNone_none, Option.isNone_some, Option.isSome_none, Option.isSome_some, ne_eq, Decidable.not_not] at hb25_9
                                 refine WL.skip rfl rfl rfl ?_
                                 refine WL.skip rfl rfl rfl ?_
                                 refine WL.val rfl rfl rfl rfl (r_pickF rfl (ev_t rfl) ev_c) ?_
                                 refine WL.nil ?_
                                 refine WX.keep [(1, _), (5, _), (6, _), (8, _), (9, _), (10, _), (11, _), (12, _), (13, _), (14, _), (15, _), (108, _)] ⟨rfl, rfl, rfl, rfl, rfl, rfl, rfl, rfl, rfl, rfl, rfl, rfl, trivial⟩ ?_
                                 refine WX.next ?_
                                 refine WC.cond_false rfl (ev_t rfl) ?_
                                 refine WC.exit ?_
                                 refine WX.thenExit ?_
                                 refine WX.thenExit ?_
                                 refine WX.blockHere ?_
                                 refine WX.meet [(1, _), (5, _), (6, _), (8, _), (9, _), (10, _), (11, _), (12, _), (13, _), (14, _)] ⟨rfl, rfl, rfl, rfl, rfl, rfl, rfl, rfl, rfl, rfl, trivial⟩ ?_
                                 subst hzl
                                 have hVb := hV.bound
                                 exact ⟨zs, vP, _, hj6, fun h => List.eq_nil_of_length_eq_zero (hk4 h), hv0, hzs, hVb, fun k hk => ⟨hGv k hk.1, hk.2⟩, hU, hH, hM, hR, hBx, hbO, rfl⟩
                           · try (exfalso; first | (simp at hb25_5; done) | (simp only [decide_eq_true_eq, decide_eq_false_iff_not, Bool.not_eq_true', Bool.not_eq_false', Bool.not_eq_true, Bool.not_eq_false] at hb25_5; omega) | omega)
                             all_goals
                              try simp only [decide_eq_true_eq, decide_eq_false_iff_not, Bool.not_eq_true', Bool.not_eq_false', Bool.not_eq_true, Bool.not_eq_false, Option.isNone_none, Option.isNone_some, Option.isSome_none, Option.isSome_some, ne_eq, Decidable.not_not] at hb25_5
                              refine WL.skip rfl rfl rfl ?_
                              refine WL.skip rfl rfl rfl ?_
                              refine WL.val rfl rfl rfl rfl (r_pickF rfl (ev_t rfl) ev_c) ?_
                              refine WL.val rfl rfl rfl rfl (r_move rfl (ev_t rfl)) ?_
                              refine WL.skip rfl rfl rfl ?_
                              refine WL.skip rfl rfl rfl ?_
                              refine WL.val rfl rfl rfl rfl (r_pickF rfl (ev_t rfl) ev_c) ?_
                              refine WL.nil ?_
                              refine WX.keep [(1, _), (5, _), (6, _), (8, _), (9, _), (10, _), (11, _), (12, _), (13, _), (14, _), (15, _), (108, _)] ⟨rfl, rfl, rfl, rfl, rfl, rfl, rfl, rfl, rfl, rfl, rfl, rfl, trivial⟩ ?_
                              refine WX.next ?_
                              refine WC.cond_false rfl (ev_t rfl) ?_
                              refine WC.exit ?_
                              refine WX.thenExit ?_
                              refine WX.thenExit ?_
                              refine WX.blockHere ?_
                              refine WX.meet [(1, _), (5, _), (6, _), (8, _), (9, _), (10, _), (11, _), (12, _), (13, _), (14, _)] ⟨rfl, rfl, rfl, rfl, rfl, rfl, rfl, rfl, rfl, rfl, trivial⟩ ?_
                              subst hzl
                              have hVb := hV.bound
                              exact ⟨zs, vP, _, hj6, fun h => List.eq_nil_of_length_eq_zero (hk4 h), hv0, hzs, hVb, fun k hk => ⟨hGv k hk.1, hk.2⟩, hU, hH, hM, hR, hBx, hbO, rfl⟩
                       · clear hU hH hM hR hBx hbO
                         rintro E wE ⟨zs, vP, Gv, hz6, hk4, hv0, hzs, hVv, hGvb, hU, hH, hM, hR, hBx, hbO, rfl⟩
                         have hGv : ∀ k, Gv k → bO < k := fun k h => (hGvb k h).1
                         obtain ⟨AV, cV, rfl, _⟩ := hVv.form
                         have hbOE := hbO.lt
                         refine WC.seq ?_
                         refine WC.region ?_
                         refine WL.val rfl rfl rfl rfl (r_move rfl (ev_t rfl)) ?_
                         refine WL.cons (SO.call (lwords_ok (hVv.rd (by omega)) (by omega)) rfl body_21 ⟨(ev_t rfl), trivial⟩ rfl rfl rfl rfl ?_)
                         rintro vW w12 ⟨hWs, hu12⟩
                         have hs12 := hu12.size
                         replace hU := hU.trans hu12 (by exact (fun _ _ h => h))
                         replace hH := hH.upd hu12 (fun k hk hl hS => by exact (show False from hS).elim)
                         replace hM := hM.upd hu12 (fun k hk hl hS => by have h1 := hGm k hk; exact (show False from hS).elim)
                         replace hR := hR.upd hu12 (fun k hk hl hS => by have h1 := hGr k hk; exact (show False from hS).elim)
                         replace hBx := hBx.upd hu12 (fun hS => by exact (show False from hS))
                         replace hbO := hbO.upd hu12 (fun hS => by exact (show False from hS))
                         replace hVv := hVv.upd hu12 (fun k hk hl hS => by have h1 := hGvb k hk; exact (show False from hS).elim)
                         obtain ⟨AW, cW, rfl, _⟩ := hWs.form
                         obtain ⟨Gs, hGse⟩ : ∃ G, G = New wE w12 := ⟨_, rfl⟩
                         rw [← hGse] at hWs
                         have hGs : ∀ k, Gs k → wE.heap.size ≤ k ∧ k < (w12).heap.size := by subst hGse; exact fun k h => h
                         refine WL.val rfl rfl rfl rfl (r_assign rfl (ev_t rfl)) ?_
                         refine WL.nil ?_
                         refine WX.keep [(1, _), (5, _), (6, _), (8, _), (9, _), (10, _), (11, _), (12, _), (13, _), (14, _), (16, _)] ⟨rfl, rfl, rfl, rfl, rfl, rfl, rfl, rfl, rfl, rfl, rfl, trivial⟩ ?_
                         refine WX.next ?_
                         refine WC.seq ?_
                         refine WC.seq ?_
                         refine WC.region ?_
                         refine WL.val rfl rfl rfl rfl (r_field0 rfl (ev_t rfl) fld_62_3) ?_
                         refine WL.val rfl rfl rfl rfl (r_load rfl (ev_t rfl) flat_9 (Blk.cell hBx rfl)) ?_
                         refine WL.val rfl rfl rfl rfl (r_lenStrL rfl (ev_t rfl) str_9) ?_
                         refine WL.val rfl rfl rfl rfl (r_gtr rfl (ev_t rfl) ev_c) ?_
                         refine WL.nil ?_
                         refine WX.keep [(1, _), (5, _), (6, _), (8, _), (9, _), (10, _), (12, _), (13, _), (14, _), (16, _), (126, _)] ⟨rfl, rfl, rfl, rfl, rfl, rfl, rfl, rfl, rfl, rfl, rfl, trivial⟩ ?_
                         refine WX.next ?_
                         refine WC.cond rfl (ev_t rfl) (fun hc29 => ?_) (fun hc29 => ?_)
                         · try (exfalso; first | (simp at hc29; done) | (simp only [decide_eq_true_eq, decide_eq_false_iff_not, Bool.not_eq_true', Bool.not_eq_false', Bool.not_eq_true, Bool.not_eq_false] at hc29; omega) | omega)
                           all_goals
                            try simp only [decide_eq_true_eq, decide_eq_false_iff_not, Bool.not_eq_true', Bool.not_eq_false', Bool.not_eq_true, Bool.not_eq_false, Option.isNone_none, Option.isNone_some, Option.isSome_none, Option.isSome_some, ne_eq, Decidable.not_not] at hc29
                            refine WC.seq ?_
                            refine WC.region ?_
                            refine WL.val rfl rfl rfl rfl (r_assign rfl ev_c) ?_
                            refine WL.nil ?_
                            refine WX.keep [(4, _)] ⟨rfl, trivial⟩ ?_
                            refine WX.next ?_
                            refine WC.ret ?_
                            refine WX.thenRet ?_
                            refine WX.blockRet ?_
                            refine WX.thenRet ?_
                            refine WX.blockRet ?_
                            refine WX.thenRet ?_
                            refine WX.thenRet ?_
                            refine WX.blockRet ?_
                            refine WX.thenRet ?_
                            refine WX.retE1 rfl rfl ?_
                            exact ⟨rfl, hU⟩
                         · try (exfalso; first | (simp at hc29; done) | (simp only [decide_eq_true_eq, decide_eq_false_iff_not, Bool.not_eq_true', Bool.not_eq_false', Bool.not_eq_true, Bool.not_eq_false] at hc29; omega) | omega)
                           all_goals
                            try simp only [decide_eq_true_eq, decide_eq_false_iff_not, Bool.not_eq_true', Bool.not_eq_false', Bool.not_eq_true, Bool.not_eq_false, Option.isNone_none, Option.isNone_some, Option.isSome_none, Option.isSome_some, ne_eq, Decidable.not_not] at hc29
                            have has2 : s2.length ≤ 2000 := by
                              have h9 : as_.length ≤ 2000 := by omega
                              rcases hs2 with ⟨_, h⟩ | ⟨_, h⟩ <;> rw [h]
                              · exact h9
                              · simp
                            refine WC.skip ?_
                            refine WX.next ?_
                            refine WC.seq ?_
                            refine WC.region ?_
                            refine WL.val rfl rfl rfl rfl (r_move rfl (ev_t rfl)) ?_
                            refine WL.val rfl rfl rfl rfl (r_field0 rfl (ev_t rfl) fld_56_1) ?_
                            refine WL.cons (SO.store rfl (ev_t rfl) (ev_t rfl) size_46 hbO rfl rfl rfl rfl rfl ?_)
                            intro w13 hu13 hbO hz13
                            have hs13 := hu13.size
                            replace hU := hU.trans hu13 (by (intro k hl hk; (try simp only [At, New, Grow, From, No] at hk ⊢); omega))
                            replace hH := hH.upd hu13 (fun k hk hl hS => by (simp only [At] at hS; rcases hk with hk | hk; omega; have := hGl k hk; omega))
                            replace hM := hM.upd hu13 (fun k hk hl hS => by have h1 := hGm k hk; (simp only [At] at hS; omega))
                            replace hR := hR.upd hu13 (fun k hk hl hS => by have h1 := hGr k hk; (simp only [At] at hS; omega))
                            replace hBx := hBx.upd hu13 (fun hS => by (simp only [At] at hS; omega))
                            replace hVv := hVv.upd hu13 (fun k hk hl hS => by have h1 := hGvb k hk; (simp only [At] at hS; omega))
                            replace hWs := hWs.upd hu13 (fun k hk hl hS => by have h1 := hGs k hk; (simp only [At] at hS; omega))
                            refine WL.nil ?_
                            refine WX.keep [(1, _), (5, _), (6, _), (8, _), (9, _), (10, _), (12, _), (13, _), (14, _), (16, _)] ⟨rfl, rfl, rfl, rfl, rfl, rfl, rfl, rfl, rfl, rfl, trivial⟩ ?_
                            change Blk _ bO #[.int .u8 (kd : Int), .slice AW zs.length cW, .string ⟨s2.toArray⟩] _ at hbO
                            refine WX.next ?_
                            refine WC.seq ?_
                            refine WC.region ?_
                            refine WL.val rfl rfl rfl rfl (r_loadAgg (vs := [_, _, _]) rfl (ev_t rfl) agg_56 size_56 (Blk.cellsL hbO)) ?_
                            refine WL.cons (SO.call (need9_ok (by omega) (by omega) (by omega)) rfl body_31 ⟨(ev_t rfl), trivial⟩ rfl rfl rfl rfl ?_)
                            rintro v w14 ⟨rfl, hu14⟩
                            have hs14 := hu14.size
                            replace hU := hU.trans hu14 (by exact (fun _ _ h => h))
                            replace hH := hH.upd hu14 (fun k hk hl hS => by exact (show False from hS).elim)
                            replace hM := hM.upd hu14 (fun k hk hl hS => by have h1 := hGm k hk; exact (show False from hS).elim)
                            replace hR := hR.upd hu14 (fun k hk hl hS => by have h1 := hGr k hk; exact (show False from hS).elim)
                            replace hBx := hBx.upd hu14 (fun hS => by exact (show False from hS))
                            replace hbO := hbO.upd hu14 (fun hS => by exact (show False from hS))
                            replace hVv := hVv.upd hu14 (fun k hk hl hS => by have h1 := hGvb k hk; exact (show False from hS).elim)
                            replace hWs := hWs.upd hu14 (fun k hk hl hS => by have h1 := hGs k hk; exact (show False from hS).elim)
                            obtain ⟨d, hd⟩ : ∃ d, d = need9 kd zs.length s2 := ⟨_, rfl⟩
                            rw [← hd]
                            have hdl : d ≤ 1000 := by rw [hd]; unfold need9; split <;> omega
                            have hxz : ∀ x ∈ ys ++ zs, x < 18446744073709551616 ∧ (x % 2 = 1 ∨ x / 2 ∈ st) := fun x hx => by
                              rcases List.mem_append.1 hx with h | h
                              · have h1 := hye x h
                                have h2 := (hg.vd.in h1.2).1
                                exact ⟨by omega, .inr h1.2⟩
                              · exact hzs x h
                            have hk3z : kd = 3 → zs = [] := fun h => hk4 (hkdo.2.2.1 h)
                            refine WL.val rfl rfl rfl rfl (r_assign rfl (ev_t rfl)) ?_
                            refine WL.nil ?_
                            refine WX.keep [(1, _), (5, _), (6, _), (8, _), (9, _), (10, _), (12, _), (13, _), (14, _), (16, _), (17, _)] ⟨rfl, rfl, rfl, rfl, rfl, rfl, rfl, rfl, rfl, rfl, rfl, trivial⟩ ?_
                            refine WX.next ?_
                            refine WC.seq ?_
                            refine WC.region ?_
                            refine WL.val rfl rfl rfl rfl (r_move rfl (ev_t rfl)) ?_
                            refine WL.val rfl rfl rfl rfl (r_move rfl (ev_t rfl)) ?_
                            refine WL.val rfl rfl rfl rfl (r_move rfl (ev_t rfl)) ?_
                            refine WL.val rfl rfl rfl rfl (r_lenSlice (ts := #[]) rfl (ev_t rfl) elem_46) ?_
                            refine WL.val rfl rfl rfl rfl (r_subN rfl (ev_t rfl) (ev_t rfl) (by simp only [inK]; omega)) ?_
                            refine WL.val rfl rfl rfl rfl (r_gtr rfl (ev_t rfl) (ev_t rfl)) ?_
                            refine WL.nil ?_
                            refine WX.keep [(1, _), (5, _), (6, _), (8, _), (9, _), (10, _), (12, _), (13, _), (14, _), (16, _), (17, _), (136, _)] ⟨rfl, rfl, rfl, rfl, rfl, rfl, rfl, rfl, rfl, rfl, rfl, rfl, trivial⟩ ?_
                            refine WX.next ?_
                            refine WC.cond rfl (ev_t rfl) (fun hc33 => ?_) (fun hc33 => ?_)
                            · try (exfalso; first | (simp at hc33; done) | (simp only [decide_eq_true_eq, decide_eq_false_iff_not, Bool.not_eq_true', Bool.not_eq_false', Bool.not_eq_true, Bool.not_eq_false] at hc33; omega) | omega)
                              all_goals
                               try simp only [decide_eq_true_eq, decide_eq_false_iff_not, Bool.not_eq_true', Bool.not_eq_false', Bool.not_eq_true, Bool.not_eq_false, Option.isNone_none, Option.isNone_some, Option.isSome_none, Option.isSome_some, ne_eq, Decidable.not_not] at hc33
                               have hnf : ¬ need9 kd zs.length s2 + mem.length ≤ q := by omega
                               refine WC.seq ?_
                               refine WC.region ?_
                               refine WL.val rfl rfl rfl rfl (r_assign rfl ev_c) ?_
                               refine WL.nil ?_
                               refine WX.keep [(1, _), (5, _), (6, _), (8, _), (9, _), (10, _), (12, _), (13, _), (14, _), (16, _), (17, _), (18, _)] ⟨rfl, rfl, rfl, rfl, rfl, rfl, rfl, rfl, rfl, rfl, rfl, rfl, trivial⟩ ?_
                               refine WX.next ?_
                               refine WC.seq ?_
                               refine WC.region ?_
                               refine WL.val rfl rfl rfl rfl (r_move rfl (ev_t rfl)) ?_
                               refine WL.val rfl rfl rfl rfl (r_move rfl (ev_t rfl)) ?_
                               refine WL.cons (SO.call (lwords_ok (hR.rd (by omega)) (by omega)) rfl body_21 ⟨(ev_t rfl), trivial⟩ rfl rfl rfl rfl ?_)
                               rintro vA w15 ⟨hA1, hu15⟩
                               obtain ⟨zW, hzW⟩ : ∃ z, z = (w14).heap.size := ⟨_, rfl⟩
                               have hbOz : bO < zW := by rw [hzW]; exact hbO.lt
                               have hs15 := hu15.size
                               replace hU := hU.trans hu15 (by exact (fun _ _ h => h))
                               replace hH := hH.upd hu15 (fun k hk hl hS => by exact (show False from hS).elim)
                               replace hM := hM.upd hu15 (fun k hk hl hS => by have h1 := hGm k hk; exact (show False from hS).elim)
                               replace hR := hR.upd hu15 (fun k hk hl hS => by have h1 := hGr k hk; exact (show False from hS).elim)
                               replace hBx := hBx.upd hu15 (fun hS => by exact (show False from hS))
                               replace hbO := hbO.upd hu15 (fun hS => by exact (show False from hS))
                               replace hVv := hVv.upd hu15 (fun k hk hl hS => by have h1 := hGvb k hk; exact (show False from hS).elim)
                               replace hWs := hWs.upd hu15 (fun k hk hl hS => by have h1 := hGs k hk; exact (show False from hS).elim)
                               obtain ⟨AA1, cA1, rfl, _⟩ := hA1.form
                               refine WL.cons (SO.append (Own.nil _ No _ _) (hA1.rd (by omega)) row_46 (fun u hu => by obtain ⟨x, _, rfl⟩ := List.mem_map.1 hu; rfl) (le_maxLen (by omega)) (by omega) rfl (ev_t rfl) (ev_t rfl) rfl rfl rfl rfl ?_)
                               intro v16 w16 hA hu16
                               have hs16 := hu16.size
                               replace hU := hU.trans hu16 (by exact (fun _ _ h => h))
                               replace hH := hH.upd hu16 (fun k hk hl hS => by exact (show False from hS).elim)
                               replace hM := hM.upd hu16 (fun k hk hl hS => by have h1 := hGm k hk; exact (show False from hS).elim)
                               replace hR := hR.upd hu16 (fun k hk hl hS => by have h1 := hGr k hk; exact (show False from hS).elim)
                               replace hBx := hBx.upd hu16 (fun hS => by exact (show False from hS))
                               replace hbO := hbO.upd hu16 (fun hS => by exact (show False from hS))
                               replace hVv := hVv.upd hu16 (fun k hk hl hS => by have h1 := hGvb k hk; exact (show False from hS).elim)
                               replace hWs := hWs.upd hu16 (fun k hk hl hS => by have h1 := hGs k hk; exact (show False from hS).elim)
                               obtain ⟨A16, c16, rfl, hc16⟩ := Own.form hA
                               obtain ⟨Ga, hGae⟩ : ∃ G : Nat → Prop, G = (fun k => zW ≤ k) := ⟨_, rfl⟩
                               replace hA := hA.mono (F' := Ga) (fun k hk => by rcases hk with hk | hk; exact hk.elim; have := hk.1; subst hGae; show zW ≤ k; omega)
                               have hGa : ∀ k, Ga k → zW ≤ k := by subst hGae; exact fun k h => h
                               have hGv : ∀ k, Ga k → bO < k := fun k h => by have := hGa k h; omega
                               refine WL.val rfl rfl rfl rfl (r_assign rfl (ev_t rfl)) ?_
                               refine WL.nil ?_
                               refine WX.keep [(1, _), (5, _), (6, _), (8, _), (9, _), (10, _), (12, _), (13, _), (14, _), (16, _), (17, _), (18, _)] ⟨rfl, rfl, rfl, rfl, rfl, rfl, rfl, rfl, rfl, rfl, rfl, rfl, trivial⟩ ?_
                               refine WX.next ?_
                               refine WC.seq ?_
                               refine WC.region ?_
                               refine WL.val rfl rfl rfl rfl (r_move rfl (ev_t rfl)) ?_
                               refine WL.val rfl rfl rfl rfl (r_move rfl (ev_t rfl)) ?_
                               refine WL.cons (SO.append hA (hWs.rd (by omega)) row_46 (fun u hu => by obtain ⟨x, _, rfl⟩ := List.mem_map.1 hu; rfl) (le_maxLen (by omega)) (by omega) rfl (ev_t rfl) (ev_t rfl) rfl rfl rfl rfl ?_)
                               intro v17 w17 hA hu17
                               have hs17 := hu17.size
                               replace hU := hU.trans hu17 (by (intro k hl hk; first | exact (show False from hk).elim | (have h2 := (hGm2x k hk).1; omega) | (have h2 := (hGm k hk).1; omega) | (have h2 := (hGr k hk).1; omega) | (have h2 := hGB k hk; omega) | (have h2 := hGv k hk; omega) | (simp only [At] at hk; omega) | (rcases hk with h | h | h | h; omega; have := hGB k h; omega; have := (hGr k h).1; omega; have := (hGvb k h).1; omega) | (rcases hk with h | h; omega; have := (hGr k h).1; omega)))
                               replace hH := hH.upd hu17 (fun k hk hl hS => by (have h2 := hGv k hS; rcases hk with hk | hk; omega; have := hGl k hk; omega))
                               replace hM := hM.upd hu17 (fun k hk hl hS => by have h1 := hGm k hk; (have h2 := hGv k hS; have h3 := h1.2.2.2.2; omega))
                               replace hR := hR.upd hu17 (fun k hk hl hS => by have h1 := hGr k hk; (have h2 := hGv k hS; have h3 := h1.2.2.2; omega))
                               replace hBx := hBx.upd hu17 (fun hS => by (have h2 := hGv _ hS; omega))
                               replace hbO := hbO.upd hu17 (fun hS => by (have h2 := hGv _ hS; omega))
                               replace hVv := hVv.upd hu17 (fun k hk hl hS => by have h1 := hGvb k hk; (have h2 := hGa k hS; omega))
                               replace hWs := hWs.upd hu17 (fun k hk hl hS => by have h1 := hGs k hk; (have h2 := hGa k hS; omega))
                               obtain ⟨A17, c17, rfl, hc17⟩ := Own.form hA
                               refine WL.val rfl rfl rfl rfl (r_assign rfl (ev_t rfl)) ?_
                               refine WL.nil ?_
                               refine WX.keep [(1, _), (5, _), (6, _), (8, _), (9, _), (10, _), (12, _), (13, _), (14, _), (17, _), (18, _)] ⟨rfl, rfl, rfl, rfl, rfl, rfl, rfl, rfl, rfl, rfl, rfl, trivial⟩ ?_
                               refine WX.next ?_
                               -- cut 37: live [1, 5, 6, 8, 9, 10, 13, 14, 17, 18]
                               refine WC.cut (fun E wF => ∃ (vA : Value) (Ga : Nat → Prop), Own wF Ga 31 1 vA (ys ++ zs).length ((ys ++ zs).map Wd) ∧ Upd No w wF ∧ HS wF G p A c mem q n ∧ Own wF Gm 31 1 (.slice Am mem.length cm) mem.length (mem.map Wd) ∧ Own wF Gr tWord 1 (.slice Ar ys.length cr) ys.length (ys.map Wd) ∧ Own wF Gv tWord 1 (.slice AV zs.length cV) zs.length (zs.map Wd) ∧ Blk wF bO #[.int .u8 (kd : Int), .slice AW zs.length cW, .string ⟨s2.toArray⟩] 56 ∧ wE.heap.size ≤ wF.heap.size ∧ E = [(1, .slice (some ⟨bl, ol, none⟩) l.length cl), (5, .int .i64 (q : Int)), (6, .pointer (some ⟨p, 0, none⟩)), (8, .slice Am mem.length cm), (9, .slice Ar ys.length cr), (10, .int .i64 (i : Int)), (13, .pointer (some ⟨bO, 0, none⟩)), (14, .slice AV zs.length cV), (17, .int .i64 (d : Int)), (18, vA)]) ?_ ?_
                               · refine WC.seq ?_
                                 refine WC.region ?_
                                 refine WL.val rfl rfl rfl rfl (r_move rfl (ev_t rfl)) ?_
                                 refine WL.val rfl rfl rfl rfl (r_eql rfl (ev_t rfl) ev_c) ?_
                                 refine WL.nil ?_
                                 refine WX.keep [(1, _), (5, _), (6, _), (8, _), (9, _), (10, _), (13, _), (14, _), (17, _), (18, _), (145, _)] ⟨rfl, rfl, rfl, rfl, rfl, rfl, rfl, rfl, rfl, rfl, rfl, trivial⟩ ?_
                                 refine WX.next ?_
                                 refine WC.cond rfl (ev_t rfl) (fun hc37 => ?_) (fun hc37 => ?_)
                                 · try (exfalso; first | (simp at hc37; done) | (simp only [decide_eq_true_eq, decide_eq_false_iff_not, Bool.not_eq_true', Bool.not_eq_false', Bool.not_eq_true, Bool.not_eq_false] at hc37; omega) | omega)
                                   all_goals
                                    try simp only [decide_eq_true_eq, decide_eq_false_iff_not, Bool.not_eq_true', Bool.not_eq_false', Bool.not_eq_true, Bool.not_eq_false, Option.isNone_none, Option.isNone_some, Option.isSome_none, Option.isSome_some, ne_eq, Decidable.not_not] at hc37
                                    refine WC.region ?_
                                    refine WL.val rfl rfl rfl rfl (r_move rfl (ev_t rfl)) ?_
                                    refine WL.cons (SO.call (lwords_ok (hR.rd (by omega)) (by omega)) rfl body_21 ⟨(ev_t rfl), trivial⟩ rfl rfl rfl rfl ?_)
                                    rintro vA w18 ⟨hA4, hu18⟩
                                    have hs18 := hu18.size
                                    replace hU := hU.trans hu18 (by exact (fun _ _ h => h))
                                    replace hH := hH.upd hu18 (fun k hk hl hS => by exact (show False from hS).elim)
                                    replace hM := hM.upd hu18 (fun k hk hl hS => by have h1 := hGm k hk; exact (show False from hS).elim)
                                    replace hR := hR.upd hu18 (fun k hk hl hS => by have h1 := hGr k hk; exact (show False from hS).elim)
                                    replace hBx := hBx.upd hu18 (fun hS => by exact (show False from hS))
                                    replace hbO := hbO.upd hu18 (fun hS => by exact (show False from hS))
                                    replace hVv := hVv.upd hu18 (fun k hk hl hS => by have h1 := hGvb k hk; exact (show False from hS).elim)
                                    replace hWs := hWs.upd hu18 (fun k hk hl hS => by have h1 := hGs k hk; exact (show False from hS).elim)
                                    replace hA := hA.upd hu18 (fun k hk hl hS => by first | exact (show False from hS).elim)
                                    obtain ⟨AA4, cA4, rfl, _⟩ := hA4.form
                                    refine WL.val rfl rfl rfl rfl (r_assign rfl (ev_t rfl)) ?_
                                    refine WL.nil ?_
                                    refine WX.keep [(1, _), (5, _), (6, _), (8, _), (9, _), (10, _), (13, _), (14, _), (17, _), (18, _)] ⟨rfl, rfl, rfl, rfl, rfl, rfl, rfl, rfl, rfl, rfl, trivial⟩ ?_
                                    refine WX.meet [(1, _), (5, _), (6, _), (8, _), (9, _), (10, _), (13, _), (14, _), (17, _), (18, _)] ⟨rfl, rfl, rfl, rfl, rfl, rfl, rfl, rfl, rfl, rfl, trivial⟩ ?_
                                    first
                                      | (have hz0 := hk4 (by omega)
                                         have e0 : ys ++ zs = ys := by rw [hz0, List.append_nil]
                                         rw [e0]
                                         exact ⟨_, _, hA4, hU, hH, hM, hR, hVv, hbO, by omega, rfl⟩)
                                 · try (exfalso; first | (simp at hc37; done) | (simp only [decide_eq_true_eq, decide_eq_false_iff_not, Bool.not_eq_true', Bool.not_eq_false', Bool.not_eq_true, Bool.not_eq_false] at hc37; omega) | omega)
                                   all_goals
                                    try simp only [decide_eq_true_eq, decide_eq_false_iff_not, Bool.not_eq_true', Bool.not_eq_false', Bool.not_eq_true, Bool.not_eq_false, Option.isNone_none, Option.isNone_some, Option.isSome_none, Option.isSome_some, ne_eq, Decidable.not_not] at hc37
                                    refine WC.skip ?_
                                    refine WX.meet [(1, _), (5, _), (6, _), (8, _), (9, _), (10, _), (13, _), (14, _), (17, _), (18, _)] ⟨rfl, rfl, rfl, rfl, rfl, rfl, rfl, rfl, rfl, rfl, trivial⟩ ?_
                                    first
                                      | (have eA : (ys ++ zs).length = 0 + ys.length + zs.length := by rw [List.length_append]; omega
                                         rw [List.nil_append, ← List.map_append, ← eA] at hA
                                         rw [← eA]
                                         exact ⟨_, _, hA, hU, hH, hM, hR, hVv, hbO, by omega, rfl⟩)
                               · clear hU hH hM hR hVv hbO
                                 rintro E wF ⟨vA, Ga, hA, hU, hH, hM, hR, hVv, hbO, hEF, rfl⟩
                                 have hbOF := hbO.lt
                                 have hyz : (ys ++ zs).length ≤ 1000 := by rw [List.length_append]; omega
                                 refine WC.seq ?_
                                 refine WC.region ?_
                                 refine WL.val rfl rfl rfl rfl (r_move rfl (ev_t rfl)) ?_
                                 refine WL.val rfl rfl rfl rfl (r_move rfl (ev_t rfl)) ?_
                                 refine WL.cons (SO.call (refcollect_ok (ys := ys ++ zs) (hM.bound.rd (by omega)) (fun k hk => hk.2) (hA.bound.rd (by omega)) (fun k hk => hk.2) hg hml hyz hxz) rfl body_32 ⟨(ev_t rfl), (ev_t rfl), trivial⟩ rfl rfl rfl rfl ?_)
                                 rintro v w19 ⟨fin, Gm2, Gt, vm2, vt, rfl, hbf, hod, hM2, hT, hGm2, hGt, hu19⟩
                                 obtain ⟨tl, htl⟩ : ∃ t, t = (ys ++ zs).map (there mem fin) := ⟨_, rfl⟩
                                 have htll : (ys ++ zs).length = tl.length := by rw [htl, List.length_map]
                                 have htl2 : tl.length = ys.length + zs.length := by rw [← htll, List.length_append]
                                 rw [← htl, htll] at hT
                                 have hs19 := hu19.size
                                 replace hU := hU.trans hu19 (by exact (fun _ _ h => h))
                                 replace hH := hH.upd hu19 (fun k hk hl hS => by exact (show False from hS).elim)
                                 replace hM := hM.upd hu19 (fun k hk hl hS => by have h1 := hGm k hk; exact (show False from hS).elim)
                                 replace hR := hR.upd hu19 (fun k hk hl hS => by have h1 := hGr k hk; exact (show False from hS).elim)
                                 replace hVv := hVv.upd hu19 (fun k hk hl hS => by have h1 := hGvb k hk; exact (show False from hS).elim)
                                 replace hbO := hbO.upd hu19 (fun hS => by exact (show False from hS))
                                 obtain ⟨Am2, cm2, rfl, _⟩ := hM2.form
                                 obtain ⟨At2, ct2, rfl, _⟩ := hT.form
                                 have hGm2x : ∀ k, Gm2 k → bO < k ∧ ¬ Gt k ∧ wE.heap.size ≤ k := fun k h => ⟨by have := (hGm2 k h).1; omega, (hGm2 k h).2.2, by have := (hGm2 k h).1; omega⟩
                                 have hGtx : ∀ k, Gt k → bO < k ∧ wE.heap.size ≤ k := fun k h => ⟨by have := (hGt k h).1; omega, by have := (hGt k h).1; omega⟩
                                 refine WL.val rfl rfl rfl rfl (r_move rfl (ev_t rfl)) ?_
                                 refine WL.val rfl rfl rfl rfl (r_extract rfl (ev_t rfl) rfl) ?_
                                 refine WL.val rfl rfl rfl rfl (r_extract rfl (ev_t rfl) rfl) ?_
                                 refine WL.val rfl rfl rfl rfl (r_assign rfl (ev_t rfl)) ?_
                                 refine WL.val rfl rfl rfl rfl (r_assign rfl (ev_t rfl)) ?_
                                 refine WL.nil ?_
                                 refine WX.keep [(1, _), (5, _), (6, _), (8, _), (9, _), (10, _), (13, _), (14, _), (17, _), (18, _)] ⟨rfl, rfl, rfl, rfl, rfl, rfl, rfl, rfl, rfl, rfl, trivial⟩ ?_
                                 refine WX.next ?_
                                 refine WC.seq ?_
                                 refine WC.region ?_
                                 refine WL.val rfl rfl rfl rfl (r_move rfl (ev_t rfl)) ?_
                                 refine WL.val rfl rfl rfl rfl (r_move rfl (ev_t rfl)) ?_
                                 refine WL.val rfl rfl rfl rfl (r_lenSlice (ts := #[]) rfl (ev_t rfl) elem_30) ?_
                                 have hT40 := (hT.rd (by omega)).cutW (lo := ys.length) (hi := tl.length) (by omega) (by omega)
                                 refine WL.val rfl rfl rfl rfl (r_slice (l := ys.length) (h := tl.length) rfl (ev_t rfl) elem_46 size_31 (bnd_some (ev_t rfl) (by omega)) bnd_none (by omega) (by omega) (by omega)) ?_
                                 refine WL.val rfl rfl rfl rfl (r_field0 rfl (ev_t rfl) fld_56_1) ?_
                                 refine WL.cons (SO.store rfl (ev_t rfl) (ev_t rfl) size_46 hbO rfl rfl rfl rfl rfl ?_)
                                 intro w20 hu20 hbO hz20
                                 have hs20 := hu20.size
                                 replace hU := hU.trans hu20 (by (intro k hl hk; (try simp only [At, New, Grow, From, No] at hk ⊢); omega))
                                 replace hH := hH.upd hu20 (fun k hk hl hS => by (simp only [At] at hS; rcases hk with hk | hk; omega; have := hGl k hk; omega))
                                 replace hR := hR.upd hu20 (fun k hk hl hS => by have h1 := hGr k hk; (simp only [At] at hS; omega))
                                 replace hVv := hVv.upd hu20 (fun k hk hl hS => by have h1 := hGvb k hk; (simp only [At] at hS; omega))
                                 replace hM2 := hM2.upd hu20 (fun k hk hl hS => by have h1 := hGm2x k hk; (simp only [At] at hS; omega))
                                 replace hT := hT.upd hu20 (fun k hk hl hS => by have h1 := hGtx k hk; (simp only [At] at hS; omega))
                                 refine WL.nil ?_
                                 refine WX.keep [(1, _), (5, _), (6, _), (8, _), (9, _), (10, _), (13, _), (14, _), (17, _), (18, _)] ⟨rfl, rfl, rfl, rfl, rfl, rfl, rfl, rfl, rfl, rfl, trivial⟩ ?_
                                 obtain ⟨zs2, hzs2⟩ : ∃ z, z = zs.map (there mem fin) := ⟨_, rfl⟩
                                 have hz2 : tl.length - ys.length = zs2.length := by rw [htl2, hzs2, List.length_map]; omega
                                 have hz2l : zs2.length = zs.length := by rw [hzs2, List.length_map]
                                 change Blk _ bO #[.int .u8 (kd : Int), .slice (cutA At2 ct2 ys.length 1) (tl.length - ys.length) (ct2 - ys.length), .string ⟨s2.toArray⟩] _ at hbO
                                 rw [hz2] at hbO
                                 refine WX.next ?_
                                 refine WC.seq ?_
                                 refine WC.region ?_
                                 refine WL.val rfl rfl rfl rfl (r_move rfl (ev_t rfl)) ?_
                                 refine WL.val rfl rfl rfl rfl (r_loadAgg (vs := [_, _, _]) rfl (ev_t rfl) agg_56 size_56 (Blk.cellsL hbO)) ?_
                                 refine WL.val rfl rfl rfl rfl (r_move rfl (ev_t rfl)) ?_
                                 refine WL.val rfl rfl rfl rfl (r_move rfl (ev_t rfl)) ?_
                                 refine WL.cons (SO.call (lput_ok hH (by omega) hg.vd hVv (fun h => ⟨_, hv0 h⟩) hR (fun k hk => ⟨by have := hGvb k hk; omega, fun h => by have := hGvb k hk; have := hGl k h; omega, fun h => by have := hGvb k hk; have := (hGr k h).2.2.2; omega, by have := (hGvb k hk).2; omega⟩) (fun k hk => ⟨(hGr k hk).2.1, (hGr k hk).2.2.1, by have := (hGr k hk).2.2.2; have := hbO.lt; omega⟩) hxz (by omega) (by omega) (by omega) hk3z (by omega)) rfl body_33 ⟨(ev_t rfl), (ev_t rfl), (ev_t rfl), (ev_t rfl), trivial⟩ rfl rfl rfl rfl ?_)
                                 rintro v w21 ⟨G2, A2, c2, mem2, N, ys2, hH2, hy2, hN, hG2, hR2, hu21, hpt⟩
                                 obtain ⟨to, mv, hPI, hyf, hys2, r, e, rfl, hre⟩ : ∃ to mv, PI mem st fin to mv to.length ∧ (∀ x ∈ ys ++ zs, x % 2 = 1 ∨ x / 2 ∈ fin) ∧ ys2 = ys.map (there mem fin) ∧ ∃ (r e : Nat), v = .tuple #[.int .u64 (r : Int), .int .i64 (e : Int)] ∧ ((d + to.length ≤ q ∧ r = 2 * to.length ∧ e = 0 ∧ mem2 = to ++ objW kd zs2 s2) ∨ (¬ d + to.length ≤ q ∧ r = 0 ∧ e = 11 ∧ to = mem2)) := by
                                   rcases hpt with ⟨h, _⟩ | ⟨_, fin2, to, mv, hbf2, hyf, hPI, h3, h4⟩
                                   · exact absurd h hnf
                                   · have e9 : fin2 = fin := hbf2.unique hbf
                                     rw [e9] at hyf hPI h3 h4
                                     refine ⟨to, mv, hPI, hyf, h3, ?_⟩
                                     rcases h4 with ⟨a1, a2, a3⟩ | ⟨a1, a2, a3⟩
                                     · exact ⟨2 * to.length, 0, a2, .inl ⟨by rw [hd]; exact a1, rfl, rfl, by rw [hzs2]; exact a3⟩⟩
                                     · exact ⟨0, 11, a2, .inr ⟨by rw [hd]; exact a1, rfl, rfl, a3.symm⟩⟩
                                 have hto := hPI.out hg ht
                                 have htol := hPI.le hg.vd
                                 have hbOX := hbO.lt
                                 have hG2l := hH2.lt
                                 have hs21 := hu21.size
                                 replace hU := hU.trans hu21 (by (intro k hl hk; first | exact (show False from hk).elim | (have h2 := (hGm2x k hk).1; omega) | (have h2 := (hGm k hk).1; omega) | (have h2 := (hGr k hk).1; omega) | (have h2 := hGB k hk; omega) | (have h2 := hGv k hk; omega) | (simp only [At] at hk; omega) | (rcases hk with h | h | h | h; omega; have := hGB k h; omega; have := (hGr k h).1; omega; have := (hGvb k h).1; omega) | (rcases hk with h | h; omega; have := (hGr k h).1; omega)))
                                 replace hbO := hbO.upd hu21 (fun hS => by (rcases hS with h | h | h | h; omega; have := hGl _ h; omega; have := (hGr _ h).2.2.2; omega; have := (hGvb _ h).1; omega))
                                 replace hM2 := hM2.upd hu21 (fun k hk hl hS => by have h1 := hGm2x k hk; (rcases hS with h | h | h | h; omega; have := hGl k h; omega; have := (hGr k h).2.2.2; omega; have := (hGvb k h).2; omega))
                                 replace hT := hT.upd hu21 (fun k hk hl hS => by have h1 := hGtx k hk; (rcases hS with h | h | h | h; omega; have := hGl k h; omega; have := (hGr k h).2.2.2; omega; have := (hGvb k h).2; omega))
                                 rw [← hto] at hM2 ⊢
                                 have hszp := (hu21).size
                                 clear hH hR hVv hpt
                                 have hH5 := hH2
                                 have hR := hR2
                                 clear hH2 hR2
                                 refine WL.val rfl rfl rfl rfl (r_move rfl (ev_t rfl)) ?_
                                 refine WL.val rfl rfl rfl rfl (r_extract rfl (ev_t rfl) rfl) ?_
                                 refine WL.val rfl rfl rfl rfl (r_extract rfl (ev_t rfl) rfl) ?_
                                 refine WL.val rfl rfl rfl rfl (r_assign rfl (ev_t rfl)) ?_
                                 refine WL.val rfl rfl rfl rfl (r_assign rfl (ev_t rfl)) ?_
                                 refine WL.nil ?_
                                 refine WX.keep [(1, _), (5, _), (6, _), (8, _), (9, _), (10, _), (13, _), (17, _), (18, _), (19, _), (20, _)] ⟨rfl, rfl, rfl, rfl, rfl, rfl, rfl, rfl, rfl, rfl, rfl, trivial⟩ ?_
                                 refine WX.next ?_
                                 refine WC.seq ?_
                                 refine WC.seq ?_
                                 refine WC.draws' (fun u0_ u1_ => Upd No u0_ u1_) (fun j => [0, 2, 0, 0, 0, 0, 2, 0].getD j 0) (.calm 0 (.calm 2 (.calm 3 (.calm 4 (.calm 5 (.one 1 (.one 6 (.calm 7 (.done))))))))) mixed (by kernel_rfl) (by repeat (first | with_reducible exact Deaf.body | with_reducible apply Deaf.then | with_reducible apply Deaf.block)) ?_
                                 intro w22 hu22
                                 have hz22 := congrArg Array.size hu22.2.2.2
                                 replace hu22 := Upd.of_draw hu22
                                 have hs22 := hu22.size
                                 replace hU := hU.trans hu22 (by exact (fun _ _ h => h))
                                 replace hbO := hbO.upd hu22 (fun hS => by exact (show False from hS))
                                 replace hM2 := hM2.upd hu22 (fun k hk hl hS => by have h1 := hGm2x k hk; exact (show False from hS).elim)
                                 replace hT := hT.upd hu22 (fun k hk hl hS => by have h1 := hGtx k hk; exact (show False from hS).elim)
                                 replace hH5 := hH5.upd hu22 (fun k hk hl hS => by exact (show False from hS).elim)
                                 replace hR := hR.upd hu22 (fun k hk hl hS => by have h1 := hGr k hk; exact (show False from hS).elim)
                                 refine WN.calm _ rfl rfl rfl rfl rfl (fun _ => r_move rfl (ev_t rfl)) ?_
                                 refine WN.calm _ rfl rfl rfl rfl rfl (fun _ => r_move rfl (ev_t rfl)) ?_
                                 refine WN.calm _ rfl rfl rfl rfl rfl (fun _ => r_move rfl (ev_t rfl)) ?_
                                 refine WN.calm _ rfl rfl rfl rfl rfl (fun _ => r_lenSlice (ts := #[]) rfl (ev_t rfl) elem_30) ?_
                                 have hT42 := (hT.rd (by omega)).cutW (lo := 0) (hi := ys.length) (by omega) (by omega)
                                 rw [show (tl.drop 0).take (ys.length - 0) = ys2 by rw [htl, hys2]; simp] at hT42
                                 refine WN.calm _ rfl rfl rfl rfl rfl (fun _ => r_slice (l := 0) (h := ys.length) rfl (ev_t rfl) elem_46 size_31 bnd_none (bnd_some (ev_t rfl) (by omega)) (by omega) (by omega) (by omega)) ?_
                                 refine WN.step _ rfl (SO.call (lwords_ok (l := ys2) (by rw [hy2]; exact hR.rd (by omega)) (by omega)) rfl body_21 ⟨(ev_t rfl), trivial⟩ rfl rfl rfl rfl ?_)
                                 rintro vW2 w23 ⟨hW2, hu23⟩
                                 have hs23 := hu23.size
                                 replace hU := hU.trans hu23 (by exact (fun _ _ h => h))
                                 replace hbO := hbO.upd hu23 (fun hS => by exact (show False from hS))
                                 replace hM2 := hM2.upd hu23 (fun k hk hl hS => by have h1 := hGm2x k hk; exact (show False from hS).elim)
                                 replace hT := hT.upd hu23 (fun k hk hl hS => by have h1 := hGtx k hk; exact (show False from hS).elim)
                                 replace hH5 := hH5.upd hu23 (fun k hk hl hS => by exact (show False from hS).elim)
                                 replace hR := hR.upd hu23 (fun k hk hl hS => by have h1 := hGr k hk; exact (show False from hS).elim)
                                 obtain ⟨AW2, cW2, rfl, _⟩ := hW2.form
                                 refine ⟨trivial, ?_⟩
                                 have hT43 := (hT.rd (by omega)).cutW (lo := 0) (hi := ys.length) (by omega) (by omega)
                                 rw [show (tl.drop 0).take (ys.length - 0) = ys2 by rw [htl, hys2]; simp] at hT43
                                 refine WN.step _ rfl (SO.call (same_ok (l := ys2) (hW2.rd (by omega)) (by rw [hy2]; exact hT43) (by omega)) rfl body_24 ⟨(ev_t rfl), (ev_t rfl), trivial⟩ rfl rfl rfl rfl ?_)
                                 rintro v w24 ⟨rfl, hu24⟩
                                 have hs24 := hu24.size
                                 replace hU := hU.trans hu24 (by exact (fun _ _ h => h))
                                 replace hbO := hbO.upd hu24 (fun hS => by exact (show False from hS))
                                 replace hM2 := hM2.upd hu24 (fun k hk hl hS => by have h1 := hGm2x k hk; exact (show False from hS).elim)
                                 replace hT := hT.upd hu24 (fun k hk hl hS => by have h1 := hGtx k hk; exact (show False from hS).elim)
                                 replace hH5 := hH5.upd hu24 (fun k hk hl hS => by exact (show False from hS).elim)
                                 replace hR := hR.upd hu24 (fun k hk hl hS => by have h1 := hGr k hk; exact (show False from hS).elim)
                                 refine ⟨trivial, ?_⟩
                                 refine WN.calm _ rfl rfl rfl rfl rfl (fun _ => r_not rfl (ev_t rfl)) ?_
                                 refine WN.done ?_
                                 refine WX.keep [(1, _), (5, _), (6, _), (8, _), (9, _), (10, _), (13, _), (17, _), (19, _), (20, _), (174, _)] ⟨rfl, rfl, rfl, rfl, rfl, rfl, rfl, rfl, rfl, rfl, rfl, trivial⟩ ?_
                                 refine WX.next ?_
                                 refine WC.cond rfl (ev_t rfl) (fun hc42 => ?_) (fun hc42 => ?_)
                                 · try simp only [decide_eq_true_eq, decide_eq_false_iff_not, Bool.not_eq_true', Bool.not_eq_false', Bool.not_eq_true, Bool.not_eq_false, Option.isNone_none, Option.isNone_some, Option.isSome_none, Option.isSome_some, ne_eq, Decidable.not_not] at hc42
                                   exfalso
                                   (simp at hc42)
                                 · try (exfalso; first | (simp at hc42; done) | (simp only [decide_eq_true_eq, decide_eq_false_iff_not, Bool.not_eq_true', Bool.not_eq_false', Bool.not_eq_true, Bool.not_eq_false] at hc42; omega) | omega)
                                   all_goals
                                    try simp only [decide_eq_true_eq, decide_eq_false_iff_not, Bool.not_eq_true', Bool.not_eq_false', Bool.not_eq_true, Bool.not_eq_false, Option.isNone_none, Option.isNone_some, Option.isSome_none, Option.isSome_some, ne_eq, Decidable.not_not] at hc42
                                    refine WC.skip ?_
                                    refine WX.next ?_
                                    refine WC.seq ?_
                                    refine WC.seq ?_
                                    refine WC.region ?_
                                    refine WL.val rfl rfl rfl rfl (r_move rfl (ev_t rfl)) ?_
                                    refine WL.val rfl rfl rfl rfl (r_move rfl (ev_t rfl)) ?_
                                    refine WL.val rfl rfl rfl rfl (r_move rfl (ev_t rfl)) ?_
                                    refine WL.val rfl rfl rfl rfl (r_lenSlice (ts := #[]) rfl (ev_t rfl) elem_46) ?_
                                    refine WL.val rfl rfl rfl rfl (r_subN rfl (ev_t rfl) (ev_t rfl) (by simp only [inK]; omega)) ?_
                                    refine WL.val rfl rfl rfl rfl (r_gtr rfl (ev_t rfl) (ev_t rfl)) ?_
                                    refine WL.nil ?_
                                    refine WX.keep [(1, _), (5, _), (6, _), (8, _), (9, _), (10, _), (13, _), (19, _), (20, _), (180, _)] ⟨rfl, rfl, rfl, rfl, rfl, rfl, rfl, rfl, rfl, rfl, trivial⟩ ?_
                                    refine WX.next ?_
                                    refine WC.cond rfl (ev_t rfl) (fun hc44 => ?_) (fun hc44 => ?_)
                                    · try (exfalso; first | (simp at hc44; done) | (simp only [decide_eq_true_eq, decide_eq_false_iff_not, Bool.not_eq_true', Bool.not_eq_false', Bool.not_eq_true, Bool.not_eq_false] at hc44; omega) | omega)
                                      all_goals
                                       try simp only [decide_eq_true_eq, decide_eq_false_iff_not, Bool.not_eq_true', Bool.not_eq_false', Bool.not_eq_true, Bool.not_eq_false, Option.isNone_none, Option.isNone_some, Option.isSome_none, Option.isSome_some, ne_eq, Decidable.not_not] at hc44
                                       obtain ⟨hnf2, rfl, rfl, rfl⟩ := hre.resolve_left (fun h => by omega)
                                       refine WC.seq ?_
                                       refine WC.seq ?_
                                       refine WC.region ?_
                                       refine WL.val rfl rfl rfl rfl (r_move rfl (ev_t rfl)) ?_
                                       refine WL.val rfl rfl rfl rfl (r_neq rfl (ev_t rfl) ev_c) ?_
                                       refine WL.val rfl rfl rfl rfl (r_move rfl (ev_t rfl)) ?_
                                       refine WL.cases 183 rfl (fun hb45_2 => ?_) (fun hb45_2 => ?_)
                                       · try (exfalso; first | (simp at hb45_2; done) | (simp only [decide_eq_true_eq, decide_eq_false_iff_not, Bool.not_eq_true', Bool.not_eq_false', Bool.not_eq_true, Bool.not_eq_false] at hb45_2; omega) | omega)
                                       · try (exfalso; first | (simp at hb45_2; done) | (simp only [decide_eq_true_eq, decide_eq_false_iff_not, Bool.not_eq_true', Bool.not_eq_false', Bool.not_eq_true, Bool.not_eq_false] at hb45_2; omega) | omega)
                                         all_goals
                                          try simp only [decide_eq_true_eq, decide_eq_false_iff_not, Bool.not_eq_true', Bool.not_eq_false', Bool.not_eq_true, Bool.not_eq_false, Option.isNone_none, Option.isNone_some, Option.isSome_none, Option.isSome_some, ne_eq, Decidable.not_not] at hb45_2
                                          refine WL.val rfl rfl rfl rfl (r_move rfl (ev_t rfl)) ?_
                                          refine WL.cons (SO.call (hwords_ok hH5) rfl body_22 ⟨(ev_t rfl), trivial⟩ rfl rfl rfl rfl ?_)
                                          rintro v w25 ⟨hW5, hu25⟩
                                          have hs25 := hu25.size
                                          replace hU := hU.trans hu25 (by exact (fun _ _ h => h))
                                          replace hbO := hbO.upd hu25 (fun hS => by exact (show False from hS))
                                          replace hM2 := hM2.upd hu25 (fun k hk hl hS => by have h1 := hGm2x k hk; exact (show False from hS).elim)
                                          replace hT := hT.upd hu25 (fun k hk hl hS => by have h1 := hGtx k hk; exact (show False from hS).elim)
                                          replace hH5 := hH5.upd hu25 (fun k hk hl hS => by exact (show False from hS).elim)
                                          replace hR := hR.upd hu25 (fun k hk hl hS => by have h1 := hGr k hk; exact (show False from hS).elim)
                                          refine WL.cons (SO.call (lwords_ok (hW5.rd (by omega)) (by omega)) rfl body_21 ⟨(ev_t rfl), trivial⟩ rfl rfl rfl rfl ?_)
                                          rintro v w26 ⟨hW6, hu26⟩
                                          have hs26 := hu26.size
                                          replace hU := hU.trans hu26 (by exact (fun _ _ h => h))
                                          replace hbO := hbO.upd hu26 (fun hS => by exact (show False from hS))
                                          replace hM2 := hM2.upd hu26 (fun k hk hl hS => by have h1 := hGm2x k hk; exact (show False from hS).elim)
                                          replace hT := hT.upd hu26 (fun k hk hl hS => by have h1 := hGtx k hk; exact (show False from hS).elim)
                                          replace hH5 := hH5.upd hu26 (fun k hk hl hS => by exact (show False from hS).elim)
                                          replace hR := hR.upd hu26 (fun k hk hl hS => by have h1 := hGr k hk; exact (show False from hS).elim)
                                          refine WL.val rfl rfl rfl rfl (r_move rfl (ev_t rfl)) ?_
                                          refine WL.cons (SO.call (same_ok (hW6.rd (by omega)) (hM2.rd (by omega)) (by omega)) rfl body_24 ⟨(ev_t rfl), (ev_t rfl), trivial⟩ rfl rfl rfl rfl ?_)
                                          rintro v w27 ⟨rfl, hu27⟩
                                          have hs27 := hu27.size
                                          replace hU := hU.trans hu27 (by exact (fun _ _ h => h))
                                          replace hbO := hbO.upd hu27 (fun hS => by exact (show False from hS))
                                          replace hM2 := hM2.upd hu27 (fun k hk hl hS => by have h1 := hGm2x k hk; exact (show False from hS).elim)
                                          replace hT := hT.upd hu27 (fun k hk hl hS => by have h1 := hGtx k hk; exact (show False from hS).elim)
                                          replace hH5 := hH5.upd hu27 (fun k hk hl hS => by exact (show False from hS).elim)
                                          replace hR := hR.upd hu27 (fun k hk hl hS => by have h1 := hGr k hk; exact (show False from hS).elim)
                                          refine WL.val rfl rfl rfl rfl (r_not rfl (ev_t rfl)) ?_
                                          refine WL.val rfl rfl rfl rfl (r_pickF rfl (ev_t rfl) (ev_t rfl)) ?_
                                          refine WL.nil ?_
                                          refine WX.keep [(1, _), (5, _), (6, _), (8, _), (9, _), (10, _), (190, _)] ⟨rfl, rfl, rfl, rfl, rfl, rfl, rfl, trivial⟩ ?_
                                          refine WX.next ?_
                                          refine WC.cond rfl (ev_t rfl) (fun hc45 => ?_) (fun hc45 => ?_)
                                          · try simp only [decide_eq_true_eq, decide_eq_false_iff_not, Bool.not_eq_true', Bool.not_eq_false', Bool.not_eq_true, Bool.not_eq_false, Option.isNone_none, Option.isNone_some, Option.isSome_none, Option.isSome_some, ne_eq, Decidable.not_not] at hc45
                                            exfalso
                                            first
                                              | (simp at hc45; done)
                                          · try (exfalso; first | (simp at hc45; done) | (simp only [decide_eq_true_eq, decide_eq_false_iff_not, Bool.not_eq_true', Bool.not_eq_false', Bool.not_eq_true, Bool.not_eq_false] at hc45; omega) | omega)
                                            all_goals
                                             try simp only [decide_eq_true_eq, decide_eq_false_iff_not, Bool.not_eq_true', Bool.not_eq_false', Bool.not_eq_true, Bool.not_eq_false, Option.isNone_none, Option.isNone_some, Option.isSome_none, Option.isSome_some, ne_eq, Decidable.not_not] at hc45
                                             refine WC.skip ?_
                                             refine WX.next ?_
                                             refine WC.exit ?_
                                             refine WX.thenExit ?_
                                             refine WX.blockPast rfl ?_
                                             refine WX.thenExit ?_
                                             refine WX.blockHere ?_
                                             refine WX.next ?_
                                             refine WC.region ?_
                                             refine WL.val rfl rfl rfl rfl (r_move rfl (ev_t rfl)) ?_
                                             refine WL.val rfl rfl rfl rfl (r_addN rfl (ev_t rfl) ev_c (by simp only [inK]; omega)) ?_
                                             refine WL.val rfl rfl rfl rfl (r_assign rfl (ev_t rfl)) ?_
                                             refine WL.nil ?_
                                             refine WX.keep [(1, _), (5, _), (6, _), (8, _), (9, _), (10, _)] ⟨rfl, rfl, rfl, rfl, rfl, rfl, trivial⟩ ?_
                                             refine WX.meet [(1, _), (5, _), (6, _), (8, _), (9, _), (10, _)] ⟨rfl, rfl, rfl, rfl, rfl, rfl, trivial⟩ ?_
                                             first
                                               | (have hyt := hys2T hye hyf hys2
                                                  have hMb := hM2.bound
                                                  refine ⟨l.length - (i + 1), by omega, i + 1, to, ys2, _, _, by omega, by omega, rfl, ⟨G2, _, Gr, A2, c2, fin.map (plc (szAt mem) fin), N, hH5, hg.collect hPI (by omega), ht.collect hg hPI, by omega, by omega, hMb, by rw [hy2]; exact hR, hyt, fun k hk => ?_, fun k hk => ?_, fun k hk => ?_⟩, hU, rfl⟩
                                                  · rcases hG2 k hk with h | h
                                                    · exact hGB k h
                                                    · omega
                                                  · obtain ⟨h1, h2⟩ := hk
                                                    have h3 := hGm2x k h1
                                                    have h4 := (hGm2 k h1).2.1
                                                    refine ⟨by omega, by omega, fun h => ?_, fun h => ?_, h2⟩
                                                    · rcases hG2 k h with h | h
                                                      · have := hGl k h; omega
                                                      · omega
                                                    · have := (hGr k h).2.2.2; omega
                                                  · have h3 := hGr k hk
                                                    have h4 := h3.2.2.2
                                                    have := hbO.lt
                                                    refine ⟨h3.1, h3.2.1, fun h => ?_, by omega⟩
                                                    rcases hG2 k h with h | h
                                                    · exact h3.2.2.1 h
                                                    · omega)
                                    · try (exfalso; first | (simp at hc44; done) | (simp only [decide_eq_true_eq, decide_eq_false_iff_not, Bool.not_eq_true', Bool.not_eq_false', Bool.not_eq_true, Bool.not_eq_false] at hc44; omega) | omega)
                                      all_goals
                                       try simp only [decide_eq_true_eq, decide_eq_false_iff_not, Bool.not_eq_true', Bool.not_eq_false', Bool.not_eq_true, Bool.not_eq_false, Option.isNone_none, Option.isNone_some, Option.isSome_none, Option.isSome_some, ne_eq, Decidable.not_not] at hc44
                                       obtain ⟨hfit2, rfl, rfl, rfl⟩ := hre.resolve_right (fun h => by omega)
                                       refine WC.skip ?_
                                       refine WX.next ?_
                                       refine WC.seq ?_
                                       refine WC.seq ?_
                                       refine WC.region ?_
                                       refine WL.val rfl rfl rfl rfl (r_move rfl (ev_t rfl)) ?_
                                       refine WL.val rfl rfl rfl rfl (r_neq rfl (ev_t rfl) ev_c) ?_
                                       refine WL.val rfl rfl rfl rfl (r_move rfl (ev_t rfl)) ?_
                                       refine WL.cases 193 rfl (fun hb47_2 => ?_) (fun hb47_2 => ?_)
                                       · try (exfalso; first | (simp at hb47_2; done) | (simp only [decide_eq_true_eq, decide_eq_false_iff_not, Bool.not_eq_true', Bool.not_eq_false', Bool.not_eq_true, Bool.not_eq_false] at hb47_2; omega) | omega)
                                       · try (exfalso; first | (simp at hb47_2; done) | (simp only [decide_eq_true_eq, decide_eq_false_iff_not, Bool.not_eq_true', Bool.not_eq_false', Bool.not_eq_true, Bool.not_eq_false] at hb47_2; omega) | omega)
                                         all_goals
                                          try simp only [decide_eq_true_eq, decide_eq_false_iff_not, Bool.not_eq_true', Bool.not_eq_false', Bool.not_eq_true, Bool.not_eq_false, Option.isNone_none, Option.isNone_some, Option.isSome_none, Option.isSome_some, ne_eq, Decidable.not_not] at hb47_2
                                          refine WL.val rfl rfl rfl rfl (r_move rfl (ev_t rfl)) ?_
                                          refine WL.val rfl rfl rfl rfl (r_move rfl (ev_t rfl)) ?_
                                          refine WL.val rfl rfl rfl rfl (r_lenSlice (ts := #[]) rfl (ev_t rfl) elem_46) ?_
                                          refine WL.val rfl rfl rfl rfl (r_convN rfl (ev_t rfl) some_3 int_31 (by simp only [inK]; omega)) ?_
                                          refine WL.val rfl rfl rfl rfl (r_mulN rfl (ev_t rfl) ev_c (by simp only [inK]; omega)) ?_
                                          refine WL.val rfl rfl rfl rfl (r_neq rfl (ev_t rfl) (ev_t rfl)) ?_
                                          refine WL.val rfl rfl rfl rfl (r_pickF rfl (ev_t rfl) (ev_t rfl)) ?_
                                          refine WL.nil ?_
                                          refine WX.keep [(1, _), (5, _), (6, _), (8, _), (9, _), (10, _), (13, _), (19, _), (200, _)] ⟨rfl, rfl, rfl, rfl, rfl, rfl, rfl, rfl, rfl, trivial⟩ ?_
                                          refine WX.next ?_
                                          refine WC.cond rfl (ev_t rfl) (fun hc47 => ?_) (fun hc47 => ?_)
                                          · try simp only [decide_eq_true_eq, decide_eq_false_iff_not, Bool.not_eq_true', Bool.not_eq_false', Bool.not_eq_true, Bool.not_eq_false, Option.isNone_none, Option.isNone_some, Option.isSome_none, Option.isSome_some, ne_eq, Decidable.not_not] at hc47
                                            exfalso
                                            first
                                              | (exfalso; simp_all; omega)
                                          · try (exfalso; first | (simp at hc47; done) | (simp only [decide_eq_true_eq, decide_eq_false_iff_not, Bool.not_eq_true', Bool.not_eq_false', Bool.not_eq_true, Bool.not_eq_false] at hc47; omega) | omega)
                                            all_goals
                                             try simp only [decide_eq_true_eq, decide_eq_false_iff_not, Bool.not_eq_true', Bool.not_eq_false', Bool.not_eq_true, Bool.not_eq_false, Option.isNone_none, Option.isNone_some, Option.isSome_none, Option.isSome_some, ne_eq, Decidable.not_not] at hc47
                                             refine WC.skip ?_
                                             refine WX.next ?_
                                             refine WC.seq ?_
                                             refine WC.region ?_
                                             refine WL.val rfl rfl rfl rfl (r_move rfl (ev_t rfl)) ?_
                                             refine WL.val rfl rfl rfl rfl (r_loadAgg (vs := [_, _, _]) rfl (ev_t rfl) agg_56 size_56 (Blk.cellsL hbO)) ?_
                                             refine WL.cons (SO.alloc rfl rfl rfl rfl (r_buildSlice (cs := #[_, _, _]) (vs := [(0, _)]) rfl ⟨⟨rfl, (ev_t rfl)⟩, trivial⟩ row_70 rfl rfl) ?_)
                                             intro w28 hu28 hB28 hz28
                                             have hs28 := hu28.size
                                             replace hU := hU.trans hu28 (by exact (fun _ _ h => h))
                                             replace hbO := hbO.upd hu28 (fun hS => by exact (show False from hS))
                                             replace hM2 := hM2.upd hu28 (fun k hk hl hS => by have h1 := hGm2x k hk; exact (show False from hS).elim)
                                             replace hT := hT.upd hu28 (fun k hk hl hS => by have h1 := hGtx k hk; exact (show False from hS).elim)
                                             replace hH5 := hH5.upd hu28 (fun k hk hl hS => by exact (show False from hS).elim)
                                             replace hR := hR.upd hu28 (fun k hk hl hS => by have h1 := hGr k hk; exact (show False from hS).elim)
                                             have hS3 : Rd w28 (At _) _ 1 3 [.int .u8 (kd : Int), .slice (cutA At2 ct2 ys.length 1) zs2.length (ct2 - ys.length), .string ⟨s2.toArray⟩] := Rd.of_blk (F := At _) (n := 1) (sz := 3) hB28 rfl rfl (by omega)
                                             have hT49 := (hT.bound.rd (by omega)).cutW (lo := ys.length) (hi := tl.length) (by omega) (by omega)
                                             rw [hz2, show (tl.drop ys.length).take zs2.length = zs2 by rw [htl, hzs2, List.map_append, List.drop_left' (by rw [List.length_map]), List.take_of_length_le (Nat.le_refl _)]] at hT49
                                             refine WL.cons (SO.call (words1_ok hS3 hT49 (fun k hk => by rcases hk with hk | hk; (simp only [At] at hk; have := (hB28).lt; omega); exact hk.2) (by omega) (by omega) (by omega)) rfl body_34 ⟨(ev_t rfl), trivial⟩ rfl rfl rfl rfl ?_)
                                             rintro v w29 ⟨hW, hu29⟩
                                             have hs29 := hu29.size
                                             replace hU := hU.trans hu29 (by exact (fun _ _ h => h))
                                             replace hbO := hbO.upd hu29 (fun hS => by exact (show False from hS))
                                             replace hM2 := hM2.upd hu29 (fun k hk hl hS => by have h1 := hGm2x k hk; exact (show False from hS).elim)
                                             replace hT := hT.upd hu29 (fun k hk hl hS => by have h1 := hGtx k hk; exact (show False from hS).elim)
                                             replace hH5 := hH5.upd hu29 (fun k hk hl hS => by exact (show False from hS).elim)
                                             replace hR := hR.upd hu29 (fun k hk hl hS => by have h1 := hGr k hk; exact (show False from hS).elim)
                                             have hol : (objW kd zs2 s2).length ≤ 1000 := by rw [objW_len, hz2l, ← hd]; exact hdl
                                             refine WL.cons (SO.append hM2 (hW.rd (by omega)) row_46 (fun u hu => by obtain ⟨x, _, rfl⟩ := List.mem_map.1 hu; rfl) (le_maxLen (by omega)) (by omega) rfl (ev_t rfl) (ev_t rfl) rfl rfl rfl rfl ?_)
                                             intro v30 w30 hM3 hu30
                                             have hs30 := hu30.size
                                             replace hU := hU.trans hu30 (by (intro k hl hk; first | exact (show False from hk).elim | (have h2 := (hGm2x k hk).1; omega) | (have h2 := (hGm k hk).1; omega) | (have h2 := (hGr k hk).1; omega) | (have h2 := hGB k hk; omega) | (have h2 := hGv k hk; omega) | (simp only [At] at hk; omega) | (rcases hk with h | h | h | h; omega; have := hGB k h; omega; have := (hGr k h).1; omega; have := (hGvb k h).1; omega) | (rcases hk with h | h; omega; have := (hGr k h).1; omega)))
                                             replace hbO := hbO.upd hu30 (fun hS => by (have := (hGm2x _ hS).1; omega))
                                             replace hT := hT.upd hu30 (fun k hk hl hS => by have h1 := hGtx k hk; exact (hGm2x k hS).2.1 hk)
                                             replace hH5 := hH5.upd hu30 (fun k hk hl hS => by (have h2 := hGm2x k hS; rcases hk with hk | hk; omega; rcases hG2 k hk with h | h; have := hGl k h; omega; have := (hGm2 k hS).2.1; omega))
                                             replace hR := hR.upd hu30 (fun k hk hl hS => by have h1 := hGr k hk; (have h2 := hGm2x k hS; have h3 := h1.2.2.2; omega))
                                             obtain ⟨A30, c30, rfl, hc30⟩ := Own.form hM3
                                             refine WL.val rfl rfl rfl rfl (r_assign rfl (ev_t rfl)) ?_
                                             refine WL.nil ?_
                                             refine WX.keep [(1, _), (5, _), (6, _), (8, _), (9, _), (10, _), (19, _)] ⟨rfl, rfl, rfl, rfl, rfl, rfl, rfl, trivial⟩ ?_
                                             refine WX.next ?_
                                             refine WC.region ?_
                                             refine WL.val rfl rfl rfl rfl (r_move rfl (ev_t rfl)) ?_
                                             refine WL.val rfl rfl rfl rfl (r_move rfl (ev_t rfl)) ?_
                                             refine WL.cons (SO.alloc rfl rfl rfl rfl (r_buildSlice1 (vs := [_]) rfl ⟨(ev_t rfl), trivial⟩ rfl row_30 rfl rfl) ?_)
                                             intro w31 hu31 hB31 hz31
                                             have hs31 := hu31.size
                                             replace hU := hU.trans hu31 (by exact (fun _ _ h => h))
                                             replace hbO := hbO.upd hu31 (fun hS => by exact (show False from hS))
                                             replace hT := hT.upd hu31 (fun k hk hl hS => by have h1 := hGtx k hk; exact (show False from hS).elim)
                                             replace hH5 := hH5.upd hu31 (fun k hk hl hS => by exact (show False from hS).elim)
                                             replace hR := hR.upd hu31 (fun k hk hl hS => by have h1 := hGr k hk; exact (show False from hS).elim)
                                             replace hM3 := hM3.upd hu31 (fun k hk hl hS => by exact (show False from hS).elim)
                                             refine WL.cons (SO.append hR (show Rd _ _ _ 1 1 [Wd (2 * to.length)] from Rd.of_blk (F := At _) (n := 1) (sz := 1) hB31 rfl rfl (by omega)) row_30 (fun u hu => by simp at hu; subst hu; rfl) (le_maxLen (by omega)) (by omega) rfl (ev_t rfl) (ev_t rfl) rfl rfl rfl rfl ?_)
                                             intro v32 w32 hR3 hu32
                                             have hs32 := hu32.size
                                             replace hU := hU.trans hu32 (by (intro k hl hk; first | exact (show False from hk).elim | (have h2 := (hGm2x k hk).1; omega) | (have h2 := (hGm k hk).1; omega) | (have h2 := (hGr k hk).1; omega) | (have h2 := hGB k hk; omega) | (have h2 := hGv k hk; omega) | (simp only [At] at hk; omega) | (rcases hk with h | h | h | h; omega; have := hGB k h; omega; have := (hGr k h).1; omega; have := (hGvb k h).1; omega) | (rcases hk with h | h; omega; have := (hGr k h).1; omega)))
                                             replace hbO := hbO.upd hu32 (fun hS => by (have := (hGr _ hS).2.2.2; omega))
                                             replace hT := hT.upd hu32 (fun k hk hl hS => by have h1 := hGtx k hk; (have := (hGr k hS).2.2.2; omega))
                                             replace hH5 := hH5.upd hu32 (fun k hk hl hS => by (have h2 := hGr k hS; have h3 := h2.2.2.2; rcases hk with hk | hk; exact h2.2.1 hk; rcases hG2 k hk with h | h; exact h2.2.2.1 h; omega))
                                             replace hM3 := hM3.upd hu32 (fun k hk hl hS => by (have h2 := hGr k hS; rcases hk with h | h; have := (hGm2x k h).1; have := h2.2.2.2; omega; have := h2.2.2.2; have := h.1; omega))
                                             obtain ⟨A32, c32, rfl, hc32⟩ := Own.form hR3
                                             refine WL.val rfl rfl rfl rfl (r_assign rfl (ev_t rfl)) ?_
                                             refine WL.nil ?_
                                             refine WX.keep [(1, _), (5, _), (6, _), (8, _), (9, _), (10, _)] ⟨rfl, rfl, rfl, rfl, rfl, rfl, trivial⟩ ?_
                                             refine WX.blockNormal ?_
                                             refine WX.meet [(1, _), (5, _), (6, _), (8, _), (9, _), (10, _)] ⟨rfl, rfl, rfl, rfl, rfl, rfl, trivial⟩ ?_
                                             have hBxl := hBx.lt
                                             first
                                               | (have hyt := hys2T hye hyf hys2
                                                  have hzt := zsT hxz hyf (l := mem) (ord := fin) (by rw [← hPI.ltot]; omega) hzs2
                                                  have hgo := (hg.collect hPI (by omega)).obj (zs := zs2) (s := s2) (kd := kd) (ht.collect hg hPI) ⟨hkdo.1, hkdo.2.1⟩ hzt (by omega) (by omega)
                                                  have eM : (to ++ objW kd zs2 s2).length = to.length + (objW kd zs2 s2).length := List.length_append ..
                                                  have eR : (ys2 ++ [2 * to.length]).length = ys.length + 1 := by rw [List.length_append, hy2]; rfl
                                                  rw [← List.map_append, ← eM] at hM3
                                                  rw [show ys2.map Wd ++ [Wd (2 * to.length)] = (ys2 ++ [2 * to.length]).map Wd by simp, ← eR] at hR3
                                                  rw [← eM, ← eR]
                                                  have hMb := hM3.bound
                                                  have hRb := hR3.bound
                                                  refine ⟨to ++ objW kd zs2 s2, ys2 ++ [2 * to.length], _, _, ⟨G2, _, _, A2, c2, fin.map (plc (szAt mem) fin) ++ [to.length], N, hH5, hgo.1, hgo.2, by omega, by omega, hMb, hRb, fun y hy => ?_, fun k hk => ?_, fun k hk => ?_, fun k hk => ?_⟩, hU, rfl⟩
                                                  · rcases List.mem_append.1 hy with hy | hy
                                                    · exact ⟨(hyt y hy).1, List.mem_append_left _ (hyt y hy).2⟩
                                                    · simp at hy
                                                      subst hy
                                                      exact ⟨by omega, by rw [Nat.mul_div_cancel_left _ (by decide)]; simp⟩
                                                  · rcases hG2 k hk with h | h
                                                    · exact hGB k h
                                                    · omega
                                                  · obtain ⟨h1, h2⟩ := hk
                                                    rcases h1 with h1 | h1
                                                    · have h3 := hGm2x k h1
                                                      have h4 := (hGm2 k h1).2.1
                                                      refine ⟨by omega, by omega, fun h => ?_, fun h => ?_, h2⟩
                                                      · rcases hG2 k h with h | h
                                                        · have := hGl k h; omega
                                                        · omega
                                                      · rcases h.1 with h | h
                                                        · have := (hGr k h).2.2.2; omega
                                                        · have := h.1; omega
                                                    · have h4 := h1.1
                                                      have h5 := h1.2
                                                      refine ⟨by omega, by omega, fun h => ?_, fun h => ?_, h2⟩
                                                      · have := hG2l k h; omega
                                                      · rcases h.1 with h | h
                                                        · have := (hGr k h).2.2.2; omega
                                                        · have := h.1; omega
                                                  · obtain ⟨h1, h2⟩ := hk
                                                    rcases h1 with h1 | h1
                                                    · have h3 := hGr k h1
                                                      have h4 := h3.2.2.2
                                                      refine ⟨h3.1, h3.2.1, fun h => ?_, h2⟩
                                                      rcases hG2 k h with h | h
                                                      · exact h3.2.2.1 h
                                                      · omega
                                                    · have h4 := h1.1
                                                      refine ⟨by omega, by omega, fun h => ?_, h2⟩
                                                      have := hG2l k h
                                                      omega)
                            · try (exfalso; first | (simp at hc33; done) | (simp only [decide_eq_true_eq, decide_eq_false_iff_not, Bool.not_eq_true', Bool.not_eq_false', Bool.not_eq_true, Bool.not_eq_false] at hc33; omega) | omega)
                              all_goals
                               try simp only [decide_eq_true_eq, decide_eq_false_iff_not, Bool.not_eq_true', Bool.not_eq_false', Bool.not_eq_true, Bool.not_eq_false, Option.isNone_none, Option.isNone_some, Option.isSome_none, Option.isSome_some, ne_eq, Decidable.not_not] at hc33
                               have hfit : need9 kd zs.length s2 + mem.length ≤ q := by omega
                               refine WC.seq ?_
                               refine WC.region ?_
                               refine WL.val rfl rfl rfl rfl (r_move rfl (ev_t rfl)) ?_
                               refine WL.val rfl rfl rfl rfl (r_loadAgg (vs := [_, _, _]) rfl (ev_t rfl) agg_56 size_56 (Blk.cellsL hbO)) ?_
                               refine WL.val rfl rfl rfl rfl (r_move rfl (ev_t rfl)) ?_
                               refine WL.val rfl rfl rfl rfl (r_move rfl (ev_t rfl)) ?_
                               refine WL.cons (SO.call (lput_ok hH (by omega) hg.vd hVv (fun h => ⟨_, hv0 h⟩) hR (fun k hk => ⟨by have := hGv k hk; omega, fun h => by have := hGv k hk; have := hGl k h; omega, fun h => by have := hGv k hk; have := (hGr k h).2.2.2; omega, by have := (hGvb k hk).2; have := hWs.lt; have h9 := hBx.lt; omega⟩) (fun k hk => ⟨(hGr k hk).2.1, (hGr k hk).2.2.1, by have := (hGr k hk).2.2.2; have := hbO.lt; omega⟩) hxz (by omega) (by omega) (by omega) hk3z (by omega)) rfl body_33 ⟨(ev_t rfl), (ev_t rfl), (ev_t rfl), (ev_t rfl), trivial⟩ rfl rfl rfl rfl ?_)
                               rintro v w33 ⟨G2, A2, c2, mem2, N, ys2, hH2, hy2, hN, hG2, hR2, hu33, hpt⟩
                               obtain ⟨rfl, rfl, rfl⟩ : v = okV mem.length ∧ mem2 = mem ++ objW kd zs s2 ∧ ys = ys2 := by
                                 rcases hpt with ⟨_, h1, h2, h3⟩ | ⟨h, _⟩
                                 · exact ⟨h1, h2, h3.symm⟩
                                 · exact absurd hfit h
                               have hbOX := hbO.lt
                               have hG2l := hH2.lt
                               have hs33 := hu33.size
                               replace hU := hU.trans hu33 (by (intro k hl hk; first | exact (show False from hk).elim | (have h2 := (hGm2x k hk).1; omega) | (have h2 := (hGm k hk).1; omega) | (have h2 := (hGr k hk).1; omega) | (have h2 := hGB k hk; omega) | (have h2 := hGv k hk; omega) | (simp only [At] at hk; omega) | (rcases hk with h | h | h | h; omega; have := hGB k h; omega; have := (hGr k h).1; omega; have := (hGvb k h).1; omega) | (rcases hk with h | h; omega; have := (hGr k h).1; omega)))
                               replace hM := hM.upd hu33 (fun k hk hl hS => by have h1 := hGm k hk; (rcases hS with h | h | h | h; exact h1.2.1 h; exact h1.2.2.1 h; exact h1.2.2.2.1 h; have := (hGvb k h).1; have h3 := h1.2.2.2.2; omega))
                               replace hBx := hBx.upd hu33 (fun hS => by (rcases hS with h | h | h | h; omega; have := hGl _ h; omega; have := (hGr _ h).2.2.2; omega; have := (hGvb _ h).1; omega))
                               replace hbO := hbO.upd hu33 (fun hS => by (rcases hS with h | h | h | h; omega; have := hGl _ h; omega; have := (hGr _ h).2.2.2; omega; have := (hGvb _ h).1; omega))
                               replace hWs := hWs.upd hu33 (fun k hk hl hS => by have h1 := hGs k hk; (rcases hS with h | h | h | h; omega; have := hGl k h; omega; have := (hGr k h).2.2.2; omega; have := (hGvb k h).2; omega))
                               have hszp := (hu33).size
                               clear hH hR hVv hpt
                               have hH5 := hH2
                               have hR := hR2
                               clear hH2 hR2
                               unfold okV
                               refine WL.val rfl rfl rfl rfl (r_move rfl (ev_t rfl)) ?_
                               refine WL.val rfl rfl rfl rfl (r_extract rfl (ev_t rfl) rfl) ?_
                               refine WL.val rfl rfl rfl rfl (r_extract rfl (ev_t rfl) rfl) ?_
                               refine WL.val rfl rfl rfl rfl (r_assign rfl (ev_t rfl)) ?_
                               refine WL.val rfl rfl rfl rfl (r_assign rfl (ev_t rfl)) ?_
                               refine WL.nil ?_
                               refine WX.keep [(1, _), (5, _), (6, _), (8, _), (9, _), (10, _), (13, _), (21, _), (22, _)] ⟨rfl, rfl, rfl, rfl, rfl, rfl, rfl, rfl, rfl, trivial⟩ ?_
                               refine WX.next ?_
                               refine WC.seq ?_
                               refine WC.seq ?_
                               refine WC.region ?_
                               refine WL.val rfl rfl rfl rfl (r_move rfl (ev_t rfl)) ?_
                               refine WL.val rfl rfl rfl rfl (r_neq rfl (ev_t rfl) ev_c) ?_
                               refine WL.val rfl rfl rfl rfl (r_move rfl (ev_t rfl)) ?_
                               refine WL.cases 220 rfl (fun hb52_2 => ?_) (fun hb52_2 => ?_)
                               · try (exfalso; first | (simp at hb52_2; done) | (simp only [decide_eq_true_eq, decide_eq_false_iff_not, Bool.not_eq_true', Bool.not_eq_false', Bool.not_eq_true, Bool.not_eq_false] at hb52_2; omega) | omega)
                               · try (exfalso; first | (simp at hb52_2; done) | (simp only [decide_eq_true_eq, decide_eq_false_iff_not, Bool.not_eq_true', Bool.not_eq_false', Bool.not_eq_true, Bool.not_eq_false] at hb52_2; omega) | omega)
                                 all_goals
                                  try simp only [decide_eq_true_eq, decide_eq_false_iff_not, Bool.not_eq_true', Bool.not_eq_false', Bool.not_eq_true, Bool.not_eq_false, Option.isNone_none, Option.isNone_some, Option.isSome_none, Option.isSome_some, ne_eq, Decidable.not_not] at hb52_2
                                  refine WL.val rfl rfl rfl rfl (r_move rfl (ev_t rfl)) ?_
                                  refine WL.val rfl rfl rfl rfl (r_move rfl (ev_t rfl)) ?_
                                  refine WL.val rfl rfl rfl rfl (r_lenSlice (ts := #[]) rfl (ev_t rfl) elem_46) ?_
                                  refine WL.val rfl rfl rfl rfl (r_convN rfl (ev_t rfl) some_3 int_31 (by simp only [inK]; omega)) ?_
                                  refine WL.val rfl rfl rfl rfl (r_mulN rfl (ev_t rfl) ev_c (by simp only [inK]; omega)) ?_
                                  refine WL.val rfl rfl rfl rfl (r_neq rfl (ev_t rfl) (ev_t rfl)) ?_
                                  refine WL.val rfl rfl rfl rfl (r_pickF rfl (ev_t rfl) (ev_t rfl)) ?_
                                  refine WL.nil ?_
                                  refine WX.keep [(1, _), (5, _), (6, _), (8, _), (9, _), (10, _), (13, _), (21, _), (227, _)] ⟨rfl, rfl, rfl, rfl, rfl, rfl, rfl, rfl, rfl, trivial⟩ ?_
                                  refine WX.next ?_
                                  refine WC.cond rfl (ev_t rfl) (fun hc52 => ?_) (fun hc52 => ?_)
                                  · try simp only [decide_eq_true_eq, decide_eq_false_iff_not, Bool.not_eq_true', Bool.not_eq_false', Bool.not_eq_true, Bool.not_eq_false, Option.isNone_none, Option.isNone_some, Option.isSome_none, Option.isSome_some, ne_eq, Decidable.not_not] at hc52
                                    exfalso
                                    (exfalso; simp_all; omega)
                                  · try (exfalso; first | (simp at hc52; done) | (simp only [decide_eq_true_eq, decide_eq_false_iff_not, Bool.not_eq_true', Bool.not_eq_false', Bool.not_eq_true, Bool.not_eq_false] at hc52; omega) | omega)
                                    all_goals
                                     try simp only [decide_eq_true_eq, decide_eq_false_iff_not, Bool.not_eq_true', Bool.not_eq_false', Bool.not_eq_true, Bool.not_eq_false, Option.isNone_none, Option.isNone_some, Option.isSome_none, Option.isSome_some, ne_eq, Decidable.not_not] at hc52
                                     refine WC.skip ?_
                                     refine WX.next ?_
                                     refine WC.seq ?_
                                     refine WC.region ?_
                                     refine WL.val rfl rfl rfl rfl (r_move rfl (ev_t rfl)) ?_
                                     refine WL.val rfl rfl rfl rfl (r_loadAgg (vs := [_, _, _]) rfl (ev_t rfl) agg_56 size_56 (Blk.cellsL hbO)) ?_
                                     refine WL.cons (SO.alloc rfl rfl rfl rfl (r_buildSlice (cs := #[_, _, _]) (vs := [(0, _)]) rfl ⟨⟨rfl, (ev_t rfl)⟩, trivial⟩ row_70 rfl rfl) ?_)
                                     intro w34 hu34 hB34 hz34
                                     have hs34 := hu34.size
                                     replace hU := hU.trans hu34 (by exact (fun _ _ h => h))
                                     replace hM := hM.upd hu34 (fun k hk hl hS => by have h1 := hGm k hk; exact (show False from hS).elim)
                                     replace hBx := hBx.upd hu34 (fun hS => by exact (show False from hS))
                                     replace hbO := hbO.upd hu34 (fun hS => by exact (show False from hS))
                                     replace hWs := hWs.upd hu34 (fun k hk hl hS => by have h1 := hGs k hk; exact (show False from hS).elim)
                                     replace hH5 := hH5.upd hu34 (fun k hk hl hS => by exact (show False from hS).elim)
                                     replace hR := hR.upd hu34 (fun k hk hl hS => by have h1 := hGr k hk; exact (show False from hS).elim)
                                     have hS3 : Rd w34 (At _) _ 1 3 [.int .u8 (kd : Int), .slice AW zs.length cW, .string ⟨s2.toArray⟩] := Rd.of_blk (F := At _) (n := 1) (sz := 3) hB34 rfl rfl (by omega)
                                     refine WL.cons (SO.call (words1_ok hS3 (hWs.bound.rd (by omega)) (fun k hk => by rcases hk with hk | hk; (simp only [At] at hk; have := (hB34).lt; omega); exact hk.2) (by omega) (by omega) (by omega)) rfl body_34 ⟨(ev_t rfl), trivial⟩ rfl rfl rfl rfl ?_)
                                     rintro v w35 ⟨hW, hu35⟩
                                     have hs35 := hu35.size
                                     replace hU := hU.trans hu35 (by exact (fun _ _ h => h))
                                     replace hM := hM.upd hu35 (fun k hk hl hS => by have h1 := hGm k hk; exact (show False from hS).elim)
                                     replace hBx := hBx.upd hu35 (fun hS => by exact (show False from hS))
                                     replace hbO := hbO.upd hu35 (fun hS => by exact (show False from hS))
                                     replace hWs := hWs.upd hu35 (fun k hk hl hS => by have h1 := hGs k hk; exact (show False from hS).elim)
                                     replace hH5 := hH5.upd hu35 (fun k hk hl hS => by exact (show False from hS).elim)
                                     replace hR := hR.upd hu35 (fun k hk hl hS => by have h1 := hGr k hk; exact (show False from hS).elim)
                                     have hol : (objW kd zs s2).length ≤ 1000 := by rw [objW_len, ← hd]; exact hdl
                                     refine WL.cons (SO.append hM (hW.rd (by omega)) row_46 (fun u hu => by obtain ⟨x, _, rfl⟩ := List.mem_map.1 hu; rfl) (le_maxLen (by omega)) (by omega) rfl (ev_t rfl) (ev_t rfl) rfl rfl rfl rfl ?_)
                                     intro v36 w36 hM3 hu36
                                     have hs36 := hu36.size
                                     replace hU := hU.trans hu36 (by (intro k hl hk; first | exact (show False from hk).elim | (have h2 := (hGm2x k hk).1; omega) | (have h2 := (hGm k hk).1; omega) | (have h2 := (hGr k hk).1; omega) | (have h2 := hGB k hk; omega) | (have h2 := hGv k hk; omega) | (simp only [At] at hk; omega) | (rcases hk with h | h | h | h; omega; have := hGB k h; omega; have := (hGr k h).1; omega; have := (hGvb k h).1; omega) | (rcases hk with h | h; omega; have := (hGr k h).1; omega)))
                                     replace hBx := hBx.upd hu36 (fun hS => by (have := (hGm _ hS).2.2.2.2; omega))
                                     replace hbO := hbO.upd hu36 (fun hS => by (have := (hGm _ hS).2.2.2.2; omega))
                                     replace hWs := hWs.upd hu36 (fun k hk hl hS => by have h1 := hGs k hk; (have := (hGm k hS).2.2.2.2; omega))
                                     replace hH5 := hH5.upd hu36 (fun k hk hl hS => by (have h2 := hGm k hS; have h3 := h2.2.2.2.2; rcases hk with hk | hk; exact h2.2.1 hk; rcases hG2 k hk with h | h; exact h2.2.2.1 h; omega))
                                     replace hR := hR.upd hu36 (fun k hk hl hS => by have h1 := hGr k hk; (have h2 := hGm k hS; exact h2.2.2.2.1 hk))
                                     obtain ⟨A36, c36, rfl, hc36⟩ := Own.form hM3
                                     refine WL.val rfl rfl rfl rfl (r_assign rfl (ev_t rfl)) ?_
                                     refine WL.nil ?_
                                     refine WX.keep [(1, _), (5, _), (6, _), (8, _), (9, _), (10, _), (21, _)] ⟨rfl, rfl, rfl, rfl, rfl, rfl, rfl, trivial⟩ ?_
                                     refine WX.next ?_
                                     refine WC.region ?_
                                     refine WL.val rfl rfl rfl rfl (r_move rfl (ev_t rfl)) ?_
                                     refine WL.val rfl rfl rfl rfl (r_move rfl (ev_t rfl)) ?_
                                     refine WL.cons (SO.alloc rfl rfl rfl rfl (r_buildSlice1 (vs := [_]) rfl ⟨(ev_t rfl), trivial⟩ rfl row_30 rfl rfl) ?_)
                                     intro w37 hu37 hB37 hz37
                                     have hs37 := hu37.size
                                     replace hU := hU.trans hu37 (by exact (fun _ _ h => h))
                                     replace hBx := hBx.upd hu37 (fun hS => by exact (show False from hS))
                                     replace hbO := hbO.upd hu37 (fun hS => by exact (show False from hS))
                                     replace hWs := hWs.upd hu37 (fun k hk hl hS => by have h1 := hGs k hk; exact (show False from hS).elim)
                                     replace hH5 := hH5.upd hu37 (fun k hk hl hS => by exact (show False from hS).elim)
                                     replace hR := hR.upd hu37 (fun k hk hl hS => by have h1 := hGr k hk; exact (show False from hS).elim)
                                     replace hM3 := hM3.upd hu37 (fun k hk hl hS => by exact (show False from hS).elim)
                                     refine WL.cons (SO.append hR (show Rd _ _ _ 1 1 [Wd (2 * mem.length)] from Rd.of_blk (F := At _) (n := 1) (sz := 1) hB37 rfl rfl (by omega)) row_30 (fun u hu => by simp at hu; subst hu; rfl) (le_maxLen (by omega)) (by omega) rfl (ev_t rfl) (ev_t rfl) rfl rfl rfl rfl ?_)
                                     intro v38 w38 hR3 hu38
                                     have hs38 := hu38.size
                                     replace hU := hU.trans hu38 (by (intro k hl hk; first | exact (show False from hk).elim | (have h2 := (hGm2x k hk).1; omega) | (have h2 := (hGm k hk).1; omega) | (have h2 := (hGr k hk).1; omega) | (have h2 := hGB k hk; omega) | (have h2 := hGv k hk; omega) | (simp only [At] at hk; omega) | (rcases hk with h | h | h | h; omega; have := hGB k h; omega; have := (hGr k h).1; omega; have := (hGvb k h).1; omega) | (rcases hk with h | h; omega; have := (hGr k h).1; omega)))
                                     replace hBx := hBx.upd hu38 (fun hS => by (have := (hGr _ hS).2.2.2; omega))
                                     replace hbO := hbO.upd hu38 (fun hS => by (have := (hGr _ hS).2.2.2; omega))
                                     replace hWs := hWs.upd hu38 (fun k hk hl hS => by have h1 := hGs k hk; (have := (hGr k hS).2.2.2; omega))
                                     replace hH5 := hH5.upd hu38 (fun k hk hl hS => by (have h2 := hGr k hS; have h3 := h2.2.2.2; rcases hk with hk | hk; exact h2.2.1 hk; rcases hG2 k hk with h | h; exact h2.2.2.1 h; omega))
                                     replace hM3 := hM3.upd hu38 (fun k hk hl hS => by (have h2 := hGr k hS; rcases hk with h | h; exact (hGm k h).2.2.2.1 hS; have := h2.2.2.2; have := h.1; omega))
                                     obtain ⟨A38, c38, rfl, hc38⟩ := Own.form hR3
                                     refine WL.val rfl rfl rfl rfl (r_assign rfl (ev_t rfl)) ?_
                                     refine WL.nil ?_
                                     refine WX.keep [(1, _), (5, _), (6, _), (8, _), (9, _), (10, _)] ⟨rfl, rfl, rfl, rfl, rfl, rfl, trivial⟩ ?_
                                     refine WX.blockNormal ?_
                                     refine WX.meet [(1, _), (5, _), (6, _), (8, _), (9, _), (10, _)] ⟨rfl, rfl, rfl, rfl, rfl, rfl, trivial⟩ ?_
                                     have hBxl := hBx.lt
                                     first
                                       | (have hgo := hg.obj (zs := zs) (s := s2) (kd := kd) ht ⟨hkdo.1, hkdo.2.1⟩ hzs (by omega) (by omega)
                                          have eM : (mem ++ objW kd zs s2).length = mem.length + (objW kd zs s2).length := List.length_append ..
                                          have eR : (ys ++ [2 * mem.length]).length = ys.length + 1 := by simp
                                          rw [← List.map_append, ← eM] at hM3
                                          rw [show ys.map Wd ++ [Wd (2 * mem.length)] = (ys ++ [2 * mem.length]).map Wd by simp, ← eR] at hR3
                                          rw [← eM, ← eR]
                                          have hMb := hM3.bound
                                          have hRb := hR3.bound
                                          refine ⟨mem ++ objW kd zs s2, ys ++ [2 * mem.length], _, _, ⟨G2, _, _, A2, c2, st ++ [mem.length], N, hH5, hgo.1, hgo.2, by omega, by omega, hMb, hRb, fun y hy => ?_, fun k hk => ?_, fun k hk => ?_, fun k hk => ?_⟩, hU, rfl⟩
                                          · rcases List.mem_append.1 hy with hy | hy
                                            · exact ⟨(hye y hy).1, List.mem_append_left _ (hye y hy).2⟩
                                            · simp at hy
                                              subst hy
                                              exact ⟨by omega, by rw [Nat.mul_div_cancel_left _ (by decide)]; simp⟩
                                          · rcases hG2 k hk with h | h
                                            · exact hGB k h
                                            · omega
                                          · obtain ⟨h1, h2⟩ := hk
                                            rcases h1 with h1 | h1
                                            · have h3 := hGm k h1
                                              have h4 := h3.2.2.2.2
                                              refine ⟨h3.1, h3.2.1, fun h => ?_, fun h => ?_, h2⟩
                                              · rcases hG2 k h with h | h
                                                · exact h3.2.2.1 h
                                                · omega
                                              · rcases h.1 with h | h
                                                · exact h3.2.2.2.1 h
                                                · have := h.1; omega
                                            · have h4 := h1.1
                                              have h5 := h1.2
                                              refine ⟨by omega, by omega, fun h => ?_, fun h => ?_, h2⟩
                                              · have := hG2l k h; omega
                                              · rcases h.1 with h | h
                                                · have := (hGr k h).2.2.2; omega
                                                · have := h.1; omega
                                          · obtain ⟨h1, h2⟩ := hk
                                            rcases h1 with h1 | h1
                                            · have h3 := hGr k h1
                                              have h4 := h3.2.2.2
                                              refine ⟨h3.1, h3.2.1, fun h => ?_, h2⟩
                                              rcases hG2 k h with h | h
                                              · exact h3.2.2.1 h
                                              · omega
                                            · have h4 := h1.1
                                              refine ⟨by omega, by omega, fun h => ?_, h2⟩
                                              have := hG2l k h
                                              omega)
                  · try (exfalso; first | (simp at hc19; done) | (simp only [decide_eq_true_eq, decide_eq_false_iff_not, Bool.not_eq_true', Bool.not_eq_false', Bool.not_eq_true, Bool.not_eq_false] at hc19; omega) | omega)
                    all_goals
                     try simp only [decide_eq_true_eq, decide_eq_false_iff_not, Bool.not_eq_true', Bool.not_eq_false', Bool.not_eq_true, Bool.not_eq_false, Option.isNone_none, Option.isNone_some, Option.isSome_none, Option.isSome_some, ne_eq, Decidable.not_not] at hc19
                     refine WC.seq ?_
                     refine WC.region ?_
                     refine WL.val rfl rfl rfl rfl (r_move rfl (ev_t rfl)) ?_
                     refine WL.val rfl rfl rfl rfl (r_eql rfl (ev_t rfl) ev_c) ?_
                     refine WL.val rfl rfl rfl rfl (r_assign rfl (ev_t rfl)) ?_
                     refine WL.nil ?_
                     refine WX.keep [(1, _), (5, _), (6, _), (8, _), (9, _), (10, _), (11, _), (12, _), (237, _)] ⟨rfl, rfl, rfl, rfl, rfl, rfl, rfl, rfl, rfl, trivial⟩ ?_
                     refine WX.next ?_
                     refine WC.cond rfl (ev_t rfl) (fun hc56 => ?_) (fun hc56 => ?_)
                     · try (exfalso; first | (simp at hc56; done) | (simp only [decide_eq_true_eq, decide_eq_false_iff_not, Bool.not_eq_true', Bool.not_eq_false', Bool.not_eq_true, Bool.not_eq_false] at hc56; omega) | omega)
                       all_goals
                        try simp only [decide_eq_true_eq, decide_eq_false_iff_not, Bool.not_eq_true', Bool.not_eq_false', Bool.not_eq_true, Bool.not_eq_false, Option.isNone_none, Option.isNone_some, Option.isSome_none, Option.isSome_some, ne_eq, Decidable.not_not] at hc56
                        refine WC.seq ?_
                        refine WC.seq ?_
                        refine WC.region ?_
                        refine WL.val rfl rfl rfl rfl (r_move rfl (ev_t rfl)) ?_
                        refine WL.val rfl rfl rfl rfl (r_lenSlice (ts := #[]) rfl (ev_t rfl) elem_30) ?_
                        refine WL.val rfl rfl rfl rfl (r_eql rfl (ev_t rfl) ev_c) ?_
                        refine WL.val rfl rfl rfl rfl (r_move rfl (ev_t rfl)) ?_
                        refine WL.cases 243 rfl (fun hb57_3 => ?_) (fun hb57_3 => ?_)
                        · try (exfalso; first | (simp at hb57_3; done) | (simp only [decide_eq_true_eq, decide_eq_false_iff_not, Bool.not_eq_true', Bool.not_eq_false', Bool.not_eq_true, Bool.not_eq_false] at hb57_3; omega) | omega)
                          all_goals
                           try simp only [decide_eq_true_eq, decide_eq_false_iff_not, Bool.not_eq_true', Bool.not_eq_false', Bool.not_eq_true, Bool.not_eq_false, Option.isNone_none, Option.isNone_some, Option.isSome_none, Option.isSome_some, ne_eq, Decidable.not_not] at hb57_3
                           refine WL.skip rfl rfl rfl ?_
                           refine WL.skip rfl rfl rfl ?_
                           refine WL.skip rfl rfl rfl ?_
                           refine WL.skip rfl rfl rfl ?_
                           refine WL.val rfl rfl rfl rfl (r_pickT rfl (ev_t rfl) ev_c) ?_
                           refine WL.nil ?_
                           refine WX.keep [(1, _), (5, _), (6, _), (8, _), (9, _), (10, _), (11, _), (248, _)] ⟨rfl, rfl, rfl, rfl, rfl, rfl, rfl, rfl, trivial⟩ ?_
                           refine WX.next ?_
                           refine WC.cond_true rfl (ev_t rfl) ?_
                           refine WC.exit ?_
                           refine WX.thenExit ?_
                           refine WX.blockPast rfl ?_
                           refine WX.thenExit ?_
                           refine WX.blockHere ?_
                           refine WX.next ?_
                           refine WC.region ?_
                           refine WL.val rfl rfl rfl rfl (r_move rfl (ev_t rfl)) ?_
                           refine WL.val rfl rfl rfl rfl (r_addN rfl (ev_t rfl) ev_c (by simp only [inK]; omega)) ?_
                           refine WL.val rfl rfl rfl rfl (r_assign rfl (ev_t rfl)) ?_
                           refine WL.nil ?_
                           refine WX.keep [(1, _), (5, _), (6, _), (8, _), (9, _), (10, _)] ⟨rfl, rfl, rfl, rfl, rfl, rfl, trivial⟩ ?_
                           refine WX.meet [(1, _), (5, _), (6, _), (8, _), (9, _), (10, _)] ⟨rfl, rfl, rfl, rfl, rfl, rfl, trivial⟩ ?_
                           first
                             | (have hBxl := hBx.lt
                                exact ⟨l.length - (i + 1), by omega, i + 1, mem, ys, _, _, by omega, by omega, rfl, ⟨G, Gm, Gr, A, c, st, n, hH, hg, ht, by omega, by omega, hM, hR, hye, hGB, fun k hk => by have := hGm k hk; exact ⟨this.1, this.2.1, this.2.2.1, this.2.2.2.1, by omega⟩, fun k hk => by have := hGr k hk; exact ⟨this.1, this.2.1, this.2.2.1, by omega⟩⟩, hU, rfl⟩)
                        · try (exfalso; first | (simp at hb57_3; done) | (simp only [decide_eq_true_eq, decide_eq_false_iff_not, Bool.not_eq_true', Bool.not_eq_false', Bool.not_eq_true, Bool.not_eq_false] at hb57_3; omega) | omega)
                          all_goals
                           try simp only [decide_eq_true_eq, decide_eq_false_iff_not, Bool.not_eq_true', Bool.not_eq_false', Bool.not_eq_true, Bool.not_eq_false, Option.isNone_none, Option.isNone_some, Option.isSome_none, Option.isSome_some, ne_eq, Decidable.not_not] at hb57_3
                           refine WL.val rfl rfl rfl rfl (r_field0 rfl (ev_t rfl) fld_62_2) ?_
                           refine WL.val rfl rfl rfl rfl (r_load rfl (ev_t rfl) flat_60 (Blk.cell hBx rfl)) ?_
                           refine WL.val rfl rfl rfl rfl (r_lenSlice (ts := #[]) rfl (ev_t rfl) elem_60) ?_
                           refine WL.val rfl rfl rfl rfl (r_eql rfl (ev_t rfl) ev_c) ?_
                           refine WL.val rfl rfl rfl rfl (r_pickF rfl (ev_t rfl) (ev_t rfl)) ?_
                           refine WL.nil ?_
                           refine WX.keep [(1, _), (5, _), (6, _), (8, _), (9, _), (10, _), (11, _), (248, _)] ⟨rfl, rfl, rfl, rfl, rfl, rfl, rfl, rfl, trivial⟩ ?_
                           refine WX.next ?_
                           refine WC.cond rfl (ev_t rfl) (fun hc57 => ?_) (fun hc57 => ?_)
                           · try (exfalso; first | (simp at hc57; done) | (simp only [decide_eq_true_eq, decide_eq_false_iff_not, Bool.not_eq_true', Bool.not_eq_false', Bool.not_eq_true, Bool.not_eq_false] at hc57; omega) | omega)
                             all_goals
                              try simp only [decide_eq_true_eq, decide_eq_false_iff_not, Bool.not_eq_true', Bool.not_eq_false', Bool.not_eq_true, Bool.not_eq_false, Option.isNone_none, Option.isNone_some, Option.isSome_none, Option.isSome_some, ne_eq, Decidable.not_not] at hc57
                              refine WC.exit ?_
                              refine WX.thenExit ?_
                              refine WX.blockPast rfl ?_
                              refine WX.thenExit ?_
                              refine WX.blockHere ?_
                              refine WX.next ?_
                              refine WC.region ?_
                              refine WL.val rfl rfl rfl rfl (r_move rfl (ev_t rfl)) ?_
                              refine WL.val rfl rfl rfl rfl (r_addN rfl (ev_t rfl) ev_c (by simp only [inK]; omega)) ?_
                              refine WL.val rfl rfl rfl rfl (r_assign rfl (ev_t rfl)) ?_
                              refine WL.nil ?_
                              refine WX.keep [(1, _), (5, _), (6, _), (8, _), (9, _), (10, _)] ⟨rfl, rfl, rfl, rfl, rfl, rfl, trivial⟩ ?_
                              refine WX.meet [(1, _), (5, _), (6, _), (8, _), (9, _), (10, _)] ⟨rfl, rfl, rfl, rfl, rfl, rfl, trivial⟩ ?_
                              first
                                | (have hBxl := hBx.lt
                                   exact ⟨l.length - (i + 1), by omega, i + 1, mem, ys, _, _, by omega, by omega, rfl, ⟨G, Gm, Gr, A, c, st, n, hH, hg, ht, by omega, by omega, hM, hR, hye, hGB, fun k hk => by have := hGm k hk; exact ⟨this.1, this.2.1, this.2.2.1, this.2.2.2.1, by omega⟩, fun k hk => by have := hGr k hk; exact ⟨this.1, this.2.1, this.2.2.1, by omega⟩⟩, hU, rfl⟩)
                           · try (exfalso; first | (simp at hc57; done) | (simp only [decide_eq_true_eq, decide_eq_false_iff_not, Bool.not_eq_true', Bool.not_eq_false', Bool.not_eq_true, Bool.not_eq_false] at hc57; omega) | omega)
                             all_goals
                              try simp only [decide_eq_true_eq, decide_eq_false_iff_not, Bool.not_eq_true', Bool.not_eq_false', Bool.not_eq_true, Bool.not_eq_false, Option.isNone_none, Option.isNone_some, Option.isSome_none, Option.isSome_some, ne_eq, Decidable.not_not] at hc57
                              have hys0 : 0 < ys.length := by omega
                              have hap0 : 0 < aps.length := by omega
                              refine WC.skip ?_
                              refine WX.next ?_
                              refine WC.seq ?_
                              refine WC.region ?_
                              refine WL.val rfl rfl rfl rfl (r_move rfl (ev_t rfl)) ?_
                              refine WL.val rfl rfl rfl rfl (r_field0 rfl (ev_t rfl) fld_62_1) ?_
                              refine WL.val rfl rfl rfl rfl (r_load rfl (ev_t rfl) flat_5 (Blk.cell hBx rfl)) ?_
                              refine WL.val rfl rfl rfl rfl (r_convN rfl (ev_t rfl) some_5 int_3 (by simp only [inK]; omega)) ?_
                              refine WL.val rfl rfl rfl rfl (r_move rfl (ev_t rfl)) ?_
                              refine WL.val rfl rfl rfl rfl (r_lenSlice (ts := #[]) rfl (ev_t rfl) elem_30) ?_
                              refine WL.val rfl rfl rfl rfl (r_remN rfl (ev_t rfl) (ev_t rfl) (by omega) (by omega)) ?_
                              obtain ⟨j, hjj⟩ : ∃ j, j = akk % ys.length := ⟨_, rfl⟩
                              have hjl : j < ys.length := by rw [hjj]; exact Nat.mod_lt _ hys0
                              try rw [show (akk : Int).tmod (ys.length : Int) = ((j : Nat) : Int) by rw [hjj]; rfl]
                              try rw [show (akk : Int) % (ys.length : Int) = ((j : Nat) : Int) by rw [hjj]; rfl]
                              obtain ⟨br, or_, rfl, _⟩ := (hR.rd (by omega)).open (by omega)
                              obtain ⟨y, hyj⟩ : ∃ y, ys[j]? = some y := ⟨_, List.getElem?_eq_getElem hjl⟩
                              obtain ⟨hy0, hys⟩ := hye y (List.mem_of_getElem? hyj)
                              obtain ⟨a0, ha0⟩ : ∃ a0, y = 2 * a0 := ⟨y / 2, by omega⟩
                              subst ha0
                              rw [Nat.mul_div_cancel_left _ (by decide)] at hys
                              obtain ⟨hal, hafit⟩ := hg.vd.in hys
                              have hval : validAt mem a0 := ⟨hal, (hg.kd a0 hys).1, (hg.kd a0 hys).2, hg.n8 hys, hafit⟩
                              have hgx := getD_lt hal
                              have hx64 := hg.vd.w64 _ (List.mem_of_getElem? hgx)
                              have hszp := szAt_pos mem a0
                              refine WL.val rfl rfl rfl rfl (r_indexAddr rfl (ev_t rfl) (ev_t rfl) elem_30 size_32 (by omega) (by omega)) ?_
                              refine WL.val rfl rfl rfl rfl (r_load rfl (ev_t rfl) flat_32 ((hR.rd (by omega)).cell (j := j) (u := Wd (2 * a0)) (show or_ + (j : Int).toNat * 1 = or_ + j by omega) (by rw [List.getElem?_map, hyj]; rfl))) ?_
                              refine WL.val rfl rfl rfl rfl (r_assign rfl (ev_t rfl)) ?_
                              refine WL.nil ?_
                              refine WX.keep [(1, _), (5, _), (6, _), (8, _), (9, _), (10, _), (11, _), (23, _)] ⟨rfl, rfl, rfl, rfl, rfl, rfl, rfl, rfl, trivial⟩ ?_
                              refine WX.next ?_
                              refine WC.seq ?_
                              refine WC.region ?_
                              refine WL.val rfl rfl rfl rfl (r_move rfl (ev_t rfl)) ?_
                              refine WL.val rfl rfl rfl rfl (r_move rfl (ev_t rfl)) ?_
                              refine WL.val rfl rfl rfl rfl (r_shr rfl (ev_t rfl) ev_c (by omega) (by simp only [IntKind.bits]; omega)) ?_
                              refine WL.val rfl rfl rfl rfl (r_conv rfl (ev_t rfl) some_32 int_3) ?_
                              rw [show IntKind.i64.wrap (((2 * a0 : Nat) : Int) / 2 ^ Int.toNat 1) = (a0 : Int) by rw [half_i64 (by omega)]; omega]
                              refine WL.cons (SO.call (at9_ok (hM.bound.rd (by omega)) (by omega) (by omega) (fun k hk => hk.2) hg.vd.w64) rfl body_28 ⟨(ev_t rfl), (ev_t rfl), trivial⟩ rfl rfl rfl rfl ?_)
                              rintro v w39 ⟨kd, n9, vP, ps, s9, rfl, hP, hu39, hres⟩
                              obtain ⟨AP, cP, rfl, _⟩ := hP.form
                              have hs39 := hu39.size
                              replace hU := hU.trans hu39 (by exact (fun _ _ h => h))
                              replace hH := hH.upd hu39 (fun k hk hl hS => by exact (show False from hS).elim)
                              replace hM := hM.upd hu39 (fun k hk hl hS => by have h1 := hGm k hk; exact (show False from hS).elim)
                              replace hR := hR.upd hu39 (fun k hk hl hS => by have h1 := hGr k hk; exact (show False from hS).elim)
                              replace hBx := hBx.upd hu39 (fun hS => by exact (show False from hS))
                              have hv9 : kd = mem.getD a0 0 % 256 ∧ ps = parts mem a0 ∧ s9 = textB mem a0 := by
                                rcases hres with ⟨h, _⟩ | ⟨h1, _, h2, h3, h4⟩
                                · exact absurd hval h
                                · exact ⟨h2, h3, h4⟩
                              obtain ⟨rfl, rfl, rfl⟩ := hv9
                              refine WL.val rfl rfl rfl rfl (r_move rfl (ev_t rfl)) ?_
                              refine WL.val rfl rfl rfl rfl (r_extract rfl (ev_t rfl) rfl) ?_
                              refine WL.val rfl rfl rfl rfl (r_extract rfl (ev_t rfl) rfl) ?_
                              obtain ⟨bO, hbOe⟩ : ∃ g, g = w39.heap.size := ⟨_, rfl⟩
                              have hbXO : bX < bO := by have := hBx.lt; omega
                              refine WL.cons (SO.alloc rfl rfl rfl rfl (r_alloc rfl zero_56) ?_)
                              intro w40 hu40 hB40 hz40
                              have hs40 := hu40.size
                              replace hU := hU.trans hu40 (by exact (fun _ _ h => h))
                              replace hH := hH.upd hu40 (fun k hk hl hS => by exact (show False from hS).elim)
                              replace hM := hM.upd hu40 (fun k hk hl hS => by have h1 := hGm k hk; exact (show False from hS).elim)
                              replace hR := hR.upd hu40 (fun k hk hl hS => by have h1 := hGr k hk; exact (show False from hS).elim)
                              replace hBx := hBx.upd hu40 (fun hS => by exact (show False from hS))
                              refine WL.cons (SO.storeAll (us := [_, _, _]) rfl (ev_t rfl) (ev_t rfl) size_56 hB40 rfl rfl rfl rfl rfl ?_)
                              intro w41 hu41 hB40 hz41
                              have hs41 := hu41.size
                              replace hU := hU.trans hu41 (by (intro k hl hk; (try simp only [At, New, Grow, From, No] at hk ⊢); omega))
                              replace hH := hH.upd hu41 (fun k hk hl hS => by (simp only [At] at hS; rcases hk with hk | hk; omega; have := hGl k hk; omega))
                              replace hM := hM.upd hu41 (fun k hk hl hS => by have h1 := hGm k hk; (simp only [At] at hS; omega))
                              replace hR := hR.upd hu41 (fun k hk hl hS => by have h1 := hGr k hk; (simp only [At] at hS; omega))
                              replace hBx := hBx.upd hu41 (fun hS => by (simp only [At] at hS; omega))
                              refine WL.val rfl rfl rfl rfl (r_assign rfl (ev_t rfl)) ?_
                              refine WL.nil ?_
                              refine WX.keep [(1, _), (5, _), (6, _), (8, _), (9, _), (10, _), (11, _), (23, _), (24, _)] ⟨rfl, rfl, rfl, rfl, rfl, rfl, rfl, rfl, rfl, trivial⟩ ?_
                              have hbO := hB40
                              rw [← hbOe] at hbO ⊢
                              refine WX.next ?_
                              refine WC.seq ?_
                              refine WC.region ?_
                              refine WL.val rfl rfl rfl rfl (r_field0 rfl (ev_t rfl) fld_62_1) ?_
                              refine WL.val rfl rfl rfl rfl (r_load rfl (ev_t rfl) flat_5 (Blk.cell hBx rfl)) ?_
                              refine WL.val rfl rfl rfl rfl (r_convN rfl (ev_t rfl) some_5 int_3 (by simp only [inK]; omega)) ?_
                              refine WL.val rfl rfl rfl rfl (r_remN rfl (ev_t rfl) ev_c (by omega) (by omega)) ?_
                              obtain ⟨j7, hj7⟩ : ∃ j, j = akk % 7 := ⟨_, rfl⟩
                              try rw [show (akk : Int).tmod 7 = ((j7 : Nat) : Int) by rw [hj7]; rfl]
                              try rw [show (akk : Int) % 7 = ((j7 : Nat) : Int) by rw [hj7]; rfl]
                              have hj7l : j7 < 7 := by omega
                              obtain ⟨ba, oa, rfl, _⟩ := hrd.open (by omega)
                              obtain ⟨n0, hn0⟩ : ∃ n0, aps[0]? = some n0 := ⟨_, List.getElem?_eq_getElem hap0⟩
                              refine WL.val rfl rfl rfl rfl (r_assign rfl (ev_t rfl)) ?_
                              refine WL.nil ?_
                              refine WX.keep [(1, _), (5, _), (6, _), (8, _), (9, _), (10, _), (11, _), (23, _), (24, _), (26, _)] ⟨rfl, rfl, rfl, rfl, rfl, rfl, rfl, rfl, rfl, rfl, trivial⟩ ?_
                              refine WX.next ?_
                              refine WC.seq ?_
                              refine WC.region ?_
                              refine WL.val rfl rfl rfl rfl (r_field0 rfl (ev_t rfl) fld_62_2) ?_
                              refine WL.val rfl rfl rfl rfl (r_load rfl (ev_t rfl) flat_60 (Blk.cell hBx rfl)) ?_
                              refine WL.val rfl rfl rfl rfl (r_indexAddr rfl (ev_t rfl) ev_c elem_60 size_2 (by omega) (by omega)) ?_
                              refine WL.val rfl rfl rfl rfl (r_load rfl (ev_t rfl) flat_2 ((hrd.upd hU (fun _ _ _ h => h)).cell (j := 0) (u := I64 n0) (by simp) (by rw [List.getElem?_map, hn0]; rfl))) ?_
                              refine WL.val rfl rfl rfl rfl (r_move rfl (ev_t rfl)) ?_
                              refine WL.cons (SO.call (lpart_ok (hR.rd (by omega)) (hps n0 (List.mem_of_getElem? hn0)) (by omega) (fun y hy => by have h1 := hye y hy; have h2 := (hg.vd.in h1.2).1; omega)) rfl body_30 ⟨(ev_t rfl), (ev_t rfl), trivial⟩ rfl rfl rfl rfl ?_)
                              rintro v w42 ⟨hu42, z, rfl, hz, hzy⟩
                              have hs42 := hu42.size
                              replace hU := hU.trans hu42 (by exact (fun _ _ h => h))
                              replace hH := hH.upd hu42 (fun k hk hl hS => by exact (show False from hS).elim)
                              replace hM := hM.upd hu42 (fun k hk hl hS => by have h1 := hGm k hk; exact (show False from hS).elim)
                              replace hR := hR.upd hu42 (fun k hk hl hS => by have h1 := hGr k hk; exact (show False from hS).elim)
                              replace hBx := hBx.upd hu42 (fun hS => by exact (show False from hS))
                              replace hbO := hbO.upd hu42 (fun hS => by exact (show False from hS))
                              have hzs : z % 2 = 1 ∨ z / 2 ∈ st := by rcases hzy with h | h; exact .inl h; exact .inr (hye z h).2
                              refine WL.val rfl rfl rfl rfl (r_assign rfl (ev_t rfl)) ?_
                              refine WL.nil ?_
                              refine WX.keep [(1, _), (5, _), (6, _), (8, _), (9, _), (10, _), (23, _), (24, _), (26, _), (27, _)] ⟨rfl, rfl, rfl, rfl, rfl, rfl, rfl, rfl, rfl, rfl, trivial⟩ ?_
                              refine WX.next ?_
                              refine WC.seq ?_
                              refine WC.region ?_
                              refine WL.val rfl rfl rfl rfl (r_move rfl (ev_t rfl)) ?_
                              refine WL.val rfl rfl rfl rfl (r_move rfl (ev_t rfl)) ?_
                              refine WL.val rfl rfl rfl rfl (r_move rfl (ev_t rfl)) ?_
                              refine WL.val rfl rfl rfl rfl (r_move rfl (ev_t rfl)) ?_
                              refine WL.cons (SO.call (setpart_ok hH hgx hx64 hafit (by omega)) rfl body_35 ⟨(ev_t rfl), (ev_t rfl), (ev_t rfl), (ev_t rfl), trivial⟩ rfl rfl rfl rfl ?_)
                              rintro v w43 ⟨hu43, hy1, hy2⟩
                              have hs43 := hu43.size
                              replace hU := hU.trans hu43 (by (intro k hl hk; first | exact (show False from hk).elim | (have h2 := (hGm2x k hk).1; omega) | (have h2 := (hGm k hk).1; omega) | (have h2 := (hGr k hk).1; omega) | (have h2 := hGB k hk; omega) | (have h2 := hGv k hk; omega) | (simp only [At] at hk; omega) | (rcases hk with h | h | h | h; omega; have := hGB k h; omega; have := (hGr k h).1; omega; have := (hGvb k h).1; omega) | (rcases hk with h | h; omega; have := (hGr k h).1; omega)))
                              replace hM := hM.upd hu43 (fun k hk hl hS => by have h1 := hGm k hk; exact h1.2.2.1 hS)
                              replace hR := hR.upd hu43 (fun k hk hl hS => by have h1 := hGr k hk; exact h1.2.2.1 hS)
                              replace hBx := hBx.upd hu43 (fun hS => by (have := hGl _ hS; omega))
                              replace hbO := hbO.upd hu43 (fun hS => by (have := hGl _ hS; omega))
                              obtain ⟨f, mem2, rfl, hH2, hf⟩ : ∃ (f : Nat) (mem2 : List Nat), v = .int .i64 (f : Int) ∧ HS w43 G p A c mem2 q n ∧ ((f = 0 ∧ mem2 = mem.set (a0 + 1 + j7) z ∧ j7 < mem.getD a0 0 / 256 ∧ mem.getD a0 0 % 256 ≠ 3) ∨ (f = 1 ∧ mem2 = mem ∧ ¬ (j7 < mem.getD a0 0 / 256 ∧ mem.getD a0 0 % 256 ≠ 3))) := by
                                by_cases hik : j7 < mem.getD a0 0 / 256 ∧ mem.getD a0 0 % 256 ≠ 3
                                · exact ⟨0, _, (hy1 hik).1, (hy1 hik).2, .inl ⟨rfl, rfl, hik⟩⟩
                                · exact ⟨1, _, (hy2 hik).1, (hy2 hik).2, .inr ⟨rfl, rfl, hik⟩⟩
                              clear hH hy1 hy2
                              have hH := hH2
                              clear hH2
                              have h01 : f = 0 ∨ f = 1 := by rcases hf with h | h; exact .inl h.1; exact .inr h.1
                              refine WL.val rfl rfl rfl rfl (r_assign rfl (ev_t rfl)) ?_
                              refine WL.nil ?_
                              refine WX.keep [(1, _), (5, _), (6, _), (8, _), (9, _), (10, _), (23, _), (24, _), (26, _), (27, _), (28, _)] ⟨rfl, rfl, rfl, rfl, rfl, rfl, rfl, rfl, rfl, rfl, rfl, trivial⟩ ?_
                              refine WX.next ?_
                              refine WC.seq ?_
                              refine WC.seq ?_
                              refine WC.region ?_
                              refine WL.val rfl rfl rfl rfl (r_move rfl (ev_t rfl)) ?_
                              refine WL.val rfl rfl rfl rfl (r_eql rfl (ev_t rfl) ev_c) ?_
                              refine WL.val rfl rfl rfl rfl (r_field0 rfl (ev_t rfl) fld_56_0) ?_
                              refine WL.val rfl rfl rfl rfl (r_load rfl (ev_t rfl) flat_5 (Blk.cell hbO rfl)) ?_
                              refine WL.val rfl rfl rfl rfl (r_neq rfl (ev_t rfl) ev_c) ?_
                              refine WL.val rfl rfl rfl rfl (r_move rfl (ev_t rfl)) ?_
                              refine WL.cases 286 rfl (fun hb63_5 => ?_) (fun hb63_5 => ?_)
                              · try (exfalso; first | (simp at hb63_5; done) | (simp only [decide_eq_true_eq, decide_eq_false_iff_not, Bool.not_eq_true', Bool.not_eq_false', Bool.not_eq_true, Bool.not_eq_false] at hb63_5; omega) | omega)
                                all_goals
                                 try simp only [decide_eq_true_eq, decide_eq_false_iff_not, Bool.not_eq_true', Bool.not_eq_false', Bool.not_eq_true, Bool.not_eq_false, Option.isNone_none, Option.isNone_some, Option.isSome_none, Option.isSome_some, ne_eq, Decidable.not_not] at hb63_5
                                 refine WL.val rfl rfl rfl rfl (r_move rfl (ev_t rfl)) ?_
                                 refine WL.val rfl rfl rfl rfl (r_field0 rfl (ev_t rfl) fld_56_1) ?_
                                 refine WL.val rfl rfl rfl rfl (r_load rfl (ev_t rfl) flat_46 (Blk.cell hbO rfl)) ?_
                                 refine WL.val rfl rfl rfl rfl (r_lenSlice (ts := #[]) rfl (ev_t rfl) elem_46) ?_
                                 refine WL.val rfl rfl rfl rfl (r_lss rfl (ev_t rfl) (ev_t rfl)) ?_
                                 refine WL.val rfl rfl rfl rfl (r_pickT rfl (ev_t rfl) (ev_t rfl)) ?_
                                 refine WL.val rfl rfl rfl rfl (r_neqBool rfl (ev_t rfl) (ev_t rfl) bool_4) ?_
                                 refine WL.val rfl rfl rfl rfl (r_move rfl (ev_t rfl)) ?_
                                 refine WL.cases 294 rfl (fun hb63_13 => ?_) (fun hb63_13 => ?_)
                                 · try simp only [decide_eq_true_eq, decide_eq_false_iff_not, Bool.not_eq_true', Bool.not_eq_false', Bool.not_eq_true, Bool.not_eq_false, Option.isNone_none, Option.isNone_some, Option.isSome_none, Option.isSome_some, ne_eq, Decidable.not_not] at hb63_13
                                   exfalso
                                   first
                                     | (have hk3 : mem.getD a0 0 % 256 ≠ 3 := by omega
                                        have hpl9 := parts_len hk3 hafit
                                        rcases hf with h | h
                                        · rw [decide_eq_true (show (f : Int) = 0 by have := h.1; omega), decide_eq_true (show (j7 : Int) < ((parts mem a0).length : Int) by have := h.2.2.1; omega)] at hb63_13
                                          cases hb63_13
                                        · rw [decide_eq_false (show ¬ (f : Int) = 0 by have := h.1; omega), decide_eq_false (show ¬ (j7 : Int) < ((parts mem a0).length : Int) by have h3 : ¬ j7 < mem.getD a0 0 / 256 := fun h2 => h.2.2 ⟨h2, hk3⟩; omega)] at hb63_13
                                          cases hb63_13)
                                 · try (exfalso; first | (simp at hb63_13; done) | (simp only [decide_eq_true_eq, decide_eq_false_iff_not, Bool.not_eq_true', Bool.not_eq_false', Bool.not_eq_true, Bool.not_eq_false] at hb63_13; omega) | omega)
                                   all_goals
                                    try simp only [decide_eq_true_eq, decide_eq_false_iff_not, Bool.not_eq_true', Bool.not_eq_false', Bool.not_eq_true, Bool.not_eq_false, Option.isNone_none, Option.isNone_some, Option.isSome_none, Option.isSome_some, ne_eq, Decidable.not_not] at hb63_13
                                    refine WL.val rfl rfl rfl rfl (r_move rfl (ev_t rfl)) ?_
                                    refine WL.val rfl rfl rfl rfl (r_neq rfl (ev_t rfl) ev_c) ?_
                                    refine WL.val rfl rfl rfl rfl (r_move rfl (ev_t rfl)) ?_
                                    refine WL.cases 297 rfl (fun hb63_16 => ?_) (fun hb63_16 => ?_)
                                    · try (exfalso; first | (simp at hb63_16; done) | (simp only [decide_eq_true_eq, decide_eq_false_iff_not, Bool.not_eq_true', Bool.not_eq_false', Bool.not_eq_true, Bool.not_eq_false] at hb63_16; omega) | omega)
                                      all_goals
                                       try simp only [decide_eq_true_eq, decide_eq_false_iff_not, Bool.not_eq_true', Bool.not_eq_false', Bool.not_eq_true, Bool.not_eq_false, Option.isNone_none, Option.isNone_some, Option.isSome_none, Option.isSome_some, ne_eq, Decidable.not_not] at hb63_16
                                       refine WL.val rfl rfl rfl rfl (r_move rfl (ev_t rfl)) ?_
                                       refine WL.val rfl rfl rfl rfl (r_neq rfl (ev_t rfl) ev_c) ?_
                                       refine WL.val rfl rfl rfl rfl (r_pickT rfl (ev_t rfl) (ev_t rfl)) ?_
                                       refine WL.val rfl rfl rfl rfl (r_pickF rfl (ev_t rfl) (ev_t rfl)) ?_
                                       refine WL.nil ?_
                                       refine WX.keep [(1, _), (5, _), (6, _), (8, _), (9, _), (10, _), (23, _), (26, _), (27, _), (28, _), (301, _)] ⟨rfl, rfl, rfl, rfl, rfl, rfl, rfl, rfl, rfl, rfl, rfl, trivial⟩ ?_
                                       refine WX.next ?_
                                       refine WC.cond rfl (ev_t rfl) (fun hc63 => ?_) (fun hc63 => ?_)
                                       · try simp only [decide_eq_true_eq, decide_eq_false_iff_not, Bool.not_eq_true', Bool.not_eq_false', Bool.not_eq_true, Bool.not_eq_false, Option.isNone_none, Option.isNone_some, Option.isSome_none, Option.isSome_some, ne_eq, Decidable.not_not] at hc63
                                         exfalso
                                         omega
                                       · try (exfalso; first | (simp at hc63; done) | (simp only [decide_eq_true_eq, decide_eq_false_iff_not, Bool.not_eq_true', Bool.not_eq_false', Bool.not_eq_true, Bool.not_eq_false] at hc63; omega) | omega)
                                         all_goals
                                          try simp only [decide_eq_true_eq, decide_eq_false_iff_not, Bool.not_eq_true', Bool.not_eq_false', Bool.not_eq_true, Bool.not_eq_false, Option.isNone_none, Option.isNone_some, Option.isSome_none, Option.isSome_some, ne_eq, Decidable.not_not] at hc63
                                          refine WC.skip ?_
                                          refine WX.next ?_
                                          refine WC.seq ?_
                                          refine WC.region ?_
                                          refine WL.val rfl rfl rfl rfl (r_move rfl (ev_t rfl)) ?_
                                          refine WL.val rfl rfl rfl rfl (r_eql rfl (ev_t rfl) ev_c) ?_
                                          refine WL.nil ?_
                                          refine WX.keep [(1, _), (5, _), (6, _), (8, _), (9, _), (10, _), (23, _), (26, _), (27, _), (303, _)] ⟨rfl, rfl, rfl, rfl, rfl, rfl, rfl, rfl, rfl, rfl, trivial⟩ ?_
                                          refine WX.next ?_
                                          refine WC.cond rfl (ev_t rfl) (fun hc65 => ?_) (fun hc65 => ?_)
                                          · try (exfalso; first | (simp at hc65; done) | (simp only [decide_eq_true_eq, decide_eq_false_iff_not, Bool.not_eq_true', Bool.not_eq_false', Bool.not_eq_true, Bool.not_eq_false] at hc65; omega) | omega)
                                          · try (exfalso; first | (simp at hc65; done) | (simp only [decide_eq_true_eq, decide_eq_false_iff_not, Bool.not_eq_true', Bool.not_eq_false', Bool.not_eq_true, Bool.not_eq_false] at hc65; omega) | omega)
                                            all_goals
                                             try simp only [decide_eq_true_eq, decide_eq_false_iff_not, Bool.not_eq_true', Bool.not_eq_false', Bool.not_eq_true, Bool.not_eq_false, Option.isNone_none, Option.isNone_some, Option.isSome_none, Option.isSome_some, ne_eq, Decidable.not_not] at hc65
                                             obtain rfl : mem = mem2 := by
                                               rcases hf with h | h
                                               · have := h.1; omega
                                               · exact h.2.1.symm
                                             refine WC.skip ?_
                                             refine WX.blockNormal ?_
                                             refine WX.meet [(1, _), (5, _), (6, _), (8, _), (9, _), (10, _)] ⟨rfl, rfl, rfl, rfl, rfl, rfl, trivial⟩ ?_
                                             have hBxl := hBx.lt
                                             first
                                               | exact ⟨mem, ys, _, _, ⟨G, Gm, Gr, A, c, st, n, hH, hg, ht, by omega, by omega, hM, hR, hye, hGB, fun k hk => by have := hGm k hk; exact ⟨this.1, this.2.1, this.2.2.1, this.2.2.2.1, by omega⟩, fun k hk => by have := hGr k hk; exact ⟨this.1, this.2.1, this.2.2.1, by omega⟩⟩, hU, rfl⟩
                                    · try (exfalso; first | (simp at hb63_16; done) | (simp only [decide_eq_true_eq, decide_eq_false_iff_not, Bool.not_eq_true', Bool.not_eq_false', Bool.not_eq_true, Bool.not_eq_false] at hb63_16; omega) | omega)
                                      all_goals
                                       try simp only [decide_eq_true_eq, decide_eq_false_iff_not, Bool.not_eq_true', Bool.not_eq_false', Bool.not_eq_true, Bool.not_eq_false, Option.isNone_none, Option.isNone_some, Option.isSome_none, Option.isSome_some, ne_eq, Decidable.not_not] at hb63_16
                                       refine WL.skip rfl rfl rfl ?_
                                       refine WL.skip rfl rfl rfl ?_
                                       refine WL.val rfl rfl rfl rfl (r_pickF rfl (ev_t rfl) ev_c) ?_
                                       refine WL.val rfl rfl rfl rfl (r_pickF rfl (ev_t rfl) (ev_t rfl)) ?_
                                       refine WL.nil ?_
                                       refine WX.keep [(1, _), (5, _), (6, _), (8, _), (9, _), (10, _), (23, _), (26, _), (27, _), (28, _), (301, _)] ⟨rfl, rfl, rfl, rfl, rfl, rfl, rfl, rfl, rfl, rfl, rfl, trivial⟩ ?_
                                       refine WX.next ?_
                                       refine WC.cond_false rfl (ev_t rfl) ?_
                                       refine WC.skip ?_
                                       refine WX.next ?_
                                       refine WC.seq ?_
                                       refine WC.region ?_
                                       refine WL.val rfl rfl rfl rfl (r_move rfl (ev_t rfl)) ?_
                                       refine WL.val rfl rfl rfl rfl (r_eql rfl (ev_t rfl) ev_c) ?_
                                       refine WL.nil ?_
                                       refine WX.keep [(1, _), (5, _), (6, _), (8, _), (9, _), (10, _), (23, _), (26, _), (27, _), (303, _)] ⟨rfl, rfl, rfl, rfl, rfl, rfl, rfl, rfl, rfl, rfl, trivial⟩ ?_
                                       refine WX.next ?_
                                       refine WC.cond rfl (ev_t rfl) (fun hc65 => ?_) (fun hc65 => ?_)
                                       · try (exfalso; first | (simp at hc65; done) | (simp only [decide_eq_true_eq, decide_eq_false_iff_not, Bool.not_eq_true', Bool.not_eq_false', Bool.not_eq_true, Bool.not_eq_false] at hc65; omega) | omega)
                                         all_goals
                                          try simp only [decide_eq_true_eq, decide_eq_false_iff_not, Bool.not_eq_true', Bool.not_eq_false', Bool.not_eq_true, Bool.not_eq_false, Option.isNone_none, Option.isNone_some, Option.isSome_none, Option.isSome_some, ne_eq, Decidable.not_not] at hc65
                                          obtain ⟨hf0, rfl, hik⟩ : f = 0 ∧ mem2 = mem.set (a0 + 1 + j7) z ∧ j7 < mem.getD a0 0 / 256 ∧ mem.getD a0 0 % 256 ≠ 3 := by
                                            rcases hf with h | h
                                            · exact h
                                            · have := h.1; omega
                                          have hsz9 : szAt mem a0 = 1 + mem.getD a0 0 / 256 := by unfold szAt szO; rw [if_neg hik.2]
                                          obtain ⟨gm, capm, curm, hM9, _⟩ := hM.open (by omega)
                                          injection hM9 with hM9
                                          subst hM9
                                          refine WC.region ?_
                                          refine WL.val rfl rfl rfl rfl (r_move rfl (ev_t rfl)) ?_
                                          refine WL.val rfl rfl rfl rfl (r_move rfl (ev_t rfl)) ?_
                                          refine WL.val rfl rfl rfl rfl (r_shr rfl (ev_t rfl) ev_c (by omega) (by simp only [IntKind.bits]; omega)) ?_
                                          refine WL.val rfl rfl rfl rfl (r_conv rfl (ev_t rfl) some_32 int_3) ?_
                                          rw [show IntKind.i64.wrap (((2 * a0 : Nat) : Int) / 2 ^ Int.toNat 1) = (a0 : Int) by rw [half_i64 (by omega)]; omega]
                                          refine WL.val rfl rfl rfl rfl (r_addN rfl (ev_t rfl) ev_c (by simp only [inK]; omega)) ?_
                                          refine WL.val rfl rfl rfl rfl (r_move rfl (ev_t rfl)) ?_
                                          refine WL.val rfl rfl rfl rfl (r_addN rfl (ev_t rfl) (ev_t rfl) (by simp only [inK]; omega)) ?_
                                          refine WL.val rfl rfl rfl rfl (r_move rfl (ev_t rfl)) ?_
                                          refine WL.val rfl rfl rfl rfl (r_indexAddr rfl (ev_t rfl) (ev_t rfl) elem_46 size_31 (by omega) (by omega)) ?_
                                          rw [show 0 + ((a0 : Int) + 1 + (j7 : Int)).toNat * 1 = a0 + 1 + j7 by omega]
                                          refine WL.cons (SO.ownSet1 (i := a0 + 1 + j7) (z := z) hM rfl (by omega) rfl rfl (ev_t rfl) (ev_t rfl) size_31 rfl rfl rfl ?_)
                                          intro w45 hu45 hM2 hz3
                                          have hs45 := hu45.size
                                          replace hU := hU.trans hu45 (by (intro k hl hk; first | exact (show False from hk).elim | (have h2 := (hGm2x k hk).1; omega) | (have h2 := (hGm k hk).1; omega) | (have h2 := (hGr k hk).1; omega) | (have h2 := hGB k hk; omega) | (have h2 := hGv k hk; omega) | (simp only [At] at hk; omega) | (rcases hk with h | h | h | h; omega; have := hGB k h; omega; have := (hGr k h).1; omega; have := (hGvb k h).1; omega) | (rcases hk with h | h; omega; have := (hGr k h).1; omega)))
                                          replace hR := hR.upd hu45 (fun k hk hl hS => by have h1 := hGr k hk; (have h2 := hGm k hS; exact h2.2.2.2.1 hk))
                                          replace hBx := hBx.upd hu45 (fun hS => by (have := (hGm _ hS).2.2.2.2; omega))
                                          replace hbO := hbO.upd hu45 (fun hS => by (have := (hGm _ hS).2.2.2.2; omega))
                                          replace hH := hH.upd hu45 (fun k hk hl hS => by (have h2 := hGm k hS; rcases hk with hk | hk; exact h2.2.1 hk; exact h2.2.2.1 hk))
                                          clear hM
                                          have hM := hM2
                                          refine WL.nil ?_
                                          refine WX.keep [(1, _), (5, _), (6, _), (8, _), (9, _), (10, _)] ⟨rfl, rfl, rfl, rfl, rfl, rfl, trivial⟩ ?_
                                          refine WX.blockNormal ?_
                                          refine WX.meet [(1, _), (5, _), (6, _), (8, _), (9, _), (10, _)] ⟨rfl, rfl, rfl, rfl, rfl, rfl, trivial⟩ ?_
                                          have hBxl := hBx.lt
                                          first
                                            | (have hgS := hg.set hys hik.2 (by omega : 1 + j7 < szAt mem a0) ⟨hz, hzs⟩
                                               have htS := ht.set (z := z) hg hys hik.2 (by omega : 1 + j7 < szAt mem a0)
                                               have hlS : (mem.set (a0 + 1 + j7) z).length = mem.length := List.length_set ..
                                               refine ⟨mem.set (a0 + 1 + j7) z, ys, _, _, ⟨G, Gm, Gr, A, c, st, n, hH, hgS, htS, by omega, by omega, by rw [hlS]; exact hM2, hR, hye, hGB, fun k hk => ?_, fun k hk => ?_⟩, hU, rfl⟩
                                               · have := hGm k hk; exact ⟨this.1, this.2.1, this.2.2.1, this.2.2.2.1, by omega⟩
                                               · have := hGr k hk; exact ⟨this.1, this.2.1, this.2.2.1, by omega⟩)
                                       · try (exfalso; first | (simp at hc65; done) | (simp only [decide_eq_true_eq, decide_eq_false_iff_not, Bool.not_eq_true', Bool.not_eq_false', Bool.not_eq_true, Bool.not_eq_false] at hc65; omega) | omega)
                              · try (exfalso; first | (simp at hb63_5; done) | (simp only [decide_eq_true_eq, decide_eq_false_iff_not, Bool.not_eq_true', Bool.not_eq_false', Bool.not_eq_true, Bool.not_eq_false] at hb63_5; omega) | omega)
                                all_goals
                                 try simp only [decide_eq_true_eq, decide_eq_false_iff_not, Bool.not_eq_true', Bool.not_eq_false', Bool.not_eq_true, Bool.not_eq_false, Option.isNone_none, Option.isNone_some, Option.isSome_none, Option.isSome_some, ne_eq, Decidable.not_not] at hb63_5
                                 refine WL.skip rfl rfl rfl ?_
                                 refine WL.skip rfl rfl rfl ?_
                                 refine WL.skip rfl rfl rfl ?_
                                 refine WL.skip rfl rfl rfl ?_
                                 refine WL.skip rfl rfl rfl ?_
                                 refine WL.val rfl rfl rfl rfl (r_pickF rfl (ev_t rfl) ev_c) ?_
                                 refine WL.val rfl rfl rfl rfl (r_neqBool rfl (ev_t rfl) (ev_t rfl) bool_4) ?_
                                 refine WL.val rfl rfl rfl rfl (r_move rfl (ev_t rfl)) ?_
                                 refine WL.cases 294 rfl (fun hb63_13 => ?_) (fun hb63_13 => ?_)
                                 · try simp only [decide_eq_true_eq, decide_eq_false_iff_not, Bool.not_eq_true', Bool.not_eq_false', Bool.not_eq_true, Bool.not_eq_false, Option.isNone_none, Option.isNone_some, Option.isSome_none, Option.isSome_some, ne_eq, Decidable.not_not] at hb63_13
                                   exfalso
                                   first
                                     | (simp at hb63_13
                                        rcases hf with h | h
                                        · exact h.2.2.2 (by omega)
                                        · have := h.1; omega)
                                 · try (exfalso; first | (simp at hb63_13; done) | (simp only [decide_eq_true_eq, decide_eq_false_iff_not, Bool.not_eq_true', Bool.not_eq_false', Bool.not_eq_true, Bool.not_eq_false] at hb63_13; omega) | omega)
                                   all_goals
                                    try simp only [decide_eq_true_eq, decide_eq_false_iff_not, Bool.not_eq_true', Bool.not_eq_false', Bool.not_eq_true, Bool.not_eq_false, Option.isNone_none, Option.isNone_some, Option.isSome_none, Option.isSome_some, ne_eq, Decidable.not_not] at hb63_13
                                    refine WL.val rfl rfl rfl rfl (r_move rfl (ev_t rfl)) ?_
                                    refine WL.val rfl rfl rfl rfl (r_neq rfl (ev_t rfl) ev_c) ?_
                                    refine WL.val rfl rfl rfl rfl (r_move rfl (ev_t rfl)) ?_
                                    refine WL.cases 297 rfl (fun hb63_16 => ?_) (fun hb63_16 => ?_)
                                    · try (exfalso; first | (simp at hb63_16; done) | (simp only [decide_eq_true_eq, decide_eq_false_iff_not, Bool.not_eq_true', Bool.not_eq_false', Bool.not_eq_true, Bool.not_eq_false] at hb63_16; omega) | omega)
                                      all_goals
                                       try simp only [decide_eq_true_eq, decide_eq_false_iff_not, Bool.not_eq_true', Bool.not_eq_false', Bool.not_eq_true, Bool.not_eq_false, Option.isNone_none, Option.isNone_some, Option.isSome_none, Option.isSome_some, ne_eq, Decidable.not_not] at hb63_16
                                       refine WL.val rfl rfl rfl rfl (r_move rfl (ev_t rfl)) ?_
                                       refine WL.val rfl rfl rfl rfl (r_neq rfl (ev_t rfl) ev_c) ?_
                                       refine WL.val rfl rfl rfl rfl (r_pickT rfl (ev_t rfl) (ev_t rfl)) ?_
                                       refine WL.val rfl rfl rfl rfl (r_pickF rfl (ev_t rfl) (ev_t rfl)) ?_
                                       refine WL.nil ?_
                                       refine WX.keep [(1, _), (5, _), (6, _), (8, _), (9, _), (10, _), (23, _), (26, _), (27, _), (28, _), (301, _)] ⟨rfl, rfl, rfl, rfl, rfl, rfl, rfl, rfl, rfl, rfl, rfl, trivial⟩ ?_
                                       refine WX.next ?_
                                       refine WC.cond rfl (ev_t rfl) (fun hc63 => ?_) (fun hc63 => ?_)
                                       · try simp only [decide_eq_true_eq, decide_eq_false_iff_not, Bool.not_eq_true', Bool.not_eq_false', Bool.not_eq_true, Bool.not_eq_false, Option.isNone_none, Option.isNone_some, Option.isSome_none, Option.isSome_some, ne_eq, Decidable.not_not] at hc63
                                         exfalso
                                         omega
                                       · try (exfalso; first | (simp at hc63; done) | (simp only [decide_eq_true_eq, decide_eq_false_iff_not, Bool.not_eq_true', Bool.not_eq_false', Bool.not_eq_true, Bool.not_eq_false] at hc63; omega) | omega)
                                         all_goals
                                          try simp only [decide_eq_true_eq, decide_eq_false_iff_not, Bool.not_eq_true', Bool.not_eq_false', Bool.not_eq_true, Bool.not_eq_false, Option.isNone_none, Option.isNone_some, Option.isSome_none, Option.isSome_some, ne_eq, Decidable.not_not] at hc63
                                          refine WC.skip ?_
                                          refine WX.next ?_
                                          refine WC.seq ?_
                                          refine WC.region ?_
                                          refine WL.val rfl rfl rfl rfl (r_move rfl (ev_t rfl)) ?_
                                          refine WL.val rfl rfl rfl rfl (r_eql rfl (ev_t rfl) ev_c) ?_
                                          refine WL.nil ?_
                                          refine WX.keep [(1, _), (5, _), (6, _), (8, _), (9, _), (10, _), (23, _), (26, _), (27, _), (303, _)] ⟨rfl, rfl, rfl, rfl, rfl, rfl, rfl, rfl, rfl, rfl, trivial⟩ ?_
                                          refine WX.next ?_
                                          refine WC.cond rfl (ev_t rfl) (fun hc65 => ?_) (fun hc65 => ?_)
                                          · try (exfalso; first | (simp at hc65; done) | (simp only [decide_eq_true_eq, decide_eq_false_iff_not, Bool.not_eq_true', Bool.not_eq_false', Bool.not_eq_true, Bool.not_eq_false] at hc65; omega) | omega)
                                          · try (exfalso; first | (simp at hc65; done) | (simp only [decide_eq_true_eq, decide_eq_false_iff_not, Bool.not_eq_true', Bool.not_eq_false', Bool.not_eq_true, Bool.not_eq_false] at hc65; omega) | omega)
                                            all_goals
                                             try simp only [decide_eq_true_eq, decide_eq_false_iff_not, Bool.not_eq_true', Bool.not_eq_false', Bool.not_eq_true, Bool.not_eq_false, Option.isNone_none, Option.isNone_some, Option.isSome_none, Option.isSome_some, ne_eq, Decidable.not_not] at hc65
                                             obtain rfl : mem = mem2 := by
                                               rcases hf with h | h
                                               · have := h.1; omega
                                               · exact h.2.1.symm
                                             refine WC.skip ?_
                                             refine WX.blockNormal ?_
                                             refine WX.meet [(1, _), (5, _), (6, _), (8, _), (9, _), (10, _)] ⟨rfl, rfl, rfl, rfl, rfl, rfl, trivial⟩ ?_
                                             have hBxl := hBx.lt
                                             first
                                               | exact ⟨mem, ys, _, _, ⟨G, Gm, Gr, A, c, st, n, hH, hg, ht, by omega, by omega, hM, hR, hye, hGB, fun k hk => by have := hGm k hk; exact ⟨this.1, this.2.1, this.2.2.1, this.2.2.2.1, by omega⟩, fun k hk => by have := hGr k hk; exact ⟨this.1, this.2.1, this.2.2.1, by omega⟩⟩, hU, rfl⟩
                                    · try (exfalso; first | (simp at hb63_16; done) | (simp only [decide_eq_true_eq, decide_eq_false_iff_not, Bool.not_eq_true', Bool.not_eq_false', Bool.not_eq_true, Bool.not_eq_false] at hb63_16; omega) | omega)
                     · try (exfalso; first | (simp at hc56; done) | (simp only [decide_eq_true_eq, decide_eq_false_iff_not, Bool.not_eq_true', Bool.not_eq_false', Bool.not_eq_true, Bool.not_eq_false] at hc56; omega) | omega)
                       all_goals
                        try simp only [decide_eq_true_eq, decide_eq_false_iff_not, Bool.not_eq_true', Bool.not_eq_false', Bool.not_eq_true, Bool.not_eq_false, Option.isNone_none, Option.isNone_some, Option.isSome_none, Option.isSome_some, ne_eq, Decidable.not_not] at hc56
                        refine WC.seq ?_
                        refine WC.region ?_
                        refine WL.val rfl rfl rfl rfl (r_move rfl (ev_t rfl)) ?_
                        refine WL.val rfl rfl rfl rfl (r_eql rfl (ev_t rfl) ev_c) ?_
                        refine WL.val rfl rfl rfl rfl (r_assign rfl (ev_t rfl)) ?_
                        refine WL.nil ?_
                        refine WX.keep [(1, _), (5, _), (6, _), (8, _), (9, _), (10, _), (11, _), (313, _)] ⟨rfl, rfl, rfl, rfl, rfl, rfl, rfl, rfl, trivial⟩ ?_
                        refine WX.next ?_
                        refine WC.cond rfl (ev_t rfl) (fun hc67 => ?_) (fun hc67 => ?_)
                        · try (exfalso; first | (simp at hc67; done) | (simp only [decide_eq_true_eq, decide_eq_false_iff_not, Bool.not_eq_true', Bool.not_eq_false', Bool.not_eq_true, Bool.not_eq_false] at hc67; omega) | omega)
                          all_goals
                           try simp only [decide_eq_true_eq, decide_eq_false_iff_not, Bool.not_eq_true', Bool.not_eq_false', Bool.not_eq_true, Bool.not_eq_false, Option.isNone_none, Option.isNone_some, Option.isSome_none, Option.isSome_some, ne_eq, Decidable.not_not] at hc67
                           refine WC.seq ?_
                           refine WC.region ?_
                           refine WL.val rfl rfl rfl rfl (r_assign rfl ev_c) ?_
                           refine WL.nil ?_
                           refine WX.keep [(1, _), (5, _), (6, _), (8, _), (9, _), (10, _)] ⟨rfl, rfl, rfl, rfl, rfl, rfl, trivial⟩ ?_
                           refine WX.next ?_
                           refine WC.seq ?_
                           refine WC.region ?_
                           refine WL.val rfl rfl rfl rfl (r_move rfl (ev_t rfl)) ?_
                           refine WL.val rfl rfl rfl rfl (r_move rfl (ev_t rfl)) ?_
                           refine WL.cons (SO.call (lwords_ok (hR.rd (by omega)) (by omega)) rfl body_21 ⟨(ev_t rfl), trivial⟩ rfl rfl rfl rfl ?_)
                           rintro vW w48 ⟨hW, hu48⟩
                           have hs48 := hu48.size
                           replace hU := hU.trans hu48 (by exact (fun _ _ h => h))
                           replace hH := hH.upd hu48 (fun k hk hl hS => by exact (show False from hS).elim)
                           replace hM := hM.upd hu48 (fun k hk hl hS => by have h1 := hGm k hk; exact (show False from hS).elim)
                           replace hR := hR.upd hu48 (fun k hk hl hS => by have h1 := hGr k hk; exact (show False from hS).elim)
                           replace hBx := hBx.upd hu48 (fun hS => by exact (show False from hS))
                           refine WL.cons (SO.call (refcollect_ok (ys := ys) (hM.bound.rd (by omega)) (fun k hk => hk.2) (hW.bound.rd (by omega)) (fun k hk => hk.2) hg hml (by omega) (fun y hy => ⟨by have h1 := hye y hy; have h2 := (hg.vd.in h1.2).1; omega, .inr (hye y hy).2⟩)) rfl body_32 ⟨(ev_t rfl), (ev_t rfl), trivial⟩ rfl rfl rfl rfl ?_)
                           rintro v w49 ⟨fin, Gm2, Gt, vm2, vt, rfl, hbf, hod, hM2, hT, hGm2, hGt, hu49⟩
                           have hs49 := hu49.size
                           replace hU := hU.trans hu49 (by exact (fun _ _ h => h))
                           replace hH := hH.upd hu49 (fun k hk hl hS => by exact (show False from hS).elim)
                           replace hM := hM.upd hu49 (fun k hk hl hS => by have h1 := hGm k hk; exact (show False from hS).elim)
                           replace hR := hR.upd hu49 (fun k hk hl hS => by have h1 := hGr k hk; exact (show False from hS).elim)
                           replace hBx := hBx.upd hu49 (fun hS => by exact (show False from hS))
                           obtain ⟨Am2, cm2, rfl, _⟩ := hM2.form
                           obtain ⟨At2, ct2, rfl, _⟩ := hT.form
                           have hs69 := hU.size
                           have hGm2x : ∀ k, Gm2 k → bX < k ∧ ¬ Gt k := fun k h => ⟨by have := (hGm2 k h).1; omega, (hGm2 k h).2.2⟩
                           have hGtx : ∀ k, Gt k → bX < k := fun k h => by have := (hGt k h).1; omega
                           refine WL.val rfl rfl rfl rfl (r_move rfl (ev_t rfl)) ?_
                           refine WL.val rfl rfl rfl rfl (r_extract rfl (ev_t rfl) rfl) ?_
                           refine WL.val rfl rfl rfl rfl (r_extract rfl (ev_t rfl) rfl) ?_
                           refine WL.val rfl rfl rfl rfl (r_assign rfl (ev_t rfl)) ?_
                           refine WL.val rfl rfl rfl rfl (r_assign rfl (ev_t rfl)) ?_
                           refine WL.nil ?_
                           refine WX.keep [(1, _), (5, _), (6, _), (8, _), (9, _), (10, _), (29, _)] ⟨rfl, rfl, rfl, rfl, rfl, rfl, rfl, trivial⟩ ?_
                           refine WX.next ?_
                           refine WC.seq ?_
                           refine WC.region ?_
                           refine WL.val rfl rfl rfl rfl (r_move rfl (ev_t rfl)) ?_
                           refine WL.val rfl rfl rfl rfl (r_move rfl (ev_t rfl)) ?_
                           obtain ⟨g1, A1, c1, hv1, hpos1, -⟩ := hR.roots
                           injection hv1 with hv1 _ _
                           rw [← hv1] at hpos1
                           refine WL.cons (SO.call (pointers_ok (g := g1) (hR.rd (by omega)) (fun h => (hpos1 h).1) (by omega)) rfl body_13 ⟨(ev_t rfl), trivial⟩ rfl rfl rfl rfl ?_)
                           rintro v w50 ⟨hQ, hu50⟩
                           have hs50 := hu50.size
                           replace hU := hU.trans hu50 (by exact (fun _ _ h => h))
                           replace hH := hH.upd hu50 (fun k hk hl hS => by exact (show False from hS).elim)
                           replace hR := hR.upd hu50 (fun k hk hl hS => by have h1 := hGr k hk; exact (show False from hS).elim)
                           replace hBx := hBx.upd hu50 (fun hS => by exact (show False from hS))
                           replace hM2 := hM2.upd hu50 (fun k hk hl hS => by have h1 := hGm2x k hk; exact (show False from hS).elim)
                           replace hT := hT.upd hu50 (fun k hk hl hS => by have h1 := hGtx k hk; exact (show False from hS).elim)
                           have hsq := (hu50).size
                           refine WL.cons (SO.call (collectO_ok (g := g1) hH (by omega) hg.vd hR (fun k hk => ⟨(hGr k hk).2.1, (hGr k hk).2.2.1⟩) (by omega) (fun y hy => ⟨by have h1 := hye y hy; have h2 := (hg.vd.in h1.2).1; omega, .inr (hye y hy).2⟩) (hQ.bound.rd (by rw [rowAt_len]; omega)) (fun h => ⟨cr, by rw [(hpos1 h).1]⟩) (fun k hk => hk.2) (fun k hk => ⟨by have h5 := hk.1; simp only [New] at h5; omega, fun h => by have h5 := hk.1; simp only [New] at h5; have := (hpos1 h).2.2; omega⟩)) rfl body_14 ⟨(ev_t rfl), (ev_t rfl), trivial⟩ rfl rfl rfl rfl ?_)
                           rintro v w51 ⟨fin2, to, mv, bt, hbf2, hyf, hPI, hH2, hbt, hR2, hu51⟩
                           have hs51 := hu51.size
                           replace hU := hU.trans hu51 (by (intro k hl hk; first | exact (show False from hk).elim | (have h2 := (hGm2x k hk).1; omega) | (have h2 := (hGm k hk).1; omega) | (have h2 := (hGr k hk).1; omega) | (have h2 := hGB k hk; omega) | (have h2 := hGv k hk; omega) | (simp only [At] at hk; omega) | (rcases hk with h | h | h | h; omega; have := hGB k h; omega; have := (hGr k h).1; omega; have := (hGvb k h).1; omega) | (rcases hk with h | h; omega; have := (hGr k h).1; omega)))
                           replace hBx := hBx.upd hu51 (fun hS => by (rcases hS with h | h; omega; have := (hGr _ h).2.2.2; omega))
                           replace hM2 := hM2.upd hu51 (fun k hk hl hS => by have h1 := hGm2x k hk; (rcases hS with h | h; omega; have := (hGr k h).2.2.2; omega))
                           replace hT := hT.upd hu51 (fun k hk hl hS => by have h1 := hGtx k hk; (rcases hS with h | h; omega; have := (hGr k h).2.2.2; omega))
                           obtain rfl : fin2 = fin := hbf2.unique hbf
                           have hto := hPI.out hg ht
                           have hg2 := hg.collect hPI (by omega)
                           have ht2 := ht.collect hg hPI
                           have hle2 := hH2.le
                           clear hH hR hM
                           have hH := hH2
                           have hR := hR2
                           clear hH2 hR2
                           refine WL.nil ?_
                           refine WX.keep [(1, _), (5, _), (6, _), (8, _), (9, _), (10, _), (29, _)] ⟨rfl, rfl, rfl, rfl, rfl, rfl, rfl, trivial⟩ ?_
                           refine WX.next ?_
                           refine WC.seq ?_
                           refine WC.region ?_
                           refine WL.val rfl rfl rfl rfl (r_move rfl (ev_t rfl)) ?_
                           refine WL.cons (SO.call (lwords_ok (by rw [List.length_map]; exact hR.rd (by omega)) (by rw [List.length_map]; omega)) rfl body_21 ⟨(ev_t rfl), trivial⟩ rfl rfl rfl rfl ?_)
                           rintro vW2 w52 ⟨hW2, hu52⟩
                           have hs52 := hu52.size
                           replace hU := hU.trans hu52 (by exact (fun _ _ h => h))
                           replace hBx := hBx.upd hu52 (fun hS => by exact (show False from hS))
                           replace hM2 := hM2.upd hu52 (fun k hk hl hS => by have h1 := hGm2x k hk; exact (show False from hS).elim)
                           replace hT := hT.upd hu52 (fun k hk hl hS => by have h1 := hGtx k hk; exact (show False from hS).elim)
                           replace hH := hH.upd hu52 (fun k hk hl hS => by exact (show False from hS).elim)
                           replace hR := hR.upd hu52 (fun k hk hl hS => by have h1 := hGr k hk; exact (show False from hS).elim)
                           obtain ⟨AW2, cW2, rfl, _⟩ := hW2.form
                           refine WL.val rfl rfl rfl rfl (r_move rfl (ev_t rfl)) ?_
                           refine WL.cons (SO.call (same_ok (hW2.rd (by rw [List.length_map]; omega)) (by rw [List.length_map]; exact hT.rd (by omega)) (by rw [List.length_map]; omega)) rfl body_24 ⟨(ev_t rfl), (ev_t rfl), trivial⟩ rfl rfl rfl rfl ?_)
                           rintro v w53 ⟨rfl, hu53⟩
                           have hs53 := hu53.size
                           replace hU := hU.trans hu53 (by exact (fun _ _ h => h))
                           replace hBx := hBx.upd hu53 (fun hS => by exact (show False from hS))
                           replace hM2 := hM2.upd hu53 (fun k hk hl hS => by have h1 := hGm2x k hk; exact (show False from hS).elim)
                           replace hT := hT.upd hu53 (fun k hk hl hS => by have h1 := hGtx k hk; exact (show False from hS).elim)
                           replace hH := hH.upd hu53 (fun k hk hl hS => by exact (show False from hS).elim)
                           replace hR := hR.upd hu53 (fun k hk hl hS => by have h1 := hGr k hk; exact (show False from hS).elim)
                           refine WL.val rfl rfl rfl rfl (r_not rfl (ev_t rfl)) ?_
                           refine WL.nil ?_
                           refine WX.keep [(1, _), (5, _), (6, _), (8, _), (9, _), (10, _), (331, _)] ⟨rfl, rfl, rfl, rfl, rfl, rfl, rfl, trivial⟩ ?_
                           refine WX.next ?_
                           refine WC.cond rfl (ev_t rfl) (fun hc71 => ?_) (fun hc71 => ?_)
                           · try simp only [decide_eq_true_eq, decide_eq_false_iff_not, Bool.not_eq_true', Bool.not_eq_false', Bool.not_eq_true, Bool.not_eq_false, Option.isNone_none, Option.isNone_some, Option.isSome_none, Option.isSome_some, ne_eq, Decidable.not_not] at hc71
                             exfalso
                             (simp at hc71)
                           · try (exfalso; first | (simp at hc71; done) | (simp only [decide_eq_true_eq, decide_eq_false_iff_not, Bool.not_eq_true', Bool.not_eq_false', Bool.not_eq_true, Bool.not_eq_false] at hc71; omega) | omega)
                             all_goals
                              try simp only [decide_eq_true_eq, decide_eq_false_iff_not, Bool.not_eq_true', Bool.not_eq_false', Bool.not_eq_true, Bool.not_eq_false, Option.isNone_none, Option.isNone_some, Option.isSome_none, Option.isSome_some, ne_eq, Decidable.not_not] at hc71
                              refine WC.skip ?_
                              refine WX.blockNormal ?_
                              refine WX.meet [(1, _), (5, _), (6, _), (8, _), (9, _), (10, _)] ⟨rfl, rfl, rfl, rfl, rfl, rfl, trivial⟩ ?_
                              have hBxl := hBx.lt
                              first
                                | (have hyl2 : (ys.map (there mem fin2)).length = ys.length := List.length_map ..
                                   rw [← hto] at hM2 ⊢
                                   have hMb := hM2.bound
                                   refine ⟨to, ys.map (there mem fin2), _, _, ⟨At bt, _, Gr, _, _, _, n + 1, hH, hg2, ht2, by omega, by omega, hMb, by rw [hyl2]; exact hR, fun y hy => ?_, fun k hk => ?_, fun k hk => ?_, fun k hk => ?_⟩, hU, rfl⟩
                                   · obtain ⟨y0, hy0, rfl⟩ := List.mem_map.1 hy
                                     have h1 := hye y0 hy0
                                     have h2 := there_tgt (old := mem) (hyf y0 hy0)
                                     have h3 : there mem fin2 y0 % 2 = 0 := by
                                       unfold there; split <;> omega
                                     exact ⟨h3, by rcases h2 with h | h; omega; exact h⟩
                                   · simp only [At] at hk; omega
                                   · have h1 := hGm2x k hk.1
                                     have h2 := hGm2 k hk.1
                                     refine ⟨by omega, by omega, fun h => ?_, fun h => ?_, hk.2⟩
                                     · simp only [At] at h; omega
                                     · have := (hGr k h).2.2.2; omega
                                   · have := hGr k hk
                                     exact ⟨this.1, this.2.1, fun h => by simp only [At] at h; omega, by omega⟩)
                        · try (exfalso; first | (simp at hc67; done) | (simp only [decide_eq_true_eq, decide_eq_false_iff_not, Bool.not_eq_true', Bool.not_eq_false', Bool.not_eq_true, Bool.not_eq_false] at hc67; omega) | omega)
                          all_goals
                           try simp only [decide_eq_true_eq, decide_eq_false_iff_not, Bool.not_eq_true', Bool.not_eq_false', Bool.not_eq_true, Bool.not_eq_false, Option.isNone_none, Option.isNone_some, Option.isSome_none, Option.isSome_some, ne_eq, Decidable.not_not] at hc67
                           refine WC.seq ?_
                           refine WC.region ?_
                           refine WL.val rfl rfl rfl rfl (r_move rfl (ev_t rfl)) ?_
                           refine WL.val rfl rfl rfl rfl (r_lenSlice (ts := #[]) rfl (ev_t rfl) elem_30) ?_
                           refine WL.val rfl rfl rfl rfl (r_gtr rfl (ev_t rfl) ev_c) ?_
                           refine WL.nil ?_
                           refine WX.keep [(1, _), (5, _), (6, _), (8, _), (9, _), (10, _), (11, _), (65, _)] ⟨rfl, rfl, rfl, rfl, rfl, rfl, rfl, rfl, trivial⟩ ?_
                           refine WX.next ?_
                           refine WC.cond rfl (ev_t rfl) (fun hc14 => ?_) (fun hc14 => ?_)
                           · try (exfalso; first | (simp at hc14; done) | (simp only [decide_eq_true_eq, decide_eq_false_iff_not, Bool.not_eq_true', Bool.not_eq_false', Bool.not_eq_true, Bool.not_eq_false] at hc14; omega) | omega)
                             all_goals
                              try simp only [decide_eq_true_eq, decide_eq_false_iff_not, Bool.not_eq_true', Bool.not_eq_false', Bool.not_eq_true, Bool.not_eq_false, Option.isNone_none, Option.isNone_some, Option.isSome_none, Option.isSome_some, ne_eq, Decidable.not_not] at hc14
                              have hys0 : 0 < ys.length := by omega
                              refine WC.seq ?_
                              refine WC.region ?_
                              refine WL.val rfl rfl rfl rfl (r_field0 rfl (ev_t rfl) fld_62_1) ?_
                              refine WL.val rfl rfl rfl rfl (r_load rfl (ev_t rfl) flat_5 (Blk.cell hBx rfl)) ?_
                              refine WL.val rfl rfl rfl rfl (r_convN rfl (ev_t rfl) some_5 int_3 (by simp only [inK]; omega)) ?_
                              refine WL.val rfl rfl rfl rfl (r_move rfl (ev_t rfl)) ?_
                              refine WL.val rfl rfl rfl rfl (r_lenSlice (ts := #[]) rfl (ev_t rfl) elem_30) ?_
                              refine WL.val rfl rfl rfl rfl (r_remN rfl (ev_t rfl) (ev_t rfl) (by omega) (by omega)) ?_
                              obtain ⟨j, hjj⟩ : ∃ j, j = akk % ys.length := ⟨_, rfl⟩
                              have hjl : j < ys.length := by rw [hjj]; exact Nat.mod_lt _ hys0
                              try rw [show (akk : Int).tmod (ys.length : Int) = ((j : Nat) : Int) by rw [hjj]; rfl]
                              try rw [show (akk : Int) % (ys.length : Int) = ((j : Nat) : Int) by rw [hjj]; rfl]
                              refine WL.val rfl rfl rfl rfl (r_assign rfl (ev_t rfl)) ?_
                              refine WL.nil ?_
                              refine WX.keep [(1, _), (5, _), (6, _), (8, _), (9, _), (10, _), (30, _)] ⟨rfl, rfl, rfl, rfl, rfl, rfl, rfl, trivial⟩ ?_
                              refine WX.next ?_
                              refine WC.seq ?_
                              refine WC.region ?_
                              refine WL.val rfl rfl rfl rfl (r_assign rfl ev_c) ?_
                              refine WL.nil ?_
                              refine WX.keep [(1, _), (5, _), (6, _), (8, _), (9, _), (10, _), (30, _), (31, _)] ⟨rfl, rfl, rfl, rfl, rfl, rfl, rfl, rfl, trivial⟩ ?_
                              refine WX.next ?_
                              refine WC.seq ?_
                              refine WC.region ?_
                              refine WL.val rfl rfl rfl rfl (r_move rfl (ev_t rfl)) ?_
                              refine WL.val rfl rfl rfl rfl (r_move rfl (ev_t rfl)) ?_
                              refine WL.val rfl rfl rfl rfl (r_move rfl (ev_t rfl)) ?_
                              have hR17 := (hR.rd (by omega)).cutW (lo := 0) (hi := j) (by omega) (by omega)
                              refine WL.val rfl rfl rfl rfl (r_slice (l := 0) (h := j) rfl (ev_t rfl) elem_30 size_32 bnd_none (bnd_some (ev_t rfl) (by omega)) (by omega) (by omega) (by omega)) ?_
                              refine WL.cons (SO.append (Own.nil _ No _ _) hR17 row_30 (fun u hu => by obtain ⟨x, _, rfl⟩ := List.mem_map.1 hu; rfl) (le_maxLen (by omega)) (by omega) rfl (ev_t rfl) (ev_t rfl) rfl rfl rfl rfl ?_)
                              intro v54 w54 hX hu54
                              have hs54 := hu54.size
                              replace hU := hU.trans hu54 (by exact (fun _ _ h => h))
                              replace hH := hH.upd hu54 (fun k hk hl hS => by exact (show False from hS).elim)
                              replace hM := hM.upd hu54 (fun k hk hl hS => by have h1 := hGm k hk; exact (show False from hS).elim)
                              replace hR := hR.upd hu54 (fun k hk hl hS => by have h1 := hGr k hk; exact (show False from hS).elim)
                              replace hBx := hBx.upd hu54 (fun hS => by exact (show False from hS))
                              obtain ⟨A54, c54, rfl, hc54⟩ := Own.form hX
                              obtain ⟨Gv, hGve⟩ : ∃ G : Nat → Prop, G = (fun k => bX < k) := ⟨_, rfl⟩
                              replace hX := hX.mono (F' := Gv) (fun k hk => by rcases hk with hk | hk; exact hk.elim; have := hk.1; subst hGve; show bX < k; omega)
                              have hGv : ∀ k, Gv k → bX < k := by subst hGve; exact fun k h => h
                              refine WL.val rfl rfl rfl rfl (r_assign rfl (ev_t rfl)) ?_
                              refine WL.nil ?_
                              refine WX.keep [(1, _), (5, _), (6, _), (8, _), (9, _), (10, _), (30, _), (31, _)] ⟨rfl, rfl, rfl, rfl, rfl, rfl, rfl, rfl, trivial⟩ ?_
                              refine WX.next ?_
                              refine WC.region ?_
                              refine WL.val rfl rfl rfl rfl (r_move rfl (ev_t rfl)) ?_
                              refine WL.val rfl rfl rfl rfl (r_move rfl (ev_t rfl)) ?_
                              refine WL.val rfl rfl rfl rfl (r_move rfl (ev_t rfl)) ?_
                              refine WL.val rfl rfl rfl rfl (r_addN rfl (ev_t rfl) ev_c (by simp only [inK]; omega)) ?_
                              have hR18 := (hR.rd (by omega)).cutW (lo := j + 1) (hi := ys.length) (by omega) (by omega)
                              refine WL.val rfl rfl rfl rfl (r_slice (l := j + 1) (h := ys.length) rfl (ev_t rfl) elem_30 size_32 (bnd_some (ev_t rfl) (by omega)) bnd_none (by omega) (by omega) (by omega)) ?_
                              refine WL.cons (SO.append hX hR18 row_30 (fun u hu => by obtain ⟨x, _, rfl⟩ := List.mem_map.1 hu; rfl) (le_maxLen (by omega)) (by omega) rfl (ev_t rfl) (ev_t rfl) rfl rfl rfl rfl ?_)
                              intro v55 w55 hX hu55
                              have hs55 := hu55.size
                              replace hU := hU.trans hu55 (by (intro k hl hk; first | exact (show False from hk).elim | (have h2 := (hGm2x k hk).1; omega) | (have h2 := (hGm k hk).1; omega) | (have h2 := (hGr k hk).1; omega) | (have h2 := hGB k hk; omega) | (have h2 := hGv k hk; omega) | (simp only [At] at hk; omega) | (rcases hk with h | h | h | h; omega; have := hGB k h; omega; have := (hGr k h).1; omega; have := (hGvb k h).1; omega) | (rcases hk with h | h; omega; have := (hGr k h).1; omega)))
                              replace hH := hH.upd hu55 (fun k hk hl hS => by (have h2 := hGv k hS; rcases hk with hk | hk; omega; have := hGl k hk; omega))
                              replace hM := hM.upd hu55 (fun k hk hl hS => by have h1 := hGm k hk; (have h2 := hGv k hS; have h3 := h1.2.2.2.2; omega))
                              replace hR := hR.upd hu55 (fun k hk hl hS => by have h1 := hGr k hk; (have h2 := hGv k hS; have h3 := h1.2.2.2; omega))
                              replace hBx := hBx.upd hu55 (fun hS => by (have h2 := hGv _ hS; omega))
                              obtain ⟨A55, c55, rfl, hc55⟩ := Own.form hX
                              refine WL.val rfl rfl rfl rfl (r_assign rfl (ev_t rfl)) ?_
                              refine WL.nil ?_
                              refine WX.keep [(1, _), (5, _), (6, _), (8, _), (9, _), (10, _)] ⟨rfl, rfl, rfl, rfl, rfl, rfl, trivial⟩ ?_
                              refine WX.blockNormal ?_
                              refine WX.meet [(1, _), (5, _), (6, _), (8, _), (9, _), (10, _)] ⟨rfl, rfl, rfl, rfl, rfl, rfl, trivial⟩ ?_
                              have hBxl := hBx.lt
                              first
                                | (obtain ⟨zs, hzs⟩ : ∃ z, z = (ys.drop 0).take (j - 0) ++ (ys.drop (j + 1)).take (ys.length - (j + 1)) := ⟨_, rfl⟩
                                   have hzl : zs.length = 0 + (j - 0) + (ys.length - (j + 1)) := by rw [hzs]; simp; omega
                                   rw [List.nil_append, ← List.map_append, ← hzs, ← hzl] at hX
                                   have hX2 := hX.bound
                                   rw [← hzl]
                                   refine ⟨mem, zs, _, _, ⟨G, Gm, _, A, c, st, n, hH, hg, ht, by omega, by omega, hM, hX2, fun y hy => ?_, hGB, fun k hk => ?_, fun k hk => ?_⟩, hU, rfl⟩
                                   · rw [hzs] at hy
                                     rcases List.mem_append.1 hy with hy | hy
                                     · exact hye y (List.mem_of_mem_drop (List.mem_of_mem_take hy))
                                     · exact hye y (List.mem_of_mem_drop (List.mem_of_mem_take hy))
                                   · have := hGm k hk
                                     refine ⟨this.1, this.2.1, this.2.2.1, fun h => ?_, by omega⟩
                                     rcases h.1 with h1 | h1
                                     · have := hGv k h1; omega
                                     · have := h1.1; omega
                                   · have h1 : bX < k := by
                                       rcases hk.1 with h1 | h1
                                       · exact hGv k h1
                                       · have := h1.1; omega
                                     exact ⟨by omega, by omega, fun h => by have := hGl k h; omega, hk.2⟩)
                           · try (exfalso; first | (simp at hc14; done) | (simp only [decide_eq_true_eq, decide_eq_false_iff_not, Bool.not_eq_true', Bool.not_eq_false', Bool.not_eq_true, Bool.not_eq_false] at hc14; omega) | omega)
                             all_goals
                              try simp only [decide_eq_true_eq, decide_eq_false_iff_not, Bool.not_eq_true', Bool.not_eq_false', Bool.not_eq_true, Bool.not_eq_false, Option.isNone_none, Option.isNone_some, Option.isSome_none, Option.isSome_some, ne_eq, Decidable.not_not] at hc14
                              refine WC.skip ?_
                              refine WX.blockNormal ?_
                              refine WX.meet [(1, _), (5, _), (6, _), (8, _), (9, _), (10, _)] ⟨rfl, rfl, rfl, rfl, rfl, rfl, trivial⟩ ?_
                              have hBxl := hBx.lt
                              first
                                | exact ⟨mem, ys, _, _, ⟨G, Gm, Gr, A, c, st, n, hH, hg, ht, by omega, by omega, hM, hR, hye, hGB, fun k hk => by have := hGm k hk; exact ⟨this.1, this.2.1, this.2.2.1, this.2.2.2.1, by omega⟩, fun k hk => by have := hGr k hk; exact ⟨this.1, this.2.1, this.2.2.1, by omega⟩⟩, hU, rfl⟩
                · clear hU hH hM hR hBx
                  rintro E wB ⟨mem, ys, vm, vr, hPL, hU, rfl⟩
                  have hPL0 := hPL
                  obtain ⟨G, Gm, Gr, A, c, st, n, hH, hg, ht, hn, hyl, hM, hR, hye, hGB, hGm, hGr⟩ := hPL0
                  obtain ⟨Am, cm, rfl, _⟩ := hM.form
                  obtain ⟨Ar, cr, rfl, _⟩ := hR.form
                  have hUs := hU.size
                  have hGl := hH.lt
                  have hpl := hH.hd.lt
                  have hle := hH.le
                  have hml : mem.length ≤ 1000 := by omega
                  refine WC.seq ?_
                  refine WC.region ?_
                  refine WL.val rfl rfl rfl rfl (r_move rfl (ev_t rfl)) ?_
                  refine WL.cons (SO.call (hwords_ok hH) rfl body_22 ⟨(ev_t rfl), trivial⟩ rfl rfl rfl rfl ?_)
                  rintro v w56 ⟨hW, hu56⟩
                  have hs56 := hu56.size
                  replace hU := hU.trans hu56 (by exact (fun _ _ h => h))
                  replace hPL := hPL.upd hu56 (fun k hl hS => by first | exact (show False from hS).elim)
                  replace hH := hH.upd hu56 (fun k hk hl hS => by exact (show False from hS).elim)
                  replace hM := hM.upd hu56 (fun k hk hl hS => by have h1 := hGm k hk; exact (show False from hS).elim)
                  replace hR := hR.upd hu56 (fun k hk hl hS => by have h1 := hGr k hk; exact (show False from hS).elim)
                  refine WL.cons (SO.call (lwords_ok (hW.rd (by omega)) (by omega)) rfl body_21 ⟨(ev_t rfl), trivial⟩ rfl rfl rfl rfl ?_)
                  rintro v w57 ⟨hW2, hu57⟩
                  have hs57 := hu57.size
                  replace hU := hU.trans hu57 (by exact (fun _ _ h => h))
                  replace hPL := hPL.upd hu57 (fun k hl hS => by first | exact (show False from hS).elim)
                  replace hH := hH.upd hu57 (fun k hk hl hS => by exact (show False from hS).elim)
                  replace hM := hM.upd hu57 (fun k hk hl hS => by have h1 := hGm k hk; exact (show False from hS).elim)
                  replace hR := hR.upd hu57 (fun k hk hl hS => by have h1 := hGr k hk; exact (show False from hS).elim)
                  refine WL.val rfl rfl rfl rfl (r_move rfl (ev_t rfl)) ?_
                  refine WL.cons (SO.call (same_ok (hW2.rd (by omega)) (hM.rd (by omega)) (by omega)) rfl body_24 ⟨(ev_t rfl), (ev_t rfl), trivial⟩ rfl rfl rfl rfl ?_)
                  rintro v w58 ⟨rfl, hu58⟩
                  have hs58 := hu58.size
                  replace hU := hU.trans hu58 (by exact (fun _ _ h => h))
                  replace hPL := hPL.upd hu58 (fun k hl hS => by first | exact (show False from hS).elim)
                  replace hH := hH.upd hu58 (fun k hk hl hS => by exact (show False from hS).elim)
                  replace hM := hM.upd hu58 (fun k hk hl hS => by have h1 := hGm k hk; exact (show False from hS).elim)
                  replace hR := hR.upd hu58 (fun k hk hl hS => by have h1 := hGr k hk; exact (show False from hS).elim)
                  refine WL.val rfl rfl rfl rfl (r_not rfl (ev_t rfl)) ?_
                  refine WL.val rfl rfl rfl rfl (r_move rfl (ev_t rfl)) ?_
                  refine WL.cases 338 rfl (fun hb73_6 => ?_) (fun hb73_6 => ?_)
                  · try (exfalso; first | (simp at hb73_6; done) | (simp only [decide_eq_true_eq, decide_eq_false_iff_not, Bool.not_eq_true', Bool.not_eq_false', Bool.not_eq_true, Bool.not_eq_false] at hb73_6; omega) | omega)
                  · try (exfalso; first | (simp at hb73_6; done) | (simp only [decide_eq_true_eq, decide_eq_false_iff_not, Bool.not_eq_true', Bool.not_eq_false', Bool.not_eq_true, Bool.not_eq_false] at hb73_6; omega) | omega)
                    all_goals
                     try simp only [decide_eq_true_eq, decide_eq_false_iff_not, Bool.not_eq_true', Bool.not_eq_false', Bool.not_eq_true, Bool.not_eq_false, Option.isNone_none, Option.isNone_some, Option.isSome_none, Option.isSome_some, ne_eq, Decidable.not_not] at hb73_6
                     refine WL.val rfl rfl rfl rfl (r_move rfl (ev_t rfl)) ?_
                     refine WL.cons (SO.call (used_ok hH) rfl body_23 ⟨(ev_t rfl), trivial⟩ rfl rfl rfl rfl ?_)
                     rintro v w59 ⟨rfl, rfl⟩
                     refine WL.val rfl rfl rfl rfl (r_move rfl (ev_t rfl)) ?_
                     refine WL.val rfl rfl rfl rfl (r_lenSlice (ts := #[]) rfl (ev_t rfl) elem_46) ?_
                     refine WL.val rfl rfl rfl rfl (r_neq rfl (ev_t rfl) (ev_t rfl)) ?_
                     refine WL.val rfl rfl rfl rfl (r_pickF rfl (ev_t rfl) (ev_t rfl)) ?_
                     refine WL.val rfl rfl rfl rfl (r_move rfl (ev_t rfl)) ?_
                     refine WL.cases 345 rfl (fun hb73_13 => ?_) (fun hb73_13 => ?_)
                     · try (exfalso; first | (simp at hb73_13; done) | (simp only [decide_eq_true_eq, decide_eq_false_iff_not, Bool.not_eq_true', Bool.not_eq_false', Bool.not_eq_true, Bool.not_eq_false] at hb73_13; omega) | omega)
                     · try (exfalso; first | (simp at hb73_13; done) | (simp only [decide_eq_true_eq, decide_eq_false_iff_not, Bool.not_eq_true', Bool.not_eq_false', Bool.not_eq_true, Bool.not_eq_false] at hb73_13; omega) | omega)
                       all_goals
                        try simp only [decide_eq_true_eq, decide_eq_false_iff_not, Bool.not_eq_true', Bool.not_eq_false', Bool.not_eq_true, Bool.not_eq_false, Option.isNone_none, Option.isNone_some, Option.isSome_none, Option.isSome_some, ne_eq, Decidable.not_not] at hb73_13
                        refine WL.val rfl rfl rfl rfl (r_move rfl (ev_t rfl)) ?_
                        refine WL.cons (SO.call (quota_ok hH) rfl body_36 ⟨(ev_t rfl), trivial⟩ rfl rfl rfl rfl ?_)
                        rintro v w60 ⟨rfl, rfl⟩
                        refine WL.val rfl rfl rfl rfl (r_move rfl (ev_t rfl)) ?_
                        refine WL.val rfl rfl rfl rfl (r_neq rfl (ev_t rfl) (ev_t rfl)) ?_
                        refine WL.val rfl rfl rfl rfl (r_pickF rfl (ev_t rfl) (ev_t rfl)) ?_
                        refine WL.val rfl rfl rfl rfl (r_move rfl (ev_t rfl)) ?_
                        refine WL.cases 351 rfl (fun hb73_19 => ?_) (fun hb73_19 => ?_)
                        · try (exfalso; first | (simp at hb73_19; done) | (simp only [decide_eq_true_eq, decide_eq_false_iff_not, Bool.not_eq_true', Bool.not_eq_false', Bool.not_eq_true, Bool.not_eq_false] at hb73_19; omega) | omega)
                        · try (exfalso; first | (simp at hb73_19; done) | (simp only [decide_eq_true_eq, decide_eq_false_iff_not, Bool.not_eq_true', Bool.not_eq_false', Bool.not_eq_true, Bool.not_eq_false] at hb73_19; omega) | omega)
                          all_goals
                           try simp only [decide_eq_true_eq, decide_eq_false_iff_not, Bool.not_eq_true', Bool.not_eq_false', Bool.not_eq_true, Bool.not_eq_false, Option.isNone_none, Option.isNone_some, Option.isSome_none, Option.isSome_some, ne_eq, Decidable.not_not] at hb73_19
                           refine WL.val rfl rfl rfl rfl (r_move rfl (ev_t rfl)) ?_
                           refine WL.val rfl rfl rfl rfl (r_move rfl (ev_t rfl)) ?_
                           refine WL.val rfl rfl rfl rfl (r_move rfl (ev_t rfl)) ?_
                           refine WL.cons (SO.call (looks_ok hH hg ht hml (hM.bound.rd (by omega)) (fun k hk => hk.2) (hR.bound.rd (by omega)) (fun k hk => hk.2) (by omega) hye) rfl body_37 ⟨(ev_t rfl), (ev_t rfl), (ev_t rfl), trivial⟩ rfl rfl rfl rfl ?_)
                           rintro v w61 ⟨rfl, hu61⟩
                           have hs61 := hu61.size
                           replace hU := hU.trans hu61 (by exact (fun _ _ h => h))
                           replace hPL := hPL.upd hu61 (fun k hl hS => by first | exact (show False from hS).elim)
                           replace hH := hH.upd hu61 (fun k hk hl hS => by exact (show False from hS).elim)
                           replace hM := hM.upd hu61 (fun k hk hl hS => by have h1 := hGm k hk; exact (show False from hS).elim)
                           replace hR := hR.upd hu61 (fun k hk hl hS => by have h1 := hGr k hk; exact (show False from hS).elim)
                           refine WL.val rfl rfl rfl rfl (r_not rfl (ev_t rfl)) ?_
                           refine WL.val rfl rfl rfl rfl (r_pickF rfl (ev_t rfl) (ev_t rfl)) ?_
                           refine WL.nil ?_
                           refine WX.keep [(1, _), (5, _), (6, _), (8, _), (9, _), (10, _), (357, _)] ⟨rfl, rfl, rfl, rfl, rfl, rfl, rfl, trivial⟩ ?_
                           refine WX.next ?_
                           refine WC.cond rfl (ev_t rfl) (fun hc73 => ?_) (fun hc73 => ?_)
                           · try simp only [decide_eq_true_eq, decide_eq_false_iff_not, Bool.not_eq_true', Bool.not_eq_false', Bool.not_eq_true, Bool.not_eq_false, Option.isNone_none, Option.isNone_some, Option.isSome_none, Option.isSome_some, ne_eq, Decidable.not_not] at hc73
                             exfalso
                             first
                               | (simp at hc73; done)
                           · try (exfalso; first | (simp at hc73; done) | (simp only [decide_eq_true_eq, decide_eq_false_iff_not, Bool.not_eq_true', Bool.not_eq_false', Bool.not_eq_true, Bool.not_eq_false] at hc73; omega) | omega)
                             all_goals
                              try simp only [decide_eq_true_eq, decide_eq_false_iff_not, Bool.not_eq_true', Bool.not_eq_false', Bool.not_eq_true, Bool.not_eq_false, Option.isNone_none, Option.isNone_some, Option.isSome_none, Option.isSome_some, ne_eq, Decidable.not_not] at hc73
                              refine WC.skip ?_
                              refine WX.blockNormal ?_
                              refine WX.next ?_
                              refine WC.region ?_
                              refine WL.val rfl rfl rfl rfl (r_move rfl (ev_t rfl)) ?_
                              refine WL.val rfl rfl rfl rfl (r_addN rfl (ev_t rfl) ev_c (by simp only [inK]; omega)) ?_
                              refine WL.val rfl rfl rfl rfl (r_assign rfl (ev_t rfl)) ?_
                              refine WL.nil ?_
                              refine WX.keep [(1, _), (5, _), (6, _), (8, _), (9, _), (10, _)] ⟨rfl, rfl, rfl, rfl, rfl, rfl, trivial⟩ ?_
                              refine WX.meet [(1, _), (5, _), (6, _), (8, _), (9, _), (10, _)] ⟨rfl, rfl, rfl, rfl, rfl, rfl, trivial⟩ ?_
                              first
                                | exact ⟨l.length - (i + 1), by omega, i + 1, mem, ys, _, _, by omega, by omega, rfl, hPL, hU, rfl⟩
             · try (exfalso; first | (simp at hc10; done) | (simp only [decide_eq_true_eq, decide_eq_false_iff_not, Bool.not_eq_true', Bool.not_eq_false', Bool.not_eq_true, Bool.not_eq_false] at hc10; omega) | omega)
               all_goals
                try simp only [decide_eq_true_eq, decide_eq_false_iff_not, Bool.not_eq_true', Bool.not_eq_false', Bool.not_eq_true, Bool.not_eq_false, Option.isNone_none, Option.isNone_some, Option.isSome_none, Option.isSome_some, ne_eq, Decidable.not_not] at hc10
                refine WC.exit ?_
                refine WX.thenExit ?_
                refine WX.thenExit ?_
                refine WX.blockHere ?_
                refine WX.next ?_
                refine WC.seq ?_
                refine WC.region ?_
                refine WL.val rfl rfl rfl rfl (r_assign rfl ev_c) ?_
                refine WL.nil ?_
                refine WX.keep [(4, _)] ⟨rfl, trivial⟩ ?_
                refine WX.next ?_
                refine WC.ret ?_
                refine WX.retE1 rfl rfl ?_
                exact ⟨rfl, hU⟩
          · try (exfalso; first | (simp at hb10_4; done) | (simp only [decide_eq_true_eq, decide_eq_false_iff_not, Bool.not_eq_true', Bool.not_eq_false', Bool.not_eq_true, Bool.not_eq_false] at hb10_4; omega) | omega)
            all_goals
             try simp only [decide_eq_true_eq, decide_eq_false_iff_not, Bool.not_eq_true', Bool.not_eq_false', Bool.not_eq_true, Bool.not_eq_false, Option.isNone_none, Option.isNone_some, Option.isSome_none, Option.isSome_some, ne_eq, Decidable.not_not] at hb10_4
             refine WL.skip rfl rfl rfl ?_
             refine WL.skip rfl rfl rfl ?_
             refine WL.val rfl rfl rfl rfl (r_pickF rfl (ev_t rfl) ev_c) ?_
             refine WL.nil ?_
             refine WX.keep [(1, _), (5, _), (6, _), (8, _), (9, _), (10, _), (53, _)] ⟨rfl, rfl, rfl, rfl, rfl, rfl, rfl, trivial⟩ ?_
             refine WX.next ?_
             refine WC.cond_false rfl (ev_t rfl) ?_
             refine WC.exit ?_
             refine WX.thenExit ?_
             refine WX.thenExit ?_
             refine WX.blockHere ?_
             refine WX.next ?_
             refine WC.seq ?_
             refine WC.region ?_
             refine WL.val rfl rfl rfl rfl (r_assign rfl ev_c) ?_
             refine WL.nil ?_
             refine WX.keep [(4, _)] ⟨rfl, trivial⟩ ?_
             refine WX.next ?_
             refine WC.ret ?_
             refine WX.retE1 rfl rfl ?_
             exact ⟨rfl, hU⟩
end heapPlays
end Go.Proofs.YtdpnnclkkbfihaaDoor
