/-
  heap: Text.
-/
import Derived.Test.YtdpnnclkkbfihaaDoorHeS
namespace Go.Proofs.YtdpnnclkkbfihaaDoor
open Go
set_option linter.unusedSimpArgs false
set_option linter.unusedVariables false

/-- a text stands at a place -/
def TextAt (mem : List Nat) (a : Nat) (s : List UInt8) : Prop := mem[a]? = some (s.length * 256 + 3) ∧ ∀ j x, (encT s)[j]? = some x → mem[a + 1 + j]? = some x
theorem kindNil_ok {w : World} {x : Nat} : Ret Tryd.prog 40 #[.pointer none, .int .u64 (x : Int)] w fun v w' => v = .int .u8 0 ∧ w = w' := by
  refine enterRet (vs := [_, _]) (N := 19) Tryd.func40 rfl rfl rfl ?_
  refine WC.keep [(0, _), (1, _)] ⟨rfl, rfl, trivial⟩ ?_
  refine WC.seq ?_
  refine WC.region ?_
  refine WL.val rfl rfl rfl rfl (r_assign rfl ev_c) ?_
  refine WL.nil ?_
  refine WX.keep [(0, _), (1, _)] ⟨rfl, rfl, trivial⟩ ?_
  refine WX.next ?_
  refine WC.seq ?_
  refine WC.seq ?_
  refine WC.region ?_
  refine WL.val rfl rfl rfl rfl (r_move rfl (ev_t rfl)) ?_
  refine WL.val rfl rfl rfl rfl (r_move rfl (ev_t rfl)) ?_
  refine WL.cons (SO.call (atNil_ok) rfl body_46 ⟨(ev_t rfl), (ev_t rfl), trivial⟩ rfl rfl rfl rfl ?_)
  rintro v w1 ⟨rfl, he⟩
  obtain rfl := he.symm
  refine WL.val rfl rfl rfl rfl (r_assign rfl (ev_t rfl)) ?_
  refine WL.nil ?_
  refine WX.keep [(0, _), (5, _)] ⟨rfl, rfl, trivial⟩ ?_
  refine WX.next ?_
  refine WC.seq ?_
  refine WC.region ?_
  refine WL.val rfl rfl rfl rfl (r_move rfl (ev_t rfl)) ?_
  refine WL.val rfl rfl rfl rfl (r_geq rfl (ev_t rfl) ev_c) ?_
  refine WL.nil ?_
  refine WX.keep [(0, _), (5, _), (10, _)] ⟨rfl, rfl, rfl, trivial⟩ ?_
  refine WX.next ?_
  refine WC.cond rfl (ev_t rfl) (fun hc2 => ?_) (fun hc2 => ?_)
  · try simp only [decide_eq_true_eq, decide_eq_false_iff_not, Bool.not_eq_true', Bool.not_eq_false', Bool.not_eq_true, Bool.not_eq_false, Option.isNone_none, Option.isNone_some, Option.isSome_none, Option.isSome_some, ne_eq, Decidable.not_not] at hc2
    exfalso
    simp_all
  · try (exfalso; first | (simp at hc2; done) | (simp only [decide_eq_true_eq, decide_eq_false_iff_not, Bool.not_eq_true', Bool.not_eq_false', Bool.not_eq_true, Bool.not_eq_false] at hc2; omega) | omega)
    all_goals
     try simp only [decide_eq_true_eq, decide_eq_false_iff_not, Bool.not_eq_true', Bool.not_eq_false', Bool.not_eq_true, Bool.not_eq_false, Option.isNone_none, Option.isNone_some, Option.isSome_none, Option.isSome_some, ne_eq, Decidable.not_not] at hc2
     refine WC.skip ?_
     refine WX.next ?_
     refine WC.seq ?_
     refine WC.region ?_
     refine WL.val rfl rfl rfl rfl (r_assign rfl ev_c) ?_
     refine WL.nil ?_
     refine WX.keep [(4, _)] ⟨rfl, trivial⟩ ?_
     refine WX.next ?_
     refine WC.ret ?_
     refine WX.retE1 rfl rfl ?_
     exact ⟨rfl, rfl⟩
theorem lenNil_ok {w : World} {x : Nat} : Ret Tryd.prog 16 #[.pointer none, .int .u64 (x : Int)] w fun v w' => v = .int .i64 0 ∧ w = w' := by
  refine enterRet (vs := [_, _]) (N := 20) Tryd.func16 rfl rfl rfl ?_
  refine WC.keep [(0, _), (1, _)] ⟨rfl, rfl, trivial⟩ ?_
  refine WC.seq ?_
  refine WC.region ?_
  refine WL.val rfl rfl rfl rfl (r_assign rfl ev_c) ?_
  refine WL.nil ?_
  refine WX.keep [(0, _), (1, _)] ⟨rfl, rfl, trivial⟩ ?_
  refine WX.next ?_
  refine WC.seq ?_
  refine WC.seq ?_
  refine WC.region ?_
  refine WL.val rfl rfl rfl rfl (r_move rfl (ev_t rfl)) ?_
  refine WL.val rfl rfl rfl rfl (r_move rfl (ev_t rfl)) ?_
  refine WL.cons (SO.call (atNil_ok) rfl body_46 ⟨(ev_t rfl), (ev_t rfl), trivial⟩ rfl rfl rfl rfl ?_)
  rintro v w1 ⟨rfl, he⟩
  obtain rfl := he.symm
  refine WL.val rfl rfl rfl rfl (r_assign rfl (ev_t rfl)) ?_
  refine WL.nil ?_
  refine WX.keep [(0, _), (5, _)] ⟨rfl, rfl, trivial⟩ ?_
  refine WX.next ?_
  refine WC.seq ?_
  refine WC.region ?_
  refine WL.val rfl rfl rfl rfl (r_move rfl (ev_t rfl)) ?_
  refine WL.val rfl rfl rfl rfl (r_geq rfl (ev_t rfl) ev_c) ?_
  refine WL.nil ?_
  refine WX.keep [(0, _), (5, _), (10, _)] ⟨rfl, rfl, rfl, trivial⟩ ?_
  refine WX.next ?_
  refine WC.cond rfl (ev_t rfl) (fun hc2 => ?_) (fun hc2 => ?_)
  · try simp only [decide_eq_true_eq, decide_eq_false_iff_not, Bool.not_eq_true', Bool.not_eq_false', Bool.not_eq_true, Bool.not_eq_false, Option.isNone_none, Option.isNone_some, Option.isSome_none, Option.isSome_some, ne_eq, Decidable.not_not] at hc2
    exfalso
    simp_all
  · try (exfalso; first | (simp at hc2; done) | (simp only [decide_eq_true_eq, decide_eq_false_iff_not, Bool.not_eq_true', Bool.not_eq_false', Bool.not_eq_true, Bool.not_eq_false] at hc2; omega) | omega)
    all_goals
     try simp only [decide_eq_true_eq, decide_eq_false_iff_not, Bool.not_eq_true', Bool.not_eq_false', Bool.not_eq_true, Bool.not_eq_false, Option.isNone_none, Option.isNone_some, Option.isSome_none, Option.isSome_some, ne_eq, Decidable.not_not] at hc2
     refine WC.skip ?_
     refine WX.next ?_
     refine WC.seq ?_
     refine WC.region ?_
     refine WL.val rfl rfl rfl rfl (r_assign rfl ev_c) ?_
     refine WL.nil ?_
     refine WX.keep [(4, _)] ⟨rfl, trivial⟩ ?_
     refine WX.next ?_
     refine WC.ret ?_
     refine WX.retE1 rfl rfl ?_
     exact ⟨rfl, rfl⟩
theorem textNil_ok {w : World} {x : Nat} : Ret Tryd.prog 15 #[.pointer none, .int .u64 (x : Int)] w fun v w' => v = .string ⟨#[]⟩ ∧ w = w' := by
  refine enterRet (vs := [_, _]) (N := 38) Tryd.func15 rfl rfl rfl ?_
  refine WC.keep [(0, _), (1, _)] ⟨rfl, rfl, trivial⟩ ?_
  refine WC.seq ?_
  refine WC.region ?_
  refine WL.val rfl rfl rfl rfl (r_assign rfl ev_c) ?_
  refine WL.nil ?_
  refine WX.keep [(0, _), (1, _)] ⟨rfl, rfl, trivial⟩ ?_
  refine WX.next ?_
  refine WC.seq ?_
  refine WC.seq ?_
  refine WC.region ?_
  refine WL.val rfl rfl rfl rfl (r_move rfl (ev_t rfl)) ?_
  refine WL.val rfl rfl rfl rfl (r_move rfl (ev_t rfl)) ?_
  refine WL.cons (SO.call (kindNil_ok) rfl body_40 ⟨(ev_t rfl), (ev_t rfl), trivial⟩ rfl rfl rfl rfl ?_)
  rintro v w1 ⟨rfl, he⟩
  obtain rfl := he.symm
  refine WL.val rfl rfl rfl rfl (r_neq rfl (ev_t rfl) ev_c) ?_
  refine WL.nil ?_
  refine WX.keep [(0, _), (1, _), (10, _)] ⟨rfl, rfl, rfl, trivial⟩ ?_
  refine WX.next ?_
  refine WC.cond rfl (ev_t rfl) (fun hc1 => ?_) (fun hc1 => ?_)
  · try (exfalso; first | (simp at hc1; done) | (simp only [decide_eq_true_eq, decide_eq_false_iff_not, Bool.not_eq_true', Bool.not_eq_false', Bool.not_eq_true, Bool.not_eq_false] at hc1; omega) | omega)
    all_goals
     try simp only [decide_eq_true_eq, decide_eq_false_iff_not, Bool.not_eq_true', Bool.not_eq_false', Bool.not_eq_true, Bool.not_eq_false, Option.isNone_none, Option.isNone_some, Option.isSome_none, Option.isSome_some, ne_eq, Decidable.not_not] at hc1
     refine WC.seq ?_
     refine WC.region ?_
     refine WL.val rfl rfl rfl rfl (r_assign rfl ev_c) ?_
     refine WL.nil ?_
     refine WX.keep [(4, _)] ⟨rfl, trivial⟩ ?_
     refine WX.next ?_
     refine WC.ret ?_
     refine WX.thenRet ?_
     refine WX.retE1 rfl rfl ?_
     exact ⟨rfl, rfl⟩
  · try simp only [decide_eq_true_eq, decide_eq_false_iff_not, Bool.not_eq_true', Bool.not_eq_false', Bool.not_eq_true, Bool.not_eq_false, Option.isNone_none, Option.isNone_some, Option.isSome_none, Option.isSome_some, ne_eq, Decidable.not_not] at hc1
    exfalso
    simp_all
theorem text_byte {x k : Nat} {b : UInt8} (h : x / 256 ^ k % 256 = b.toNat) (hk : k < 8) : IntKind.u8.wrap ((x : Int) / 2 ^ Int.toNat (8 * (k : Int))) = (b.toNat : Int) := by
  have e : Int.toNat (8 * (k : Int)) = 8 * k := by omega
  rw [e, wrap_u8]
  have e2 : (2 : Int) ^ (8 * k) = ((256 ^ k : Nat) : Int) := by rw [pow256]; simp
  rw [e2]
  have e3 : (x : Int) / ((256 ^ k : Nat) : Int) = ((x / 256 ^ k : Nat) : Int) := by simp
  rw [e3, ← h]
  omega
theorem text_ok {w : World} {G : Nat → Prop} {p : Nat} {A : Option Addr} {c : Nat} {mem : List Nat} {q n a : Nat} {s : List UInt8} (hH : HS w G p A c mem q n) (ha : TextAt mem a s) (hs : s.length ≤ 1000000) :
    Ret Tryd.prog 15 #[.pointer (some ⟨p, 0, none⟩), .int .u64 ((2 * a : Nat) : Int)] w fun v w' => v = .string ⟨s.toArray⟩ ∧ Upd No w w' := by
  have hle := hH.le
  have hlp := hH.hd.lt
  have hlG := hH.lt
  obtain ⟨ha0, haj⟩ := ha
  have hal := (List.getElem?_eq_some_iff.1 ha0).1
  refine enterRet (vs := [_, _]) (N := 38) Tryd.func15 rfl rfl rfl ?_
  have hU := Upd.refl No w
  refine WC.keep [(0, _), (1, _)] ⟨rfl, rfl, trivial⟩ ?_
  refine WC.seq ?_
  refine WC.region ?_
  refine WL.val rfl rfl rfl rfl (r_assign rfl ev_c) ?_
  refine WL.nil ?_
  refine WX.keep [(0, _), (1, _)] ⟨rfl, rfl, trivial⟩ ?_
  refine WX.next ?_
  refine WC.seq ?_
  refine WC.seq ?_
  refine WC.region ?_
  refine WL.val rfl rfl rfl rfl (r_move rfl (ev_t rfl)) ?_
  refine WL.val rfl rfl rfl rfl (r_move rfl (ev_t rfl)) ?_
  refine WL.cons (SO.call (kind_ok hH ha0) rfl body_40 ⟨(ev_t rfl), (ev_t rfl), trivial⟩ rfl rfl rfl rfl ?_)
  rintro v w1 ⟨rfl, rfl⟩
  refine WL.val rfl rfl rfl rfl (r_neq rfl (ev_t rfl) ev_c) ?_
  refine WL.nil ?_
  refine WX.keep [(0, _), (1, _), (10, _)] ⟨rfl, rfl, rfl, trivial⟩ ?_
  refine WX.next ?_
  refine WC.cond rfl (ev_t rfl) (fun hc1 => ?_) (fun hc1 => ?_)
  · try simp only [decide_eq_true_eq, decide_eq_false_iff_not, Bool.not_eq_true', Bool.not_eq_false', Bool.not_eq_true, Bool.not_eq_false, Option.isNone_none, Option.isNone_some, Option.isSome_none, Option.isSome_some, ne_eq, Decidable.not_not] at hc1
    exfalso
    simp at hc1
  · try (exfalso; first | (simp at hc1; done) | (simp only [decide_eq_true_eq, decide_eq_false_iff_not, Bool.not_eq_true', Bool.not_eq_false', Bool.not_eq_true, Bool.not_eq_false] at hc1; omega) | omega)
    all_goals
     try simp only [decide_eq_true_eq, decide_eq_false_iff_not, Bool.not_eq_true', Bool.not_eq_false', Bool.not_eq_true, Bool.not_eq_false, Option.isNone_none, Option.isNone_some, Option.isSome_none, Option.isSome_some, ne_eq, Decidable.not_not] at hc1
     refine WC.skip ?_
     refine WX.next ?_
     refine WC.seq ?_
     refine WC.region ?_
     refine WL.cons (SO.alloc rfl rfl rfl rfl (r_alloc rfl zero_88) ?_)
     intro w2 hu2 hB2 hz2
     have hs2 := hu2.size
     replace hU := hU.trans hu2 (by first | exact (fun _ _ h => h) | exact (fun _ _ h => h.elim) | (intro k hl hk; (try simp only [At, New, Grow, From, No] at hk ⊢); omega) | (intro k hl hk; first | exact (show False from hk).elim | (simp only [From] at hk; omega)))
     replace hH := hH.upd hu2 (fun k hk hl hS => by first | exact (show False from hS).elim | (simp only [At, From] at hS; rcases hk with hk | hk; omega; have := hlG _ hk; omega))
     refine WL.nil ?_
     refine WX.keep [(0, _), (1, _), (5, _)] ⟨rfl, rfl, rfl, trivial⟩ ?_
     refine WX.next ?_
     refine WC.seq ?_
     refine WC.seq ?_
     have e256 : (s.length * 256 + 3) / 256 = s.length := by omega
     have hB := Buf.new hB2
     generalize hb : w.heap.size = b at *
     refine WC.region ?_
     refine WL.val rfl rfl rfl rfl (r_move rfl (ev_t rfl)) ?_
     refine WL.val rfl rfl rfl rfl (r_move rfl (ev_t rfl)) ?_
     refine WL.cons (SO.call (len_ok hH ha0 (by omega)) rfl body_16 ⟨(ev_t rfl), (ev_t rfl), trivial⟩ rfl rfl rfl rfl ?_)
     rw [e256]
     rintro v w3 ⟨rfl, rfl⟩
     refine WL.val rfl rfl rfl rfl (r_move rfl ev_c) ?_
     refine WL.nil ?_
     refine WX.keep [(0, _), (1, _), (5, _), (13, _), (14, _)] ⟨rfl, rfl, rfl, rfl, rfl, trivial⟩ ?_
     refine WX.next ?_
     refine WC.block ?_
     -- loop 1: live [0, 1, 5, 13, 14]
     refine WC.keep [(0, _), (1, _), (5, _), (13, _), (14, _)] ⟨rfl, rfl, rfl, rfl, rfl, trivial⟩ ?_
     refine WC.loop (fun qq E wC => ∃ (j : Nat), j ≤ s.length ∧ qq = s.length - j ∧ Upd No w wC ∧ HS wC G p A c mem q n ∧ Buf wC b (s.take j) ∧ E = [(0, .pointer (some ⟨p, 0, none⟩)), (1, .int .u64 ((2 * a : Nat) : Int)), (5, .pointer (some ⟨b, 0, none⟩)), (13, .int .i64 (s.length : Int)), (14, .int .i64 (j : Int))]) (s.length) ?_ ?_
     · exact ⟨0, by omega, by omega, hU, hH, hB, rfl⟩
     · clear hU hH hB
       rintro qq E wC ⟨j, hj, rfl, hU, hH, hB, rfl⟩
       have hUs := hU.size
       have hle2 := hH.le
       have hr := hH.ow.rd (by omega)
       obtain ⟨b0, off, rfl, _⟩ := hr.open (by omega)
       refine WC.seq ?_
       refine WC.region ?_
       refine WL.val rfl rfl rfl rfl (r_lss rfl (ev_t rfl) (ev_t rfl)) ?_
       refine WL.nil ?_
       refine WX.keep [(0, _), (1, _), (5, _), (13, _), (14, _), (15, _)] ⟨rfl, rfl, rfl, rfl, rfl, rfl, trivial⟩ ?_
       refine WX.next ?_
       refine WC.seq ?_
       refine WC.cond rfl (ev_t rfl) (fun hc5 => ?_) (fun hc5 => ?_)
       · try (exfalso; first | (simp at hc5; done) | (simp only [decide_eq_true_eq, decide_eq_false_iff_not, Bool.not_eq_true', Bool.not_eq_false', Bool.not_eq_true, Bool.not_eq_false] at hc5; omega) | omega)
         all_goals
          try simp only [decide_eq_true_eq, decide_eq_false_iff_not, Bool.not_eq_true', Bool.not_eq_false', Bool.not_eq_true, Bool.not_eq_false, Option.isNone_none, Option.isNone_some, Option.isSome_none, Option.isSome_some, ne_eq, Decidable.not_not] at hc5
          have hjl : j < s.length := by simpa using hc5
          obtain ⟨x, hx1, hx2, hx3⟩ := encT_byte (List.getElem?_eq_getElem hjl)
          have hx4 := haj _ _ hx1
          have hx5 := (List.getElem?_eq_some_iff.1 hx4).1
          have htk : s.take (j + 1) = s.take j ++ [s[j]] := take_get (List.getElem?_eq_getElem hjl)
          generalize s[j] = y at *
          refine WC.skip ?_
          refine WX.next ?_
          refine WC.seq ?_
          refine WC.block ?_
          refine WC.seq ?_
          refine WC.region ?_
          refine WL.val rfl rfl rfl rfl (r_move rfl (ev_t rfl)) ?_
          refine WL.val rfl rfl rfl rfl (r_assign rfl (ev_t rfl)) ?_
          refine WL.nil ?_
          refine WX.keep [(0, _), (1, _), (5, _), (6, _), (13, _), (14, _)] ⟨rfl, rfl, rfl, rfl, rfl, rfl, trivial⟩ ?_
          refine WX.next ?_
          refine WC.draws' (fun u0_ u1_ => Upd No u0_ u1_) (fun j => [0, 0, 0, 0, 0, 0, 1, 0, 0, 0, 0, 0, 2, 0, 0, 0, 0, 0, 2].getD j 0) (.calm 0 (.calm 1 (.calm 2 (.calm 4 (.calm 5 (.calm 8 (.calm 9 (.calm 13 (.calm 14 (.calm 15 (.held 3 (.one 6 (.calm 7 (.calm 10 (.calm 11 (.one 12 (.calm 16 (.calm 17 (.one 18 (.done)))))))))))))))))))) mixed (by kernel_rfl) (by repeat (first | with_reducible exact Deaf.body | with_reducible apply Deaf.then | with_reducible apply Deaf.block)) ?_
          intro w4 hu4
          have hz4 := congrArg Array.size hu4.2.2.2
          replace hu4 := Upd.of_draw hu4
          have hs4 := hu4.size
          replace hU := hU.trans hu4 (by first | exact (fun _ _ h => h) | exact (fun _ _ h => h.elim) | (intro k hl hk; (try simp only [At, New, Grow, From, No] at hk ⊢); omega) | (intro k hl hk; first | exact (show False from hk).elim | (simp only [From] at hk; omega)))
          replace hH := hH.upd hu4 (fun k hk hl hS => by first | exact (show False from hS).elim | (simp only [At, From] at hS; rcases hk with hk | hk; omega; have := hlG _ hk; omega))
          replace hB := hB.upd hu4 (fun k hk hl hS => by first | exact (show False from hS).elim)
          replace hr := hr.upd hu4 (fun k hk hl hS => by first | exact (show False from hS).elim | (simp only [At, From] at hS; have := hlG _ hk; omega))
          have hS7 := Upd.refl No w4
          refine WN.calm _ rfl rfl rfl rfl rfl (fun _ => r_move rfl (ev_t rfl)) ?_
          refine WN.calm _ rfl rfl rfl rfl rfl (fun _ => r_nilCheck rfl (ev_t rfl)) ?_
          first | refine WN.calm _ rfl rfl rfl rfl rfl (fun _ => r_field0 rfl (ev_t rfl) fld_79_0) ?_ | refine WN.calm _ rfl rfl rfl rfl rfl (fun _ => r_fieldAt rfl (ev_t rfl) fld_79_0) ?_
          refine WN.calm _ rfl rfl rfl rfl rfl (fun _ => r_move rfl (ev_t rfl)) ?_
          refine WN.calm _ rfl rfl rfl rfl rfl (fun _ => r_move rfl (ev_t rfl)) ?_
          refine WN.calm _ rfl rfl rfl rfl rfl (fun _ => r_move rfl (ev_t rfl)) ?_
          first | refine WN.calm _ rfl rfl rfl rfl rfl (fun _ => r_quoN rfl (ev_t rfl) ev_c (by omega) (by omega) (by simp only [inK]; omega)) ?_ | refine WN.calm _ rfl rfl rfl rfl rfl (fun _ => r_quo rfl (ev_t rfl) ev_c (by omega)) ?_
          refine WN.calm _ rfl rfl rfl rfl rfl (fun _ => r_move rfl (ev_t rfl)) ?_
          first | refine WN.calm _ rfl rfl rfl rfl rfl (fun _ => r_remN rfl (ev_t rfl) ev_c (by omega) (by omega)) ?_ | refine WN.calm _ rfl rfl rfl rfl rfl (fun _ => r_rem rfl (ev_t rfl) ev_c (by omega)) ?_
          first | refine WN.calm _ rfl rfl rfl rfl rfl (fun _ => r_mulN rfl ev_c (ev_t rfl) (by simp only [inK]; omega)) ?_ | refine WN.calm _ rfl rfl rfl rfl rfl (fun _ => r_mul rfl ev_c (ev_t rfl)) ?_
          refine WN.held _ rfl rfl rfl rfl rfl hS7 (fun w' hS => r_load rfl (ev_t rfl) flat_30 (Blk.cell (hH.upd hS (fun _ _ _ h => h)).hd rfl)) ?_
          refine WN.step _ rfl (SO.call (at_ok hH hal) rfl body_46 ⟨(ev_t rfl), (ev_t rfl), trivial⟩ rfl rfl rfl rfl ?_)
          rintro v w5 ⟨rfl, rfl⟩
          refine ⟨hS7, ?_⟩
          first | refine WN.calm _ rfl rfl rfl rfl rfl (fun _ => r_addN rfl (ev_t rfl) ev_c (by simp only [inK]; omega)) ?_ | refine WN.calm _ rfl rfl rfl rfl rfl (fun _ => r_add rfl (ev_t rfl) ev_c) ?_
          first | refine WN.calm _ rfl rfl rfl rfl rfl (fun _ => r_addN rfl (ev_t rfl) (ev_t rfl) (by simp only [inK]; omega)) ?_ | refine WN.calm _ rfl rfl rfl rfl rfl (fun _ => r_add rfl (ev_t rfl) (ev_t rfl)) ?_
          refine WN.calm _ rfl rfl rfl rfl rfl (fun _ => r_indexAddr rfl (ev_t rfl) (ev_t rfl) elem_30 size_32 (by omega) (by omega)) ?_
          refine WN.step _ rfl (SO.val rfl rfl rfl rfl (r_load rfl (ev_t rfl) flat_32 (hr.cell (j := a + 1 + j / 8) (u := Wd x) (by omega) (by rw [List.getElem?_map, hx4]; rfl))) ?_)
          refine ⟨trivial, ?_⟩
          refine WN.calm _ rfl rfl rfl rfl rfl (fun _ => r_shr rfl (ev_t rfl) (ev_t rfl) (by omega) (by simp only [IntKind.bits]; omega)) ?_
          first | refine WN.calm _ rfl rfl rfl rfl rfl (fun _ => r_convN rfl (ev_t rfl) some_32 int_5 (by simp only [inK]; omega)) ?_ | refine WN.calm _ rfl rfl rfl rfl rfl (fun _ => r_conv rfl (ev_t rfl) some_32 int_5) ?_
          have e9 := text_byte hx2 (Nat.mod_lt _ (by decide))
          rw [show ((j % 8 : Nat) : Int) = (j : Int) % 8 by omega] at e9
          rw [e9]
          refine WN.step _ rfl (SO.call (bwrite_ok hB (by simp; omega)) rfl body_45 ⟨(ev_t rfl), (ev_t rfl), trivial⟩ rfl rfl rfl rfl ?_)
          rintro v w6 ⟨hB2, hu6⟩
          have hs6 := hu6.size
          try replace hS7 := Upd.transA hS7 hu6
          replace hU := hU.trans hu6 (by first | exact (fun _ _ h => h) | exact (fun _ _ h => h.elim) | (intro k hl hk; (try simp only [At, New, Grow, From, No] at hk ⊢); omega) | (intro k hl hk; first | exact (show False from hk).elim | (simp only [From] at hk; omega)))
          replace hH := hH.upd hu6 (fun k hk hl hS => by first | exact (show False from hS).elim | (simp only [At, From] at hS; rcases hk with hk | hk; omega; have := hlG _ hk; omega))
          replace hr := hr.upd hu6 (fun k hk hl hS => by first | exact (show False from hS).elim | (simp only [At, From] at hS; have := hlG _ hk; omega))
          have hB := hB2
          refine ⟨trivial, ?_⟩
          refine WN.done ?_
          refine WX.keep [(0, _), (1, _), (5, _), (13, _), (14, _)] ⟨rfl, rfl, rfl, rfl, rfl, trivial⟩ ?_
          refine WX.blockNormal ?_
          refine WX.next ?_
          refine WC.region ?_
          first | refine WL.val rfl rfl rfl rfl (r_addN rfl (ev_t rfl) ev_c (by simp only [inK]; omega)) ?_ | refine WL.val rfl rfl rfl rfl (r_add rfl (ev_t rfl) ev_c) ?_
          refine WL.val rfl rfl rfl rfl (r_move rfl (ev_t rfl)) ?_
          refine WL.nil ?_
          refine WX.keep [(0, _), (1, _), (5, _), (13, _), (14, _)] ⟨rfl, rfl, rfl, rfl, rfl, trivial⟩ ?_
          refine WX.meet [(0, _), (1, _), (5, _), (13, _), (14, _)] ⟨rfl, rfl, rfl, rfl, rfl, trivial⟩ ?_
          refine ⟨s.length - (j + 1), by omega, j + 1, by omega, rfl, hU, hH, by rw [htk]; exact hB, by simp⟩
       · try (exfalso; first | (simp at hc5; done) | (simp only [decide_eq_true_eq, decide_eq_false_iff_not, Bool.not_eq_true', Bool.not_eq_false', Bool.not_eq_true, Bool.not_eq_false] at hc5; omega) | omega)
         all_goals
          try simp only [decide_eq_true_eq, decide_eq_false_iff_not, Bool.not_eq_true', Bool.not_eq_false', Bool.not_eq_true, Bool.not_eq_false, Option.isNone_none, Option.isNone_some, Option.isSome_none, Option.isSome_some, ne_eq, Decidable.not_not] at hc5
          refine WC.exit ?_
          refine WX.thenExit ?_
          refine WX.thenExit ?_
          refine WX.blockHere ?_
          refine WX.next ?_
          refine WC.seq ?_
          obtain rfl : j = s.length := by
            have : ¬ j < s.length := by simpa using hc5
            omega
          rw [List.take_length] at hB
          refine WC.region ?_
          refine WL.cons (SO.call (bstring_ok hB) rfl body_47 ⟨(ev_t rfl), trivial⟩ rfl rfl rfl rfl ?_)
          rintro v w7 ⟨rfl, hu7⟩
          have hs7 := hu7.size
          replace hU := hU.trans hu7 (by first | exact (fun _ _ h => h) | exact (fun _ _ h => h.elim) | (intro k hl hk; (try simp only [At, New, Grow, From, No] at hk ⊢); omega) | (intro k hl hk; first | exact (show False from hk).elim | (simp only [From] at hk; omega)))
          replace hH := hH.upd hu7 (fun k hk hl hS => by first | exact (show False from hS).elim | (simp only [At, From] at hS; rcases hk with hk | hk; omega; have := hlG _ hk; omega))
          replace hB := hB.upd hu7 (fun k hk hl hS => by first | exact (show False from hS).elim)
          replace hr := hr.upd hu7 (fun k hk hl hS => by first | exact (show False from hS).elim | (simp only [At, From] at hS; have := hlG _ hk; omega))
          refine WL.val rfl rfl rfl rfl (r_assign rfl (ev_t rfl)) ?_
          refine WL.nil ?_
          refine WX.keep [(4, _)] ⟨rfl, trivial⟩ ?_
          refine WX.next ?_
          refine WC.ret ?_
          refine WX.retE1 rfl rfl ?_
          exact ⟨rfl, hU⟩
end Go.Proofs.YtdpnnclkkbfihaaDoor
