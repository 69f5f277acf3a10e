/-
  The reference's reader.
-/
import Derived.Test.YtipabhbnljadfaaRdrP
import Derived.Test.YtipabhbnljadfaaRfu
namespace Go.Proofs.Ytipabhbnljadfaa
open Go
set_option linter.unusedSimpArgs false
set_option linter.unusedVariables false

/-- where the reference's reader at block g stands in p -/
def StM (p : List UInt8) (at_ : Int) : Option (List UInt8) → Prop
  | none => at_ = -1
  | some r => ∃ m : Nat, at_ = m ∧ m ≤ p.length ∧ r = p.drop m
def IsM (w : World) (F : Nat → Prop) (g : Nat) (p : List UInt8) (s : Option (List UInt8)) : Prop :=
  ∃ A c at_, Blk w g #[.slice A p.length c, .int .i64 at_] 77 ∧ Rd w F (.slice A p.length c) p.length 1 (p.map U8) ∧ StM p at_ s

theorem IsM.upd {w w' : World} {F S : Nat → Prop} {g : Nat} {p : List UInt8} {s : Option (List UInt8)} (h : IsM w F g p s) (hu : Upd S w w') (hg : ¬ S g) (hF : ∀ k, F k → k < w.heap.size → ¬ S k) : IsM w' F g p s := by
  obtain ⟨A, c, at_, hb, hr, hs⟩ := h
  exact ⟨A, c, at_, hb.upd hu hg, hr.upd hu hF, hs⟩

theorem mUint_ok {w : World} {F : Nat → Prop} {g : Nat} {p : List UInt8} {s s' : Option (List UInt8)} {x : Nat} (h : IsM w F g p s) (hFg : ¬ F g) (hx : uintR s = (x, s')) :
    Ret Try.prog 36 #[.pointer (some ⟨g, 0, none⟩)] w fun v w' => v = .int .u64 (x : Int) ∧ IsM w' F g p s' ∧ Upd (At g) w w' := by
  obtain ⟨A, c, at_, hb, hr, hs⟩ := h
  have hm := hr.le
  have hcap := hr.cap
  have hgl := hb.lt
  cases s with
  | none =>
    simp only [uintR, Prod.mk.injEq] at hx
    obtain ⟨rfl, rfl⟩ := hx
    simp only [StM] at hs
    subst hs
    refine enterRet (vs := [_]) (N := 129) Try.func36 rfl rfl rfl ?_
    have hU := Upd.refl (At g) w
    refine WC.keep [(0, _)] ⟨rfl, trivial⟩ ?_
    refine WC.seq ?_
    refine WC.region ?_
    refine WL.val rfl rfl rfl rfl (r_assign rfl ev_c) ?_
    refine WL.nil ?_
    refine WX.keep [(0, _)] ⟨rfl, trivial⟩ ?_
    refine WX.next ?_
    refine WC.seq ?_
    refine WC.seq ?_
    refine WC.draws' (fun u0_ u1_ => Upd No u0_ u1_) (fun j => [0, 0, 0, 1, 0, 0, 0, 0, 0, 0, 0, 0, 0, 1, 0, 0, 0, 0, 0, 0, 0, 0, 0, 0, 0, 1, 0, 1, 0, 0, 0, 0, 0, 0, 0, 0, 0, 0, 0, 0, 0, 0, 0, 0, 0, 0, 0, 0, 0, 0, 1, 0, 0, 0].getD j 0) (.calm 0 (.calm 1 (.calm 2 (.one 3 (.calm 4 (.calm 5 (.calm 6 (.calm 7 (.calm 8 (.calm 10 (.calm 11 (.calm 12 (.held 9 (.one 13 (.calm 14 (.calm 15 (.calm 16 (.calm 17 (.calm 18 (.calm 19 (.calm 20 (.calm 22 (.calm 23 (.calm 24 (.held 21 (.one 25 (.calm 26 (.one 27 (.calm 28 (.calm 29 (.calm 30 (.calm 31 (.calm 32 (.calm 33 (.calm 35 (.calm 36 (.calm 37 (.calm 42 (.calm 43 (.calm 44 (.calm 47 (.calm 48 (.calm 49 (.held 34 (.held 38 (.calm 39 (.held 40 (.calm 41 (.held 45 (.calm 46 (.one 50 (.calm 51 (.calm 52 (.calm 53 (.done))))))))))))))))))))))))))))))))))))))))))))))))))))))) mixed (by kernel_rfl) (by repeat (first | with_reducible exact Deaf.body | with_reducible apply Deaf.then | with_reducible apply Deaf.block)) ?_
    intro w1 hu1
    have hz1 := congrArg Array.size hu1.2.2.2
    replace hu1 := Upd.of_draw hu1
    have hs1 := hu1.size
    replace hU := hU.transA hu1
    replace hr := hr.upd hu1 (by first | exact (fun _ _ _ h => h) | (intro k hk hl hS; simp only [At] at hS; subst hS; exact hFg hk))
    replace hb := hb.updA hu1
    have hS1 := Upd.refl No w1
    refine WN.calm _ rfl rfl rfl rfl rfl (fun _ => r_move rfl (ev_t rfl)) ?_
    refine WN.calm _ rfl rfl rfl rfl rfl (fun _ => r_nilCheck rfl (ev_t rfl)) ?_
    first | refine WN.calm _ rfl rfl rfl rfl rfl (fun _ => r_field0 rfl (ev_t rfl) fld_77_1) ?_ | refine WN.calm _ rfl rfl rfl rfl rfl (fun _ => r_fieldAt rfl (ev_t rfl) fld_77_1) ?_
    refine WN.step _ rfl (SO.val rfl rfl rfl rfl (r_load rfl (ev_t rfl) flat_3 (Blk.cell hb rfl)) ?_)
    refine ⟨hS1, ?_⟩
    refine WN.calm _ rfl rfl rfl rfl rfl (fun _ => r_lss rfl (ev_t rfl) ev_c) ?_
    refine WN.calm _ rfl rfl rfl rfl rfl (fun _ => r_move rfl (ev_t rfl)) ?_
    refine WN.cases 11 rfl (fun hb1_5 => ?_) (fun hb1_5 => ?_)
    · try (exfalso; first | (simp at hb1_5; done) | (simp only [decide_eq_true_eq, decide_eq_false_iff_not, Bool.not_eq_true', Bool.not_eq_false', Bool.not_eq_true, Bool.not_eq_false] at hb1_5; omega) | omega)
      all_goals
       try simp only [decide_eq_true_eq, decide_eq_false_iff_not, Bool.not_eq_true', Bool.not_eq_false', Bool.not_eq_true, Bool.not_eq_false, Option.isNone_none, Option.isNone_some, Option.isSome_none, Option.isSome_some, ne_eq, Decidable.not_not] at hb1_5
       refine WN.skip _ rfl rfl rfl rfl ?_
       refine WN.skip _ rfl rfl rfl rfl ?_
       refine WN.skip _ rfl rfl rfl rfl ?_
       refine WN.skip _ rfl rfl rfl rfl ?_
       refine WN.skip _ rfl rfl rfl rfl ?_
       refine WN.skip _ rfl rfl rfl rfl ?_
       refine WN.heldSkip _ rfl rfl rfl rfl hS1 ?_
       refine WN.step _ rfl (SO.skip rfl rfl rfl ?_)
       refine ⟨hS1, ?_⟩
       refine WN.skip _ rfl rfl rfl rfl ?_
       refine WN.skip _ rfl rfl rfl rfl ?_
       refine WN.calm _ rfl rfl rfl rfl rfl (fun _ => r_pickT rfl (ev_t rfl) ev_c) ?_
       refine WN.calm _ rfl rfl rfl rfl rfl (fun _ => r_move rfl (ev_t rfl)) ?_
       refine WN.skip _ rfl rfl rfl rfl ?_
       refine WN.skip _ rfl rfl rfl rfl ?_
       refine WN.skip _ rfl rfl rfl rfl ?_
       refine WN.skip _ rfl rfl rfl rfl ?_
       refine WN.skip _ rfl rfl rfl rfl ?_
       refine WN.skip _ rfl rfl rfl rfl ?_
       refine WN.heldSkip _ rfl rfl rfl rfl hS1 ?_
       refine WN.step _ rfl (SO.skip rfl rfl rfl ?_)
       refine ⟨hS1, ?_⟩
       refine WN.skip _ rfl rfl rfl rfl ?_
       refine WN.step _ rfl (SO.skip rfl rfl rfl ?_)
       refine ⟨hS1, ?_⟩
       refine WN.skip _ rfl rfl rfl rfl ?_
       refine WN.calm _ rfl rfl rfl rfl rfl (fun _ => r_pickT rfl (ev_t rfl) ev_c) ?_
       refine WN.calm _ rfl rfl rfl rfl rfl (fun _ => r_move rfl (ev_t rfl)) ?_
       refine WN.skip _ rfl rfl rfl rfl ?_
       refine WN.skip _ rfl rfl rfl rfl ?_
       refine WN.skip _ rfl rfl rfl rfl ?_
       refine WN.skip _ rfl rfl rfl rfl ?_
       refine WN.skip _ rfl rfl rfl rfl ?_
       refine WN.skip _ rfl rfl rfl rfl ?_
       refine WN.skip _ rfl rfl rfl rfl ?_
       refine WN.skip _ rfl rfl rfl rfl ?_
       refine WN.skip _ rfl rfl rfl rfl ?_
       refine WN.skip _ rfl rfl rfl rfl ?_
       refine WN.skip _ rfl rfl rfl rfl ?_
       refine WN.skip _ rfl rfl rfl rfl ?_
       refine WN.heldSkip _ rfl rfl rfl rfl hS1 ?_
       refine WN.heldSkip _ rfl rfl rfl rfl hS1 ?_
       refine WN.skip _ rfl rfl rfl rfl ?_
       refine WN.heldSkip _ rfl rfl rfl rfl hS1 ?_
       refine WN.skip _ rfl rfl rfl rfl ?_
       refine WN.heldSkip _ rfl rfl rfl rfl hS1 ?_
       refine WN.skip _ rfl rfl rfl rfl ?_
       refine WN.step _ rfl (SO.skip rfl rfl rfl ?_)
       refine ⟨hS1, ?_⟩
       refine WN.skip _ rfl rfl rfl rfl ?_
       refine WN.skip _ rfl rfl rfl rfl ?_
       refine WN.calm _ rfl rfl rfl rfl rfl (fun _ => r_pickT rfl (ev_t rfl) ev_c) ?_
       refine WN.done ?_
       refine WX.keep [(0, _), (59, _)] ⟨rfl, rfl, trivial⟩ ?_
       refine WX.next ?_
       refine WC.cond_true rfl (ev_t rfl) ?_
       refine WC.seq ?_
       refine WC.region ?_
       refine WL.val rfl rfl rfl rfl (r_move rfl (ev_t rfl)) ?_
       refine WL.val rfl rfl rfl rfl (r_nilCheck rfl (ev_t rfl)) ?_
       first | refine WL.val rfl rfl rfl rfl (r_field0 rfl (ev_t rfl) fld_77_1) ?_ | refine WL.val rfl rfl rfl rfl (r_fieldAt rfl (ev_t rfl) fld_77_1) ?_
       refine WL.cons (SO.store rfl (ev_t rfl) ev_c size_3 hb rfl rfl rfl rfl rfl ?_)
       intro w2 hu2 hb hz2
       have hs2 := hu2.size
       replace hU := hU.transA hu2
       replace hr := hr.upd hu2 (by first | exact (fun _ _ _ h => h) | (intro k hk hl hS; simp only [At] at hS; subst hS; exact hFg hk))
       refine WL.nil ?_
       refine WX.keep [] trivial ?_
       refine WX.next ?_
       refine WC.seq ?_
       refine WC.region ?_
       refine WL.val rfl rfl rfl rfl (r_assign rfl ev_c) ?_
       refine WL.nil ?_
       refine WX.keep [(2, _)] ⟨rfl, trivial⟩ ?_
       refine WX.next ?_
       refine WC.ret ?_
       refine WX.thenRet ?_
       refine WX.retE1 rfl rfl ?_
       exact ⟨rfl, ⟨A, c, -1, hb, hr, rfl⟩, hU⟩
    · try (exfalso; first | (simp at hb1_5; done) | (simp only [decide_eq_true_eq, decide_eq_false_iff_not, Bool.not_eq_true', Bool.not_eq_false', Bool.not_eq_true, Bool.not_eq_false] at hb1_5; omega) | omega)
      all_goals
       try simp only [decide_eq_true_eq, decide_eq_false_iff_not, Bool.not_eq_true', Bool.not_eq_false', Bool.not_eq_true, Bool.not_eq_false, Option.isNone_none, Option.isNone_some, Option.isSome_none, Option.isSome_some, ne_eq, Decidable.not_not] at hb1_5
       refine WN.calm _ rfl rfl rfl rfl rfl (fun _ => r_move rfl (ev_t rfl)) ?_
       refine WN.calm _ rfl rfl rfl rfl rfl (fun _ => r_nilCheck rfl (ev_t rfl)) ?_
       first | refine WN.calm _ rfl rfl rfl rfl rfl (fun _ => r_field0 rfl (ev_t rfl) fld_77_1) ?_ | refine WN.calm _ rfl rfl rfl rfl rfl (fun _ => r_fieldAt rfl (ev_t rfl) fld_77_1) ?_
       refine WN.calm _ rfl rfl rfl rfl rfl (fun _ => r_move rfl (ev_t rfl)) ?_
       refine WN.calm _ rfl rfl rfl rfl rfl (fun _ => r_nilCheck rfl (ev_t rfl)) ?_
       first | refine WN.calm _ rfl rfl rfl rfl rfl (fun _ => r_field0 rfl (ev_t rfl) fld_77_0) ?_ | refine WN.calm _ rfl rfl rfl rfl rfl (fun _ => r_fieldAt rfl (ev_t rfl) fld_77_0) ?_
       refine WN.held _ rfl rfl rfl rfl rfl hS1 (fun w' hS => r_load rfl (ev_t rfl) flat_3 (Blk.cell (hb.upd hS (fun h => h)) rfl)) ?_
       refine WN.step _ rfl (SO.val rfl rfl rfl rfl (r_load rfl (ev_t rfl) flat_23 (Blk.cell hb rfl)) ?_)
       refine ⟨hS1, ?_⟩
       refine WN.calm _ rfl rfl rfl rfl rfl (fun _ => r_lenSlice (ts := #[]) rfl (ev_t rfl) elem_23) ?_
       refine WN.calm _ rfl rfl rfl rfl rfl (fun _ => r_geq rfl (ev_t rfl) (ev_t rfl)) ?_
       refine WN.calm _ rfl rfl rfl rfl rfl (fun _ => r_pickF rfl (ev_t rfl) (ev_t rfl)) ?_
       refine WN.calm _ rfl rfl rfl rfl rfl (fun _ => r_move rfl (ev_t rfl)) ?_
       refine WN.cases 23 rfl (fun hb1_17 => ?_) (fun hb1_17 => ?_)
       · try (exfalso; first | (simp at hb1_17; done) | (simp only [decide_eq_true_eq, decide_eq_false_iff_not, Bool.not_eq_true', Bool.not_eq_false', Bool.not_eq_true, Bool.not_eq_false] at hb1_17; omega) | omega)
         all_goals
          try simp only [decide_eq_true_eq, decide_eq_false_iff_not, Bool.not_eq_true', Bool.not_eq_false', Bool.not_eq_true, Bool.not_eq_false, Option.isNone_none, Option.isNone_some, Option.isSome_none, Option.isSome_some, ne_eq, Decidable.not_not] at hb1_17
          refine WN.skip _ rfl rfl rfl rfl ?_
          refine WN.skip _ rfl rfl rfl rfl ?_
          refine WN.skip _ rfl rfl rfl rfl ?_
          refine WN.skip _ rfl rfl rfl rfl ?_
          refine WN.skip _ rfl rfl rfl rfl ?_
          refine WN.skip _ rfl rfl rfl rfl ?_
          refine WN.heldSkip _ rfl rfl rfl rfl hS1 ?_
          refine WN.step _ rfl (SO.skip rfl rfl rfl ?_)
          refine ⟨hS1, ?_⟩
          refine WN.skip _ rfl rfl rfl rfl ?_
          refine WN.step _ rfl (SO.skip rfl rfl rfl ?_)
          refine ⟨hS1, ?_⟩
          refine WN.skip _ rfl rfl rfl rfl ?_
          refine WN.calm _ rfl rfl rfl rfl rfl (fun _ => r_pickT rfl (ev_t rfl) ev_c) ?_
          refine WN.calm _ rfl rfl rfl rfl rfl (fun _ => r_move rfl (ev_t rfl)) ?_
          refine WN.skip _ rfl rfl rfl rfl ?_
          refine WN.skip _ rfl rfl rfl rfl ?_
          refine WN.skip _ rfl rfl rfl rfl ?_
          refine WN.skip _ rfl rfl rfl rfl ?_
          refine WN.skip _ rfl rfl rfl rfl ?_
          refine WN.skip _ rfl rfl rfl rfl ?_
          refine WN.skip _ rfl rfl rfl rfl ?_
          refine WN.skip _ rfl rfl rfl rfl ?_
          refine WN.skip _ rfl rfl rfl rfl ?_
          refine WN.skip _ rfl rfl rfl rfl ?_
          refine WN.skip _ rfl rfl rfl rfl ?_
          refine WN.skip _ rfl rfl rfl rfl ?_
          refine WN.heldSkip _ rfl rfl rfl rfl hS1 ?_
          refine WN.heldSkip _ rfl rfl rfl rfl hS1 ?_
          refine WN.skip _ rfl rfl rfl rfl ?_
          refine WN.heldSkip _ rfl rfl rfl rfl hS1 ?_
          refine WN.skip _ rfl rfl rfl rfl ?_
          refine WN.heldSkip _ rfl rfl rfl rfl hS1 ?_
          refine WN.skip _ rfl rfl rfl rfl ?_
          refine WN.step _ rfl (SO.skip rfl rfl rfl ?_)
          refine ⟨hS1, ?_⟩
          refine WN.skip _ rfl rfl rfl rfl ?_
          refine WN.skip _ rfl rfl rfl rfl ?_
          refine WN.calm _ rfl rfl rfl rfl rfl (fun _ => r_pickT rfl (ev_t rfl) ev_c) ?_
          refine WN.done ?_
          refine WX.keep [(0, _), (59, _)] ⟨rfl, rfl, trivial⟩ ?_
          refine WX.next ?_
          refine WC.cond_true rfl (ev_t rfl) ?_
          refine WC.seq ?_
          refine WC.region ?_
          refine WL.val rfl rfl rfl rfl (r_move rfl (ev_t rfl)) ?_
          refine WL.val rfl rfl rfl rfl (r_nilCheck rfl (ev_t rfl)) ?_
          first | refine WL.val rfl rfl rfl rfl (r_field0 rfl (ev_t rfl) fld_77_1) ?_ | refine WL.val rfl rfl rfl rfl (r_fieldAt rfl (ev_t rfl) fld_77_1) ?_
          refine WL.cons (SO.store rfl (ev_t rfl) ev_c size_3 hb rfl rfl rfl rfl rfl ?_)
          intro w3 hu3 hb hz3
          have hs3 := hu3.size
          replace hU := hU.transA hu3
          replace hr := hr.upd hu3 (by first | exact (fun _ _ _ h => h) | (intro k hk hl hS; simp only [At] at hS; subst hS; exact hFg hk))
          refine WL.nil ?_
          refine WX.keep [] trivial ?_
          refine WX.next ?_
          refine WC.seq ?_
          refine WC.region ?_
          refine WL.val rfl rfl rfl rfl (r_assign rfl ev_c) ?_
          refine WL.nil ?_
          refine WX.keep [(2, _)] ⟨rfl, trivial⟩ ?_
          refine WX.next ?_
          refine WC.ret ?_
          refine WX.thenRet ?_
          refine WX.retE1 rfl rfl ?_
          exact ⟨rfl, ⟨A, c, -1, hb, hr, rfl⟩, hU⟩
       · try (exfalso; first | (simp at hb1_17; done) | (simp only [decide_eq_true_eq, decide_eq_false_iff_not, Bool.not_eq_true', Bool.not_eq_false', Bool.not_eq_true, Bool.not_eq_false] at hb1_17; omega) | omega)
         all_goals
          try simp only [decide_eq_true_eq, decide_eq_false_iff_not, Bool.not_eq_true', Bool.not_eq_false', Bool.not_eq_true, Bool.not_eq_false, Option.isNone_none, Option.isNone_some, Option.isSome_none, Option.isSome_some, ne_eq, Decidable.not_not] at hb1_17
          refine WN.calm _ rfl rfl rfl rfl rfl (fun _ => r_move rfl (ev_t rfl)) ?_
          refine WN.calm _ rfl rfl rfl rfl rfl (fun _ => r_nilCheck rfl (ev_t rfl)) ?_
          first | refine WN.calm _ rfl rfl rfl rfl rfl (fun _ => r_field0 rfl (ev_t rfl) fld_77_0) ?_ | refine WN.calm _ rfl rfl rfl rfl rfl (fun _ => r_fieldAt rfl (ev_t rfl) fld_77_0) ?_
          refine WN.calm _ rfl rfl rfl rfl rfl (fun _ => r_move rfl (ev_t rfl)) ?_
          refine WN.calm _ rfl rfl rfl rfl rfl (fun _ => r_nilCheck rfl (ev_t rfl)) ?_
          first | refine WN.calm _ rfl rfl rfl rfl rfl (fun _ => r_field0 rfl (ev_t rfl) fld_77_1) ?_ | refine WN.calm _ rfl rfl rfl rfl rfl (fun _ => r_fieldAt rfl (ev_t rfl) fld_77_1) ?_
          refine WN.held _ rfl rfl rfl rfl rfl hS1 (fun w' hS => r_load rfl (ev_t rfl) flat_23 (Blk.cell (hb.upd hS (fun h => h)) rfl)) ?_
          refine WN.step _ rfl (SO.val rfl rfl rfl rfl (r_load rfl (ev_t rfl) flat_3 (Blk.cell hb rfl)) ?_)
          refine ⟨hS1, ?_⟩
          refine WN.calm _ rfl rfl rfl rfl rfl (fun _ => r_indexAddr rfl (ev_t rfl) (ev_t rfl) elem_23 size_5 (by omega) (by omega)) ?_
          refine WN.step _ rfl (SO.val rfl rfl rfl rfl (r_load rfl (ev_t rfl) flat_5 (Blk.cell hb rfl)) ?_)
          refine ⟨hS1, ?_⟩
          refine WN.calm _ rfl rfl rfl rfl rfl (fun _ => r_gtr rfl (ev_t rfl) ev_c) ?_
          refine WN.calm _ rfl rfl rfl rfl rfl (fun _ => r_pickF rfl (ev_t rfl) (ev_t rfl)) ?_
          refine WN.calm _ rfl rfl rfl rfl rfl (fun _ => r_move rfl (ev_t rfl)) ?_
          refine WN.cases 36 rfl (fun hb1_30 => ?_) (fun hb1_30 => ?_)
          · try (exfalso; first | (simp at hb1_30; done) | (simp only [decide_eq_true_eq, decide_eq_false_iff_not, Bool.not_eq_true', Bool.not_eq_false', Bool.not_eq_true, Bool.not_eq_false] at hb1_30; omega) | omega)
            all_goals
             try simp only [decide_eq_true_eq, decide_eq_false_iff_not, Bool.not_eq_true', Bool.not_eq_false', Bool.not_eq_true, Bool.not_eq_false, Option.isNone_none, Option.isNone_some, Option.isSome_none, Option.isSome_some, ne_eq, Decidable.not_not] at hb1_30
             refine WN.skip _ rfl rfl rfl rfl ?_
             refine WN.skip _ rfl rfl rfl rfl ?_
             refine WN.skip _ rfl rfl rfl rfl ?_
             refine WN.skip _ rfl rfl rfl rfl ?_
             refine WN.skip _ rfl rfl rfl rfl ?_
             refine WN.skip _ rfl rfl rfl rfl ?_
             refine WN.skip _ rfl rfl rfl rfl ?_
             refine WN.skip _ rfl rfl rfl rfl ?_
             refine WN.skip _ rfl rfl rfl rfl ?_
             refine WN.skip _ rfl rfl rfl rfl ?_
             refine WN.skip _ rfl rfl rfl rfl ?_
             refine WN.skip _ rfl rfl rfl rfl ?_
             refine WN.heldSkip _ rfl rfl rfl rfl hS1 ?_
             refine WN.heldSkip _ rfl rfl rfl rfl hS1 ?_
             refine WN.skip _ rfl rfl rfl rfl ?_
             refine WN.heldSkip _ rfl rfl rfl rfl hS1 ?_
             refine WN.skip _ rfl rfl rfl rfl ?_
             refine WN.heldSkip _ rfl rfl rfl rfl hS1 ?_
             refine WN.skip _ rfl rfl rfl rfl ?_
             refine WN.step _ rfl (SO.skip rfl rfl rfl ?_)
             refine ⟨hS1, ?_⟩
             refine WN.skip _ rfl rfl rfl rfl ?_
             refine WN.skip _ rfl rfl rfl rfl ?_
             refine WN.calm _ rfl rfl rfl rfl rfl (fun _ => r_pickT rfl (ev_t rfl) ev_c) ?_
             refine WN.done ?_
             refine WX.keep [(0, _), (59, _)] ⟨rfl, rfl, trivial⟩ ?_
             refine WX.next ?_
             refine WC.cond_true rfl (ev_t rfl) ?_
             refine WC.seq ?_
             refine WC.region ?_
             refine WL.val rfl rfl rfl rfl (r_move rfl (ev_t rfl)) ?_
             refine WL.val rfl rfl rfl rfl (r_nilCheck rfl (ev_t rfl)) ?_
             first | refine WL.val rfl rfl rfl rfl (r_field0 rfl (ev_t rfl) fld_77_1) ?_ | refine WL.val rfl rfl rfl rfl (r_fieldAt rfl (ev_t rfl) fld_77_1) ?_
             refine WL.cons (SO.store rfl (ev_t rfl) ev_c size_3 hb rfl rfl rfl rfl rfl ?_)
             intro w4 hu4 hb hz4
             have hs4 := hu4.size
             replace hU := hU.transA hu4
             replace hr := hr.upd hu4 (by first | exact (fun _ _ _ h => h) | (intro k hk hl hS; simp only [At] at hS; subst hS; exact hFg hk))
             refine WL.nil ?_
             refine WX.keep [] trivial ?_
             refine WX.next ?_
             refine WC.seq ?_
             refine WC.region ?_
             refine WL.val rfl rfl rfl rfl (r_assign rfl ev_c) ?_
             refine WL.nil ?_
             refine WX.keep [(2, _)] ⟨rfl, trivial⟩ ?_
             refine WX.next ?_
             refine WC.ret ?_
             refine WX.thenRet ?_
             refine WX.retE1 rfl rfl ?_
             exact ⟨rfl, ⟨A, c, -1, hb, hr, rfl⟩, hU⟩
          · try (exfalso; first | (simp at hb1_30; done) | (simp only [decide_eq_true_eq, decide_eq_false_iff_not, Bool.not_eq_true', Bool.not_eq_false', Bool.not_eq_true, Bool.not_eq_false] at hb1_30; omega) | omega)
            all_goals
             try simp only [decide_eq_true_eq, decide_eq_false_iff_not, Bool.not_eq_true', Bool.not_eq_false', Bool.not_eq_true, Bool.not_eq_false, Option.isNone_none, Option.isNone_some, Option.isSome_none, Option.isSome_some, ne_eq, Decidable.not_not] at hb1_30
             refine WN.calm _ rfl rfl rfl rfl rfl (fun _ => r_move rfl (ev_t rfl)) ?_
             refine WN.calm _ rfl rfl rfl rfl rfl (fun _ => r_nilCheck rfl (ev_t rfl)) ?_
             first | refine WN.calm _ rfl rfl rfl rfl rfl (fun _ => r_field0 rfl (ev_t rfl) fld_77_0) ?_ | refine WN.calm _ rfl rfl rfl rfl rfl (fun _ => r_fieldAt rfl (ev_t rfl) fld_77_0) ?_
             refine WN.calm _ rfl rfl rfl rfl rfl (fun _ => r_move rfl (ev_t rfl)) ?_
             refine WN.calm _ rfl rfl rfl rfl rfl (fun _ => r_nilCheck rfl (ev_t rfl)) ?_
             first | refine WN.calm _ rfl rfl rfl rfl rfl (fun _ => r_field0 rfl (ev_t rfl) fld_77_1) ?_ | refine WN.calm _ rfl rfl rfl rfl rfl (fun _ => r_fieldAt rfl (ev_t rfl) fld_77_1) ?_
             refine WN.calm _ rfl rfl rfl rfl rfl (fun _ => r_move rfl (ev_t rfl)) ?_
             refine WN.calm _ rfl rfl rfl rfl rfl (fun _ => r_nilCheck rfl (ev_t rfl)) ?_
             first | refine WN.calm _ rfl rfl rfl rfl rfl (fun _ => r_field0 rfl (ev_t rfl) fld_77_0) ?_ | refine WN.calm _ rfl rfl rfl rfl rfl (fun _ => r_fieldAt rfl (ev_t rfl) fld_77_0) ?_
             refine WN.calm _ rfl rfl rfl rfl rfl (fun _ => r_move rfl (ev_t rfl)) ?_
             refine WN.calm _ rfl rfl rfl rfl rfl (fun _ => r_nilCheck rfl (ev_t rfl)) ?_
             first | refine WN.calm _ rfl rfl rfl rfl rfl (fun _ => r_field0 rfl (ev_t rfl) fld_77_1) ?_ | refine WN.calm _ rfl rfl rfl rfl rfl (fun _ => r_fieldAt rfl (ev_t rfl) fld_77_1) ?_
             refine WN.held _ rfl rfl rfl rfl rfl hS1 (fun w' hS => r_load rfl (ev_t rfl) flat_23 (Blk.cell (hb.upd hS (fun h => h)) rfl)) ?_
             refine WN.held _ rfl rfl rfl rfl rfl hS1 (fun w' hS => r_load rfl (ev_t rfl) flat_3 (Blk.cell (hb.upd hS (fun h => h)) rfl)) ?_
             refine WN.calm _ rfl rfl rfl rfl rfl (fun _ => r_indexAddr rfl (ev_t rfl) (ev_t rfl) elem_23 size_5 (by omega) (by omega)) ?_
             refine WN.held _ rfl rfl rfl rfl rfl hS1 (fun w' hS => r_load rfl (ev_t rfl) flat_5 (Blk.cell (hb.upd hS (fun h => h)) rfl)) ?_
             first | refine WN.calm _ rfl rfl rfl rfl rfl (fun _ => r_convN rfl (ev_t rfl) some_5 int_3 (by simp only [inK]; omega)) ?_ | refine WN.calm _ rfl rfl rfl rfl rfl (fun _ => r_conv rfl (ev_t rfl) some_5 int_3) ?_
             refine WN.held _ rfl rfl rfl rfl rfl hS1 (fun w' hS => r_load rfl (ev_t rfl) flat_23 (Blk.cell (hb.upd hS (fun h => h)) rfl)) ?_
             refine WN.calm _ rfl rfl rfl rfl rfl (fun _ => r_lenSlice (ts := #[]) rfl (ev_t rfl) elem_23) ?_
             refine WN.step _ rfl (SO.val rfl rfl rfl rfl (r_load rfl (ev_t rfl) flat_3 (Blk.cell hb rfl)) ?_)
             refine ⟨hS1, ?_⟩
             first | refine WN.calm _ rfl rfl rfl rfl rfl (fun _ => r_subN rfl (ev_t rfl) (ev_t rfl) (by simp only [inK]; omega)) ?_ | refine WN.calm _ rfl rfl rfl rfl rfl (fun _ => r_sub rfl (ev_t rfl) (ev_t rfl)) ?_
             refine WN.calm _ rfl rfl rfl rfl rfl (fun _ => r_geq rfl (ev_t rfl) (ev_t rfl)) ?_
             refine WN.calm _ rfl rfl rfl rfl rfl (fun _ => r_pickF rfl (ev_t rfl) (ev_t rfl)) ?_
             refine WN.done ?_
             refine WX.keep [(0, _), (59, _)] ⟨rfl, rfl, trivial⟩ ?_
             refine WX.next ?_
             refine WC.cond rfl (ev_t rfl) (fun hc1 => ?_) (fun hc1 => ?_)
             · try (exfalso; first | (simp at hc1; done) | (simp only [decide_eq_true_eq, decide_eq_false_iff_not, Bool.not_eq_true', Bool.not_eq_false', Bool.not_eq_true, Bool.not_eq_false] at hc1; omega) | omega)
               all_goals
                try simp only [decide_eq_true_eq, decide_eq_false_iff_not, Bool.not_eq_true', Bool.not_eq_false', Bool.not_eq_true, Bool.not_eq_false, Option.isNone_none, Option.isNone_some, Option.isSome_none, Option.isSome_some, ne_eq, Decidable.not_not] at hc1
                refine WC.seq ?_
                refine WC.region ?_
                refine WL.val rfl rfl rfl rfl (r_move rfl (ev_t rfl)) ?_
                refine WL.val rfl rfl rfl rfl (r_nilCheck rfl (ev_t rfl)) ?_
                first | refine WL.val rfl rfl rfl rfl (r_field0 rfl (ev_t rfl) fld_77_1) ?_ | refine WL.val rfl rfl rfl rfl (r_fieldAt rfl (ev_t rfl) fld_77_1) ?_
                refine WL.cons (SO.store rfl (ev_t rfl) ev_c size_3 hb rfl rfl rfl rfl rfl ?_)
                intro w5 hu5 hb hz5
                have hs5 := hu5.size
                replace hU := hU.transA hu5
                replace hr := hr.upd hu5 (by first | exact (fun _ _ _ h => h) | (intro k hk hl hS; simp only [At] at hS; subst hS; exact hFg hk))
                refine WL.nil ?_
                refine WX.keep [] trivial ?_
                refine WX.next ?_
                refine WC.seq ?_
                refine WC.region ?_
                refine WL.val rfl rfl rfl rfl (r_assign rfl ev_c) ?_
                refine WL.nil ?_
                refine WX.keep [(2, _)] ⟨rfl, trivial⟩ ?_
                refine WX.next ?_
                refine WC.ret ?_
                refine WX.thenRet ?_
                refine WX.retE1 rfl rfl ?_
                exact ⟨rfl, ⟨A, c, -1, hb, hr, rfl⟩, hU⟩
             · try (exfalso; first | (simp at hc1; done) | (simp only [decide_eq_true_eq, decide_eq_false_iff_not, Bool.not_eq_true', Bool.not_eq_false', Bool.not_eq_true, Bool.not_eq_false] at hc1; omega) | omega)
               all_goals
                try simp only [decide_eq_true_eq, decide_eq_false_iff_not, Bool.not_eq_true', Bool.not_eq_false', Bool.not_eq_true, Bool.not_eq_false, Option.isNone_none, Option.isNone_some, Option.isSome_none, Option.isSome_some, ne_eq, Decidable.not_not] at hc1
                refine WC.skip ?_
                refine WX.next ?_
                refine WC.seq ?_
                refine WC.region ?_
                refine WL.val rfl rfl rfl rfl (r_assign rfl ev_c) ?_
                refine WL.nil ?_
                refine WX.keep [(0, _), (3, _)] ⟨rfl, rfl, trivial⟩ ?_
                refine WX.next ?_
                refine WC.seq ?_
                refine WC.draws' (fun u0_ u1_ => Upd No u0_ u1_) (fun j => [0, 0, 0, 0, 0, 0, 0, 1, 0, 2, 0, 0].getD j 0) (.calm 0 (.calm 1 (.calm 2 (.calm 4 (.calm 5 (.calm 6 (.held 3 (.one 7 (.calm 8 (.one 9 (.calm 10 (.calm 11 (.done))))))))))))) mixed (by kernel_rfl) (by repeat (first | with_reducible exact Deaf.body | with_reducible apply Deaf.then | with_reducible apply Deaf.block)) ?_
                intro w6 hu6
                have hz6 := congrArg Array.size hu6.2.2.2
                replace hu6 := Upd.of_draw hu6
                have hs6 := hu6.size
                replace hU := hU.transA hu6
                replace hr := hr.upd hu6 (by first | exact (fun _ _ _ h => h) | (intro k hk hl hS; simp only [At] at hS; subst hS; exact hFg hk))
                replace hb := hb.updA hu6
                have hS5 := Upd.refl No w6
                refine WN.calm _ rfl rfl rfl rfl rfl (fun _ => r_move rfl (ev_t rfl)) ?_
                refine WN.calm _ rfl rfl rfl rfl rfl (fun _ => r_nilCheck rfl (ev_t rfl)) ?_
                first | refine WN.calm _ rfl rfl rfl rfl rfl (fun _ => r_field0 rfl (ev_t rfl) fld_77_0) ?_ | refine WN.calm _ rfl rfl rfl rfl rfl (fun _ => r_fieldAt rfl (ev_t rfl) fld_77_0) ?_
                refine WN.calm _ rfl rfl rfl rfl rfl (fun _ => r_move rfl (ev_t rfl)) ?_
                refine WN.calm _ rfl rfl rfl rfl rfl (fun _ => r_nilCheck rfl (ev_t rfl)) ?_
                first | refine WN.calm _ rfl rfl rfl rfl rfl (fun _ => r_field0 rfl (ev_t rfl) fld_77_1) ?_ | refine WN.calm _ rfl rfl rfl rfl rfl (fun _ => r_fieldAt rfl (ev_t rfl) fld_77_1) ?_
                refine WN.held _ rfl rfl rfl rfl rfl hS5 (fun w' hS => r_load rfl (ev_t rfl) flat_23 (Blk.cell (hb.upd hS (fun h => h)) rfl)) ?_
                refine WN.step _ rfl (SO.val rfl rfl rfl rfl (r_load rfl (ev_t rfl) flat_3 (Blk.cell hb rfl)) ?_)
                refine ⟨hS5, ?_⟩
                refine WN.calm _ rfl rfl rfl rfl rfl (fun _ => r_indexAddr rfl (ev_t rfl) (ev_t rfl) elem_23 size_5 (by omega) (by omega)) ?_
                refine WN.step _ rfl (SO.val rfl rfl rfl rfl (r_load rfl (ev_t rfl) flat_5 (Blk.cell hb rfl)) ?_)
                refine ⟨trivial, ?_⟩
                first | refine WN.calm _ rfl rfl rfl rfl rfl (fun _ => r_convN rfl (ev_t rfl) some_5 int_3 (by simp only [inK]; omega)) ?_ | refine WN.calm _ rfl rfl rfl rfl rfl (fun _ => r_conv rfl (ev_t rfl) some_5 int_3) ?_
                refine WN.calm _ rfl rfl rfl rfl rfl (fun _ => r_assign rfl (ev_t rfl)) ?_
                refine WN.done ?_
                refine WX.keep [(0, _), (3, _), (4, _)] ⟨rfl, rfl, rfl, trivial⟩ ?_
                refine WX.next ?_
                refine WC.seq ?_
                refine WC.seq ?_
                refine WC.region ?_
                refine WL.val rfl rfl rfl rfl (r_assign rfl ev_c) ?_
                refine WL.nil ?_
                refine WX.keep [(0, _), (3, _), (4, _), (5, _)] ⟨rfl, rfl, rfl, rfl, trivial⟩ ?_
                refine WX.next ?_
                refine WC.block ?_
                -- loop 1: live [0, 3, 4, 5]
                fail -- no invariant for loop 1
  | some r =>
    obtain ⟨m, rfl, hmp, rfl⟩ := hs
    refine enterRet (vs := [_]) (N := 129) Try.func36 rfl rfl rfl ?_
    have hU := Upd.refl (At g) w
    refine WC.keep [(0, _)] ⟨rfl, trivial⟩ ?_
    refine WC.seq ?_
    refine WC.region ?_
    refine WL.val rfl rfl rfl rfl (r_assign rfl ev_c) ?_
    refine WL.nil ?_
    refine WX.keep [(0, _)] ⟨rfl, trivial⟩ ?_
    refine WX.next ?_
    refine WC.seq ?_
    refine WC.seq ?_
    refine WC.draws' (fun u0_ u1_ => Upd No u0_ u1_) (fun j => [0, 0, 0, 1, 0, 0, 0, 0, 0, 0, 0, 0, 0, 1, 0, 0, 0, 0, 0, 0, 0, 0, 0, 0, 0, 1, 0, 1, 0, 0, 0, 0, 0, 0, 0, 0, 0, 0, 0, 0, 0, 0, 0, 0, 0, 0, 0, 0, 0, 0, 1, 0, 0, 0].getD j 0) (.calm 0 (.calm 1 (.calm 2 (.one 3 (.calm 4 (.calm 5 (.calm 6 (.calm 7 (.calm 8 (.calm 10 (.calm 11 (.calm 12 (.held 9 (.one 13 (.calm 14 (.calm 15 (.calm 16 (.calm 17 (.calm 18 (.calm 19 (.calm 20 (.calm 22 (.calm 23 (.calm 24 (.held 21 (.one 25 (.calm 26 (.one 27 (.calm 28 (.calm 29 (.calm 30 (.calm 31 (.calm 32 (.calm 33 (.calm 35 (.calm 36 (.calm 37 (.calm 42 (.calm 43 (.calm 44 (.calm 47 (.calm 48 (.calm 49 (.held 34 (.held 38 (.calm 39 (.held 40 (.calm 41 (.held 45 (.calm 46 (.one 50 (.calm 51 (.calm 52 (.calm 53 (.done))))))))))))))))))))))))))))))))))))))))))))))))))))))) mixed (by kernel_rfl) (by repeat (first | with_reducible exact Deaf.body | with_reducible apply Deaf.then | with_reducible apply Deaf.block)) ?_
    intro w1 hu1
    have hz1 := congrArg Array.size hu1.2.2.2
    replace hu1 := Upd.of_draw hu1
    have hs1 := hu1.size
    replace hU := hU.transA hu1
    replace hr := hr.upd hu1 (by first | exact (fun _ _ _ h => h) | (intro k hk hl hS; simp only [At] at hS; subst hS; exact hFg hk))
    replace hb := hb.updA hu1
    have hS1 := Upd.refl No w1
    refine WN.calm _ rfl rfl rfl rfl rfl (fun _ => r_move rfl (ev_t rfl)) ?_
    refine WN.calm _ rfl rfl rfl rfl rfl (fun _ => r_nilCheck rfl (ev_t rfl)) ?_
    first | refine WN.calm _ rfl rfl rfl rfl rfl (fun _ => r_field0 rfl (ev_t rfl) fld_77_1) ?_ | refine WN.calm _ rfl rfl rfl rfl rfl (fun _ => r_fieldAt rfl (ev_t rfl) fld_77_1) ?_
    refine WN.step _ rfl (SO.val rfl rfl rfl rfl (r_load rfl (ev_t rfl) flat_3 (Blk.cell hb rfl)) ?_)
    refine ⟨hS1, ?_⟩
    refine WN.calm _ rfl rfl rfl rfl rfl (fun _ => r_lss rfl (ev_t rfl) ev_c) ?_
    refine WN.calm _ rfl rfl rfl rfl rfl (fun _ => r_move rfl (ev_t rfl)) ?_
    refine WN.cases 11 rfl (fun hb1_5 => ?_) (fun hb1_5 => ?_)
    · try simp only [decide_eq_true_eq, decide_eq_false_iff_not, Bool.not_eq_true', Bool.not_eq_false', Bool.not_eq_true, Bool.not_eq_false, Option.isNone_none, Option.isNone_some, Option.isSome_none, Option.isSome_some, ne_eq, Decidable.not_not] at hb1_5
      exfalso
      omega
    · try (exfalso; first | (simp at hb1_5; done) | (simp only [decide_eq_true_eq, decide_eq_false_iff_not, Bool.not_eq_true', Bool.not_eq_false', Bool.not_eq_true, Bool.not_eq_false] at hb1_5; omega) | omega)
      all_goals
       try simp only [decide_eq_true_eq, decide_eq_false_iff_not, Bool.not_eq_true', Bool.not_eq_false', Bool.not_eq_true, Bool.not_eq_false, Option.isNone_none, Option.isNone_some, Option.isSome_none, Option.isSome_some, ne_eq, Decidable.not_not] at hb1_5
       refine WN.calm _ rfl rfl rfl rfl rfl (fun _ => r_move rfl (ev_t rfl)) ?_
       refine WN.calm _ rfl rfl rfl rfl rfl (fun _ => r_nilCheck rfl (ev_t rfl)) ?_
       first | refine WN.calm _ rfl rfl rfl rfl rfl (fun _ => r_field0 rfl (ev_t rfl) fld_77_1) ?_ | refine WN.calm _ rfl rfl rfl rfl rfl (fun _ => r_fieldAt rfl (ev_t rfl) fld_77_1) ?_
       refine WN.calm _ rfl rfl rfl rfl rfl (fun _ => r_move rfl (ev_t rfl)) ?_
       refine WN.calm _ rfl rfl rfl rfl rfl (fun _ => r_nilCheck rfl (ev_t rfl)) ?_
       first | refine WN.calm _ rfl rfl rfl rfl rfl (fun _ => r_field0 rfl (ev_t rfl) fld_77_0) ?_ | refine WN.calm _ rfl rfl rfl rfl rfl (fun _ => r_fieldAt rfl (ev_t rfl) fld_77_0) ?_
       refine WN.held _ rfl rfl rfl rfl rfl hS1 (fun w' hS => r_load rfl (ev_t rfl) flat_3 (Blk.cell (hb.upd hS (fun h => h)) rfl)) ?_
       refine WN.step _ rfl (SO.val rfl rfl rfl rfl (r_load rfl (ev_t rfl) flat_23 (Blk.cell hb rfl)) ?_)
       refine ⟨hS1, ?_⟩
       refine WN.calm _ rfl rfl rfl rfl rfl (fun _ => r_lenSlice (ts := #[]) rfl (ev_t rfl) elem_23) ?_
       refine WN.calm _ rfl rfl rfl rfl rfl (fun _ => r_geq rfl (ev_t rfl) (ev_t rfl)) ?_
       refine WN.calm _ rfl rfl rfl rfl rfl (fun _ => r_pickF rfl (ev_t rfl) (ev_t rfl)) ?_
       refine WN.calm _ rfl rfl rfl rfl rfl (fun _ => r_move rfl (ev_t rfl)) ?_
       refine WN.cases 23 rfl (fun hb1_17 => ?_) (fun hb1_17 => ?_)
       · try (exfalso; first | (simp at hb1_17; done) | (simp only [decide_eq_true_eq, decide_eq_false_iff_not, Bool.not_eq_true', Bool.not_eq_false', Bool.not_eq_true, Bool.not_eq_false] at hb1_17; omega) | omega)
         all_goals
          try simp only [decide_eq_true_eq, decide_eq_false_iff_not, Bool.not_eq_true', Bool.not_eq_false', Bool.not_eq_true, Bool.not_eq_false, Option.isNone_none, Option.isNone_some, Option.isSome_none, Option.isSome_some, ne_eq, Decidable.not_not] at hb1_17
          refine WN.skip _ rfl rfl rfl rfl ?_
          refine WN.skip _ rfl rfl rfl rfl ?_
          refine WN.skip _ rfl rfl rfl rfl ?_
          refine WN.skip _ rfl rfl rfl rfl ?_
          refine WN.skip _ rfl rfl rfl rfl ?_
          refine WN.skip _ rfl rfl rfl rfl ?_
          refine WN.heldSkip _ rfl rfl rfl rfl hS1 ?_
          refine WN.step _ rfl (SO.skip rfl rfl rfl ?_)
          refine ⟨hS1, ?_⟩
          refine WN.skip _ rfl rfl rfl rfl ?_
          refine WN.step _ rfl (SO.skip rfl rfl rfl ?_)
          refine ⟨hS1, ?_⟩
          refine WN.skip _ rfl rfl rfl rfl ?_
          refine WN.calm _ rfl rfl rfl rfl rfl (fun _ => r_pickT rfl (ev_t rfl) ev_c) ?_
          refine WN.calm _ rfl rfl rfl rfl rfl (fun _ => r_move rfl (ev_t rfl)) ?_
          refine WN.skip _ rfl rfl rfl rfl ?_
          refine WN.skip _ rfl rfl rfl rfl ?_
          refine WN.skip _ rfl rfl rfl rfl ?_
          refine WN.skip _ rfl rfl rfl rfl ?_
          refine WN.skip _ rfl rfl rfl rfl ?_
          refine WN.skip _ rfl rfl rfl rfl ?_
          refine WN.skip _ rfl rfl rfl rfl ?_
          refine WN.skip _ rfl rfl rfl rfl ?_
          refine WN.skip _ rfl rfl rfl rfl ?_
          refine WN.skip _ rfl rfl rfl rfl ?_
          refine WN.skip _ rfl rfl rfl rfl ?_
          refine WN.skip _ rfl rfl rfl rfl ?_
          refine WN.heldSkip _ rfl rfl rfl rfl hS1 ?_
          refine WN.heldSkip _ rfl rfl rfl rfl hS1 ?_
          refine WN.skip _ rfl rfl rfl rfl ?_
          refine WN.heldSkip _ rfl rfl rfl rfl hS1 ?_
          refine WN.skip _ rfl rfl rfl rfl ?_
          refine WN.heldSkip _ rfl rfl rfl rfl hS1 ?_
          refine WN.skip _ rfl rfl rfl rfl ?_
          refine WN.step _ rfl (SO.skip rfl rfl rfl ?_)
          refine ⟨hS1, ?_⟩
          refine WN.skip _ rfl rfl rfl rfl ?_
          refine WN.skip _ rfl rfl rfl rfl ?_
          refine WN.calm _ rfl rfl rfl rfl rfl (fun _ => r_pickT rfl (ev_t rfl) ev_c) ?_
          refine WN.done ?_
          refine WX.keep [(0, _), (59, _)] ⟨rfl, rfl, trivial⟩ ?_
          refine WX.next ?_
          refine WC.cond_true rfl (ev_t rfl) ?_
          refine WC.seq ?_
          refine WC.region ?_
          refine WL.val rfl rfl rfl rfl (r_move rfl (ev_t rfl)) ?_
          refine WL.val rfl rfl rfl rfl (r_nilCheck rfl (ev_t rfl)) ?_
          first | refine WL.val rfl rfl rfl rfl (r_field0 rfl (ev_t rfl) fld_77_1) ?_ | refine WL.val rfl rfl rfl rfl (r_fieldAt rfl (ev_t rfl) fld_77_1) ?_
          refine WL.cons (SO.store rfl (ev_t rfl) ev_c size_3 hb rfl rfl rfl rfl rfl ?_)
          intro w2 hu2 hb hz2
          have hs2 := hu2.size
          replace hU := hU.transA hu2
          replace hr := hr.upd hu2 (by first | exact (fun _ _ _ h => h) | (intro k hk hl hS; simp only [At] at hS; subst hS; exact hFg hk))
          refine WL.nil ?_
          refine WX.keep [] trivial ?_
          refine WX.next ?_
          refine WC.seq ?_
          refine WC.region ?_
          refine WL.val rfl rfl rfl rfl (r_assign rfl ev_c) ?_
          refine WL.nil ?_
          refine WX.keep [(2, _)] ⟨rfl, trivial⟩ ?_
          refine WX.next ?_
          refine WC.ret ?_
          refine WX.thenRet ?_
          refine WX.retE1 rfl rfl ?_
          have hd : decU (p.drop m) = none := by
            first
              | exact decU_end (by omega)
              | (rw [decU_drop (by omega), if_neg (fun h => by have := h.1; have := h.2.1; omega)])
          simp only [uintR, hd, Prod.mk.injEq] at hx
          obtain ⟨rfl, rfl⟩ := hx
          exact ⟨rfl, ⟨_, c, -1, hb, hr, rfl⟩, hU⟩
       · try (exfalso; first | (simp at hb1_17; done) | (simp only [decide_eq_true_eq, decide_eq_false_iff_not, Bool.not_eq_true', Bool.not_eq_false', Bool.not_eq_true, Bool.not_eq_false] at hb1_17; omega) | omega)
         all_goals
          try simp only [decide_eq_true_eq, decide_eq_false_iff_not, Bool.not_eq_true', Bool.not_eq_false', Bool.not_eq_true, Bool.not_eq_false, Option.isNone_none, Option.isNone_some, Option.isSome_none, Option.isSome_some, ne_eq, Decidable.not_not] at hb1_17
          have hml : m < p.length := by omega
          obtain ⟨b, off, rfl, _⟩ := hr.open (by omega)
          have hcm : (p.map U8)[m]? = some (.int .u8 (p[m].toNat : Int)) := by simp [U8, hml]
          have hb8 := p[m].toNat_lt
          refine WN.calm _ rfl rfl rfl rfl rfl (fun _ => r_move rfl (ev_t rfl)) ?_
          refine WN.calm _ rfl rfl rfl rfl rfl (fun _ => r_nilCheck rfl (ev_t rfl)) ?_
          first | refine WN.calm _ rfl rfl rfl rfl rfl (fun _ => r_field0 rfl (ev_t rfl) fld_77_0) ?_ | refine WN.calm _ rfl rfl rfl rfl rfl (fun _ => r_fieldAt rfl (ev_t rfl) fld_77_0) ?_
          refine WN.calm _ rfl rfl rfl rfl rfl (fun _ => r_move rfl (ev_t rfl)) ?_
          refine WN.calm _ rfl rfl rfl rfl rfl (fun _ => r_nilCheck rfl (ev_t rfl)) ?_
          first | refine WN.calm _ rfl rfl rfl rfl rfl (fun _ => r_field0 rfl (ev_t rfl) fld_77_1) ?_ | refine WN.calm _ rfl rfl rfl rfl rfl (fun _ => r_fieldAt rfl (ev_t rfl) fld_77_1) ?_
          refine WN.held _ rfl rfl rfl rfl rfl hS1 (fun w' hS => r_load rfl (ev_t rfl) flat_23 (Blk.cell (hb.upd hS (fun h => h)) rfl)) ?_
          refine WN.step _ rfl (SO.val rfl rfl rfl rfl (r_load rfl (ev_t rfl) flat_3 (Blk.cell hb rfl)) ?_)
          refine ⟨hS1, ?_⟩
          refine WN.calm _ rfl rfl rfl rfl rfl (fun _ => r_indexAddr rfl (ev_t rfl) (ev_t rfl) elem_23 size_5 (by omega) (by omega)) ?_
          refine WN.step _ rfl (SO.val rfl rfl rfl rfl (r_load rfl (ev_t rfl) flat_5 (hr.cell (j := m) (by omega) hcm)) ?_)
          refine ⟨hS1, ?_⟩
          refine WN.calm _ rfl rfl rfl rfl rfl (fun _ => r_gtr rfl (ev_t rfl) ev_c) ?_
          refine WN.calm _ rfl rfl rfl rfl rfl (fun _ => r_pickF rfl (ev_t rfl) (ev_t rfl)) ?_
          refine WN.calm _ rfl rfl rfl rfl rfl (fun _ => r_move rfl (ev_t rfl)) ?_
          refine WN.cases 36 rfl (fun hb1_30 => ?_) (fun hb1_30 => ?_)
          · try (exfalso; first | (simp at hb1_30; done) | (simp only [decide_eq_true_eq, decide_eq_false_iff_not, Bool.not_eq_true', Bool.not_eq_false', Bool.not_eq_true, Bool.not_eq_false] at hb1_30; omega) | omega)
            all_goals
             try simp only [decide_eq_true_eq, decide_eq_false_iff_not, Bool.not_eq_true', Bool.not_eq_false', Bool.not_eq_true, Bool.not_eq_false, Option.isNone_none, Option.isNone_some, Option.isSome_none, Option.isSome_some, ne_eq, Decidable.not_not] at hb1_30
             refine WN.skip _ rfl rfl rfl rfl ?_
             refine WN.skip _ rfl rfl rfl rfl ?_
             refine WN.skip _ rfl rfl rfl rfl ?_
             refine WN.skip _ rfl rfl rfl rfl ?_
             refine WN.skip _ rfl rfl rfl rfl ?_
             refine WN.skip _ rfl rfl rfl rfl ?_
             refine WN.skip _ rfl rfl rfl rfl ?_
             refine WN.skip _ rfl rfl rfl rfl ?_
             refine WN.skip _ rfl rfl rfl rfl ?_
             refine WN.skip _ rfl rfl rfl rfl ?_
             refine WN.skip _ rfl rfl rfl rfl ?_
             refine WN.skip _ rfl rfl rfl rfl ?_
             refine WN.heldSkip _ rfl rfl rfl rfl hS1 ?_
             refine WN.heldSkip _ rfl rfl rfl rfl hS1 ?_
             refine WN.skip _ rfl rfl rfl rfl ?_
             refine WN.heldSkip _ rfl rfl rfl rfl hS1 ?_
             refine WN.skip _ rfl rfl rfl rfl ?_
             refine WN.heldSkip _ rfl rfl rfl rfl hS1 ?_
             refine WN.skip _ rfl rfl rfl rfl ?_
             refine WN.step _ rfl (SO.skip rfl rfl rfl ?_)
             refine ⟨hS1, ?_⟩
             refine WN.skip _ rfl rfl rfl rfl ?_
             refine WN.skip _ rfl rfl rfl rfl ?_
             refine WN.calm _ rfl rfl rfl rfl rfl (fun _ => r_pickT rfl (ev_t rfl) ev_c) ?_
             refine WN.done ?_
             refine WX.keep [(0, _), (59, _)] ⟨rfl, rfl, trivial⟩ ?_
             refine WX.next ?_
             refine WC.cond_true rfl (ev_t rfl) ?_
             refine WC.seq ?_
             refine WC.region ?_
             refine WL.val rfl rfl rfl rfl (r_move rfl (ev_t rfl)) ?_
             refine WL.val rfl rfl rfl rfl (r_nilCheck rfl (ev_t rfl)) ?_
             first | refine WL.val rfl rfl rfl rfl (r_field0 rfl (ev_t rfl) fld_77_1) ?_ | refine WL.val rfl rfl rfl rfl (r_fieldAt rfl (ev_t rfl) fld_77_1) ?_
             refine WL.cons (SO.store rfl (ev_t rfl) ev_c size_3 hb rfl rfl rfl rfl rfl ?_)
             intro w3 hu3 hb hz3
             have hs3 := hu3.size
             replace hU := hU.transA hu3
             replace hr := hr.upd hu3 (by first | exact (fun _ _ _ h => h) | (intro k hk hl hS; simp only [At] at hS; subst hS; exact hFg hk))
             refine WL.nil ?_
             refine WX.keep [] trivial ?_
             refine WX.next ?_
             refine WC.seq ?_
             refine WC.region ?_
             refine WL.val rfl rfl rfl rfl (r_assign rfl ev_c) ?_
             refine WL.nil ?_
             refine WX.keep [(2, _)] ⟨rfl, trivial⟩ ?_
             refine WX.next ?_
             refine WC.ret ?_
             refine WX.thenRet ?_
             refine WX.retE1 rfl rfl ?_
             have hd : decU (p.drop m) = none := by
               first
                 | exact decU_end (by omega)
                 | (rw [decU_drop (by omega), if_neg (fun h => by have := h.1; have := h.2.1; omega)])
             simp only [uintR, hd, Prod.mk.injEq] at hx
             obtain ⟨rfl, rfl⟩ := hx
             exact ⟨rfl, ⟨_, c, -1, hb, hr, rfl⟩, hU⟩
          · try (exfalso; first | (simp at hb1_30; done) | (simp only [decide_eq_true_eq, decide_eq_false_iff_not, Bool.not_eq_true', Bool.not_eq_false', Bool.not_eq_true, Bool.not_eq_false] at hb1_30; omega) | omega)
            all_goals
             try simp only [decide_eq_true_eq, decide_eq_false_iff_not, Bool.not_eq_true', Bool.not_eq_false', Bool.not_eq_true, Bool.not_eq_false, Option.isNone_none, Option.isNone_some, Option.isSome_none, Option.isSome_some, ne_eq, Decidable.not_not] at hb1_30
             refine WN.calm _ rfl rfl rfl rfl rfl (fun _ => r_move rfl (ev_t rfl)) ?_
             refine WN.calm _ rfl rfl rfl rfl rfl (fun _ => r_nilCheck rfl (ev_t rfl)) ?_
             first | refine WN.calm _ rfl rfl rfl rfl rfl (fun _ => r_field0 rfl (ev_t rfl) fld_77_0) ?_ | refine WN.calm _ rfl rfl rfl rfl rfl (fun _ => r_fieldAt rfl (ev_t rfl) fld_77_0) ?_
             refine WN.calm _ rfl rfl rfl rfl rfl (fun _ => r_move rfl (ev_t rfl)) ?_
             refine WN.calm _ rfl rfl rfl rfl rfl (fun _ => r_nilCheck rfl (ev_t rfl)) ?_
             first | refine WN.calm _ rfl rfl rfl rfl rfl (fun _ => r_field0 rfl (ev_t rfl) fld_77_1) ?_ | refine WN.calm _ rfl rfl rfl rfl rfl (fun _ => r_fieldAt rfl (ev_t rfl) fld_77_1) ?_
             refine WN.calm _ rfl rfl rfl rfl rfl (fun _ => r_move rfl (ev_t rfl)) ?_
             refine WN.calm _ rfl rfl rfl rfl rfl (fun _ => r_nilCheck rfl (ev_t rfl)) ?_
             first | refine WN.calm _ rfl rfl rfl rfl rfl (fun _ => r_field0 rfl (ev_t rfl) fld_77_0) ?_ | refine WN.calm _ rfl rfl rfl rfl rfl (fun _ => r_fieldAt rfl (ev_t rfl) fld_77_0) ?_
             refine WN.calm _ rfl rfl rfl rfl rfl (fun _ => r_move rfl (ev_t rfl)) ?_
             refine WN.calm _ rfl rfl rfl rfl rfl (fun _ => r_nilCheck rfl (ev_t rfl)) ?_
             first | refine WN.calm _ rfl rfl rfl rfl rfl (fun _ => r_field0 rfl (ev_t rfl) fld_77_1) ?_ | refine WN.calm _ rfl rfl rfl rfl rfl (fun _ => r_fieldAt rfl (ev_t rfl) fld_77_1) ?_
             refine WN.held _ rfl rfl rfl rfl rfl hS1 (fun w' hS => r_load rfl (ev_t rfl) flat_23 (Blk.cell (hb.upd hS (fun h => h)) rfl)) ?_
             refine WN.held _ rfl rfl rfl rfl rfl hS1 (fun w' hS => r_load rfl (ev_t rfl) flat_3 (Blk.cell (hb.upd hS (fun h => h)) rfl)) ?_
             refine WN.calm _ rfl rfl rfl rfl rfl (fun _ => r_indexAddr rfl (ev_t rfl) (ev_t rfl) elem_23 size_5 (by omega) (by omega)) ?_
             refine WN.held _ rfl rfl rfl rfl rfl hS1 (fun w' hS => r_load rfl (ev_t rfl) flat_5 ((hr.upd hS (fun _ _ _ h => h)).cell (j := m) (by omega) hcm)) ?_
             first | refine WN.calm _ rfl rfl rfl rfl rfl (fun _ => r_convN rfl (ev_t rfl) some_5 int_3 (by simp only [inK]; omega)) ?_ | refine WN.calm _ rfl rfl rfl rfl rfl (fun _ => r_conv rfl (ev_t rfl) some_5 int_3) ?_
             refine WN.held _ rfl rfl rfl rfl rfl hS1 (fun w' hS => r_load rfl (ev_t rfl) flat_23 (Blk.cell (hb.upd hS (fun h => h)) rfl)) ?_
             refine WN.calm _ rfl rfl rfl rfl rfl (fun _ => r_lenSlice (ts := #[]) rfl (ev_t rfl) elem_23) ?_
             refine WN.step _ rfl (SO.val rfl rfl rfl rfl (r_load rfl (ev_t rfl) flat_3 (Blk.cell hb rfl)) ?_)
             refine ⟨hS1, ?_⟩
             first | refine WN.calm _ rfl rfl rfl rfl rfl (fun _ => r_subN rfl (ev_t rfl) (ev_t rfl) (by simp only [inK]; omega)) ?_ | refine WN.calm _ rfl rfl rfl rfl rfl (fun _ => r_sub rfl (ev_t rfl) (ev_t rfl)) ?_
             refine WN.calm _ rfl rfl rfl rfl rfl (fun _ => r_geq rfl (ev_t rfl) (ev_t rfl)) ?_
             refine WN.calm _ rfl rfl rfl rfl rfl (fun _ => r_pickF rfl (ev_t rfl) (ev_t rfl)) ?_
             refine WN.done ?_
             refine WX.keep [(0, _), (59, _)] ⟨rfl, rfl, trivial⟩ ?_
             refine WX.next ?_
             refine WC.cond rfl (ev_t rfl) (fun hc1 => ?_) (fun hc1 => ?_)
             · try (exfalso; first | (simp at hc1; done) | (simp only [decide_eq_true_eq, decide_eq_false_iff_not, Bool.not_eq_true', Bool.not_eq_false', Bool.not_eq_true, Bool.not_eq_false] at hc1; omega) | omega)
               all_goals
                try simp only [decide_eq_true_eq, decide_eq_false_iff_not, Bool.not_eq_true', Bool.not_eq_false', Bool.not_eq_true, Bool.not_eq_false, Option.isNone_none, Option.isNone_some, Option.isSome_none, Option.isSome_some, ne_eq, Decidable.not_not] at hc1
                refine WC.seq ?_
                refine WC.region ?_
                refine WL.val rfl rfl rfl rfl (r_move rfl (ev_t rfl)) ?_
                refine WL.val rfl rfl rfl rfl (r_nilCheck rfl (ev_t rfl)) ?_
                first | refine WL.val rfl rfl rfl rfl (r_field0 rfl (ev_t rfl) fld_77_1) ?_ | refine WL.val rfl rfl rfl rfl (r_fieldAt rfl (ev_t rfl) fld_77_1) ?_
                refine WL.cons (SO.store rfl (ev_t rfl) ev_c size_3 hb rfl rfl rfl rfl rfl ?_)
                intro w4 hu4 hb hz4
                have hs4 := hu4.size
                replace hU := hU.transA hu4
                replace hr := hr.upd hu4 (by first | exact (fun _ _ _ h => h) | (intro k hk hl hS; simp only [At] at hS; subst hS; exact hFg hk))
                refine WL.nil ?_
                refine WX.keep [] trivial ?_
                refine WX.next ?_
                refine WC.seq ?_
                refine WC.region ?_
                refine WL.val rfl rfl rfl rfl (r_assign rfl ev_c) ?_
                refine WL.nil ?_
                refine WX.keep [(2, _)] ⟨rfl, trivial⟩ ?_
                refine WX.next ?_
                refine WC.ret ?_
                refine WX.thenRet ?_
                refine WX.retE1 rfl rfl ?_
                have hd : decU (p.drop m) = none := by
                  first
                    | exact decU_end (by omega)
                    | (rw [decU_drop (by omega), if_neg (fun h => by have := h.1; have := h.2.1; omega)])
                simp only [uintR, hd, Prod.mk.injEq] at hx
                obtain ⟨rfl, rfl⟩ := hx
                exact ⟨rfl, ⟨_, c, -1, hb, hr, rfl⟩, hU⟩
             · try (exfalso; first | (simp at hc1; done) | (simp only [decide_eq_true_eq, decide_eq_false_iff_not, Bool.not_eq_true', Bool.not_eq_false', Bool.not_eq_true, Bool.not_eq_false] at hc1; omega) | omega)
               all_goals
                try simp only [decide_eq_true_eq, decide_eq_false_iff_not, Bool.not_eq_true', Bool.not_eq_false', Bool.not_eq_true, Bool.not_eq_false, Option.isNone_none, Option.isNone_some, Option.isSome_none, Option.isSome_some, ne_eq, Decidable.not_not] at hc1
                obtain ⟨k, hk⟩ : ∃ k, p[m].toNat = k := ⟨_, rfl⟩
                rw [hk] at hcm
                have hk8 : k ≤ 8 := by omega
                have hkl : k ≤ p.length - (m + 1) := by omega
                have hql : (p.drop (m + 1)).length = p.length - (m + 1) := List.length_drop
                refine WC.skip ?_
                refine WX.next ?_
                refine WC.seq ?_
                refine WC.region ?_
                refine WL.val rfl rfl rfl rfl (r_assign rfl ev_c) ?_
                refine WL.nil ?_
                refine WX.keep [(0, _), (3, _)] ⟨rfl, rfl, trivial⟩ ?_
                refine WX.next ?_
                refine WC.seq ?_
                refine WC.draws' (fun u0_ u1_ => Upd No u0_ u1_) (fun j => [0, 0, 0, 0, 0, 0, 0, 1, 0, 2, 0, 0].getD j 0) (.calm 0 (.calm 1 (.calm 2 (.calm 4 (.calm 5 (.calm 6 (.held 3 (.one 7 (.calm 8 (.one 9 (.calm 10 (.calm 11 (.done))))))))))))) mixed (by kernel_rfl) (by repeat (first | with_reducible exact Deaf.body | with_reducible apply Deaf.then | with_reducible apply Deaf.block)) ?_
                intro w5 hu5
                have hz5 := congrArg Array.size hu5.2.2.2
                replace hu5 := Upd.of_draw hu5
                have hs5 := hu5.size
                replace hU := hU.transA hu5
                replace hr := hr.upd hu5 (by first | exact (fun _ _ _ h => h) | (intro k hk hl hS; simp only [At] at hS; subst hS; exact hFg hk))
                replace hb := hb.updA hu5
                have hS5 := Upd.refl No w5
                refine WN.calm _ rfl rfl rfl rfl rfl (fun _ => r_move rfl (ev_t rfl)) ?_
                refine WN.calm _ rfl rfl rfl rfl rfl (fun _ => r_nilCheck rfl (ev_t rfl)) ?_
                first | refine WN.calm _ rfl rfl rfl rfl rfl (fun _ => r_field0 rfl (ev_t rfl) fld_77_0) ?_ | refine WN.calm _ rfl rfl rfl rfl rfl (fun _ => r_fieldAt rfl (ev_t rfl) fld_77_0) ?_
                refine WN.calm _ rfl rfl rfl rfl rfl (fun _ => r_move rfl (ev_t rfl)) ?_
                refine WN.calm _ rfl rfl rfl rfl rfl (fun _ => r_nilCheck rfl (ev_t rfl)) ?_
                first | refine WN.calm _ rfl rfl rfl rfl rfl (fun _ => r_field0 rfl (ev_t rfl) fld_77_1) ?_ | refine WN.calm _ rfl rfl rfl rfl rfl (fun _ => r_fieldAt rfl (ev_t rfl) fld_77_1) ?_
                refine WN.held _ rfl rfl rfl rfl rfl hS5 (fun w' hS => r_load rfl (ev_t rfl) flat_23 (Blk.cell (hb.upd hS (fun h => h)) rfl)) ?_
                refine WN.step _ rfl (SO.val rfl rfl rfl rfl (r_load rfl (ev_t rfl) flat_3 (Blk.cell hb rfl)) ?_)
                refine ⟨hS5, ?_⟩
                refine WN.calm _ rfl rfl rfl rfl rfl (fun _ => r_indexAddr rfl (ev_t rfl) (ev_t rfl) elem_23 size_5 (by omega) (by omega)) ?_
                refine WN.step _ rfl (SO.val rfl rfl rfl rfl (r_load rfl (ev_t rfl) flat_5 (hr.cell (j := m) (by omega) hcm)) ?_)
                refine ⟨trivial, ?_⟩
                first | refine WN.calm _ rfl rfl rfl rfl rfl (fun _ => r_convN rfl (ev_t rfl) some_5 int_3 (by simp only [inK]; omega)) ?_ | refine WN.calm _ rfl rfl rfl rfl rfl (fun _ => r_conv rfl (ev_t rfl) some_5 int_3) ?_
                refine WN.calm _ rfl rfl rfl rfl rfl (fun _ => r_assign rfl (ev_t rfl)) ?_
                refine WN.done ?_
                refine WX.keep [(0, _), (3, _), (4, _)] ⟨rfl, rfl, rfl, trivial⟩ ?_
                refine WX.next ?_
                refine WC.seq ?_
                refine WC.seq ?_
                refine WC.region ?_
                refine WL.val rfl rfl rfl rfl (r_assign rfl ev_c) ?_
                refine WL.nil ?_
                refine WX.keep [(0, _), (3, _), (4, _), (5, _)] ⟨rfl, rfl, rfl, rfl, trivial⟩ ?_
                refine WX.next ?_
                refine WC.block ?_
                -- loop 1: live [0, 3, 4, 5]
                refine WC.keep [(0, _), (3, _), (4, _), (5, _)] ⟨rfl, rfl, rfl, rfl, trivial⟩ ?_
                refine WC.loop (fun q E w' => ∃ i : Nat, i ≤ k ∧ q = k - i ∧ Upd (At g) w w' ∧ Blk w' g #[.slice (some ⟨b, off, none⟩) p.length c, .int .i64 (m : Int)] 77 ∧ Rd w' F (.slice (some ⟨b, off, none⟩) p.length c) p.length 1 (p.map U8) ∧   E = [(0, .pointer (some ⟨g, 0, none⟩)), (3, .int .u64 (beN ((p.drop (m + 1)).take i) : Nat)), (4, .int .i64 (k : Int)), (5, .int .i64 ((i : Int) + 1))]) (k) ?_ ?_
                · exact ⟨0, by omega, by omega, hU, hb, hr, rfl⟩
                · rintro q E w' ⟨i, hi, rfl, hU, hb, hr, rfl⟩
                  have hs0 := hU.size
                  refine WC.seq ?_
                  refine WC.seq ?_
                  refine WC.region ?_
                  refine WL.val rfl rfl rfl rfl (r_move rfl (ev_t rfl)) ?_
                  refine WL.val rfl rfl rfl rfl (r_move rfl (ev_t rfl)) ?_
                  refine WL.val rfl rfl rfl rfl (r_leq rfl (ev_t rfl) (ev_t rfl)) ?_
                  refine WL.nil ?_
                  refine WX.keep [(0, _), (3, _), (4, _), (5, _), (76, _)] ⟨rfl, rfl, rfl, rfl, rfl, trivial⟩ ?_
                  refine WX.next ?_
                  refine WC.cond rfl (ev_t rfl) (fun hc7 => ?_) (fun hc7 => ?_)
                  · try (exfalso; first | (simp at hc7; done) | (simp only [decide_eq_true_eq, decide_eq_false_iff_not, Bool.not_eq_true', Bool.not_eq_false', Bool.not_eq_true, Bool.not_eq_false] at hc7; omega) | omega)
                    all_goals
                     try simp only [decide_eq_true_eq, decide_eq_false_iff_not, Bool.not_eq_true', Bool.not_eq_false', Bool.not_eq_true, Bool.not_eq_false, Option.isNone_none, Option.isNone_some, Option.isSome_none, Option.isSome_some, ne_eq, Decidable.not_not] at hc7
                     have hi' : m + 1 + i < p.length := by omega
                     have hci : (p.map U8)[m + 1 + i]? = some (.int .u8 (p[m + 1 + i].toNat : Int)) := by simp [U8, hi']
                     have hlt8 := beN_take_lt (p.drop (m + 1)) i (by omega)
                     have hbi := p[m + 1 + i].toNat_lt
                     refine WC.skip ?_
                     refine WX.next ?_
                     refine WC.seq ?_
                     refine WC.block ?_
                     refine WC.draws' (fun u0_ u1_ => Upd No u0_ u1_) (fun j => [0, 0, 0, 0, 0, 0, 0, 0, 0, 1, 0, 0, 0, 2, 0, 0, 0].getD j 0) (.calm 0 (.calm 1 (.calm 2 (.calm 3 (.calm 4 (.calm 6 (.calm 7 (.calm 8 (.calm 10 (.held 5 (.one 9 (.calm 11 (.calm 12 (.one 13 (.calm 14 (.calm 15 (.calm 16 (.done)))))))))))))))))) mixed (by kernel_rfl) (by repeat (first | with_reducible exact Deaf.body | with_reducible apply Deaf.then | with_reducible apply Deaf.block)) ?_
                     intro w6 hu6
                     have hz6 := congrArg Array.size hu6.2.2.2
                     replace hu6 := Upd.of_draw hu6
                     have hs6 := hu6.size
                     replace hU := hU.transA hu6
                     replace hr := hr.upd hu6 (by first | exact (fun _ _ _ h => h) | (intro k hk hl hS; simp only [At] at hS; subst hS; exact hFg hk))
                     replace hb := hb.updA hu6
                     have hS9 := Upd.refl No w6
                     refine WN.calm _ rfl rfl rfl rfl rfl (fun _ => r_move rfl (ev_t rfl)) ?_
                     first | refine WN.calm _ rfl rfl rfl rfl rfl (fun _ => r_mulN rfl (ev_t rfl) ev_c (by simp only [inK]; omega)) ?_ | refine WN.calm _ rfl rfl rfl rfl rfl (fun _ => r_mul rfl (ev_t rfl) ev_c) ?_
                     refine WN.calm _ rfl rfl rfl rfl rfl (fun _ => r_move rfl (ev_t rfl)) ?_
                     refine WN.calm _ rfl rfl rfl rfl rfl (fun _ => r_nilCheck rfl (ev_t rfl)) ?_
                     first | refine WN.calm _ rfl rfl rfl rfl rfl (fun _ => r_field0 rfl (ev_t rfl) fld_77_0) ?_ | refine WN.calm _ rfl rfl rfl rfl rfl (fun _ => r_fieldAt rfl (ev_t rfl) fld_77_0) ?_
                     refine WN.calm _ rfl rfl rfl rfl rfl (fun _ => r_move rfl (ev_t rfl)) ?_
                     refine WN.calm _ rfl rfl rfl rfl rfl (fun _ => r_nilCheck rfl (ev_t rfl)) ?_
                     first | refine WN.calm _ rfl rfl rfl rfl rfl (fun _ => r_field0 rfl (ev_t rfl) fld_77_1) ?_ | refine WN.calm _ rfl rfl rfl rfl rfl (fun _ => r_fieldAt rfl (ev_t rfl) fld_77_1) ?_
                     refine WN.calm _ rfl rfl rfl rfl rfl (fun _ => r_move rfl (ev_t rfl)) ?_
                     refine WN.held _ rfl rfl rfl rfl rfl hS9 (fun w' hS => r_load rfl (ev_t rfl) flat_23 (Blk.cell (hb.upd hS (fun h => h)) rfl)) ?_
                     refine WN.step _ rfl (SO.val rfl rfl rfl rfl (r_load rfl (ev_t rfl) flat_3 (Blk.cell hb rfl)) ?_)
                     refine ⟨hS9, ?_⟩
                     first | refine WN.calm _ rfl rfl rfl rfl rfl (fun _ => r_addN rfl (ev_t rfl) (ev_t rfl) (by simp only [inK]; omega)) ?_ | refine WN.calm _ rfl rfl rfl rfl rfl (fun _ => r_add rfl (ev_t rfl) (ev_t rfl)) ?_
                     refine WN.calm _ rfl rfl rfl rfl rfl (fun _ => r_indexAddr rfl (ev_t rfl) (ev_t rfl) elem_23 size_5 (by omega) (by omega)) ?_
                     refine WN.step _ rfl (SO.val rfl rfl rfl rfl (r_load rfl (ev_t rfl) flat_5 (hr.cell (j := m + 1 + i) (by omega) hci)) ?_)
                     refine ⟨trivial, ?_⟩
                     first | refine WN.calm _ rfl rfl rfl rfl rfl (fun _ => r_convN rfl (ev_t rfl) some_5 int_27 (by simp only [inK]; omega)) ?_ | refine WN.calm _ rfl rfl rfl rfl rfl (fun _ => r_conv rfl (ev_t rfl) some_5 int_27) ?_
                     first | refine WN.calm _ rfl rfl rfl rfl rfl (fun _ => r_addN rfl (ev_t rfl) (ev_t rfl) (by simp only [inK]; omega)) ?_ | refine WN.calm _ rfl rfl rfl rfl rfl (fun _ => r_add rfl (ev_t rfl) (ev_t rfl)) ?_
                     refine WN.calm _ rfl rfl rfl rfl rfl (fun _ => r_assign rfl (ev_t rfl)) ?_
                     refine WN.done ?_
                     refine WX.keep [(0, _), (3, _), (4, _), (5, _)] ⟨rfl, rfl, rfl, rfl, trivial⟩ ?_
                     refine WX.blockNormal ?_
                     refine WX.next ?_
                     refine WC.region ?_
                     refine WL.val rfl rfl rfl rfl (r_move rfl (ev_t rfl)) ?_
                     first | refine WL.val rfl rfl rfl rfl (r_addN rfl (ev_t rfl) ev_c (by simp only [inK]; omega)) ?_ | refine WL.val rfl rfl rfl rfl (r_add rfl (ev_t rfl) ev_c) ?_
                     refine WL.val rfl rfl rfl rfl (r_assign rfl (ev_t rfl)) ?_
                     refine WL.nil ?_
                     refine WX.keep [(0, _), (3, _), (4, _), (5, _)] ⟨rfl, rfl, rfl, rfl, trivial⟩ ?_
                     refine WX.meet [(0, _), (3, _), (4, _), (5, _)] ⟨rfl, rfl, rfl, rfl, trivial⟩ ?_
                     have hbs : beN ((p.drop (m + 1)).take (i + 1)) = beN ((p.drop (m + 1)).take i) * 256 + p[m + 1 + i].toNat := by rw [beN_take_succ _ _ (by omega), List.getElem_drop]
                     refine ⟨k - (i + 1), by omega, i + 1, by omega, rfl, hU, hb, hr, ?_⟩
                     rw [hbs, Int.natCast_add, Int.natCast_mul]
                     rfl
                  · try (exfalso; first | (simp at hc7; done) | (simp only [decide_eq_true_eq, decide_eq_false_iff_not, Bool.not_eq_true', Bool.not_eq_false', Bool.not_eq_true, Bool.not_eq_false] at hc7; omega) | omega)
                    all_goals
                     try simp only [decide_eq_true_eq, decide_eq_false_iff_not, Bool.not_eq_true', Bool.not_eq_false', Bool.not_eq_true, Bool.not_eq_false, Option.isNone_none, Option.isNone_some, Option.isSome_none, Option.isSome_some, ne_eq, Decidable.not_not] at hc7
                     obtain rfl : i = k := by omega
                     have hn64 := beN_take_lt8 (p.drop (m + 1)) hk8
                     have lu := encU_length (beN ((p.drop (m + 1)).take i))
                     have lb : blen (beN ((p.drop (m + 1)).take i)) ≤ 8 := blen_le (by simpa using hn64)
                     refine WC.exit ?_
                     refine WX.thenExit ?_
                     refine WX.thenExit ?_
                     refine WX.blockHere ?_
                     refine WX.next ?_
                     refine WC.seq ?_
                     refine WC.seq ?_
                     refine WC.draws' (fun u0_ u1_ => Upd No u0_ u1_) (fun j => [0, 1, 1, 0, 0, 0, 0, 0, 0, 0, 0, 0, 0, 0, 0, 0, 0, 0, 0, 2, 0].getD j 0) (.calm 0 (.calm 3 (.calm 4 (.calm 5 (.calm 7 (.calm 8 (.calm 9 (.calm 11 (.calm 12 (.calm 13 (.calm 15 (.held 6 (.held 10 (.held 14 (.calm 16 (.calm 17 (.calm 18 (.two 1 19 (.two 2 19 (.one 19 (.calm 20 (.done))) (.one 2 (.calm 20 (.done)))) (.one 1 (.one 2 (.calm 20 (.done)))))))))))))))))))))) mixed (by kernel_rfl) (by repeat (first | with_reducible exact Deaf.body | with_reducible apply Deaf.then | with_reducible apply Deaf.block)) ?_
                     intro w7 hu7
                     have hz7 := congrArg Array.size hu7.2.2.2
                     replace hu7 := Upd.of_draw hu7
                     have hs7 := hu7.size
                     replace hU := hU.transA hu7
                     replace hr := hr.upd hu7 (by first | exact (fun _ _ _ h => h) | (intro k hk hl hS; simp only [At] at hS; subst hS; exact hFg hk))
                     replace hb := hb.updA hu7
                     have hS10 := Upd.refl No w7
                     refine WN.calm _ rfl rfl rfl rfl rfl (fun _ => r_move rfl (ev_t rfl)) ?_
                     refine WN.calm _ rfl rfl rfl rfl rfl (fun _ => r_move rfl (ev_t rfl)) ?_
                     refine WN.calm _ rfl rfl rfl rfl rfl (fun _ => r_nilCheck rfl (ev_t rfl)) ?_
                     first | refine WN.calm _ rfl rfl rfl rfl rfl (fun _ => r_field0 rfl (ev_t rfl) fld_77_0) ?_ | refine WN.calm _ rfl rfl rfl rfl rfl (fun _ => r_fieldAt rfl (ev_t rfl) fld_77_0) ?_
                     refine WN.calm _ rfl rfl rfl rfl rfl (fun _ => r_move rfl (ev_t rfl)) ?_
                     refine WN.calm _ rfl rfl rfl rfl rfl (fun _ => r_nilCheck rfl (ev_t rfl)) ?_
                     first | refine WN.calm _ rfl rfl rfl rfl rfl (fun _ => r_field0 rfl (ev_t rfl) fld_77_1) ?_ | refine WN.calm _ rfl rfl rfl rfl rfl (fun _ => r_fieldAt rfl (ev_t rfl) fld_77_1) ?_
                     refine WN.calm _ rfl rfl rfl rfl rfl (fun _ => r_move rfl (ev_t rfl)) ?_
                     refine WN.calm _ rfl rfl rfl rfl rfl (fun _ => r_nilCheck rfl (ev_t rfl)) ?_
                     first | refine WN.calm _ rfl rfl rfl rfl rfl (fun _ => r_field0 rfl (ev_t rfl) fld_77_1) ?_ | refine WN.calm _ rfl rfl rfl rfl rfl (fun _ => r_fieldAt rfl (ev_t rfl) fld_77_1) ?_
                     refine WN.calm _ rfl rfl rfl rfl rfl (fun _ => r_move rfl (ev_t rfl)) ?_
                     refine WN.held _ rfl rfl rfl rfl rfl hS10 (fun w' hS => r_load rfl (ev_t rfl) flat_23 (Blk.cell (hb.upd hS (fun h => h)) rfl)) ?_
                     refine WN.held _ rfl rfl rfl rfl rfl hS10 (fun w' hS => r_load rfl (ev_t rfl) flat_3 (Blk.cell (hb.upd hS (fun h => h)) rfl)) ?_
                     refine WN.held _ rfl rfl rfl rfl rfl hS10 (fun w' hS => r_load rfl (ev_t rfl) flat_3 (Blk.cell (hb.upd hS (fun h => h)) rfl)) ?_
                     first | refine WN.calm _ rfl rfl rfl rfl rfl (fun _ => r_addN rfl (ev_t rfl) (ev_t rfl) (by simp only [inK]; omega)) ?_ | refine WN.calm _ rfl rfl rfl rfl rfl (fun _ => r_add rfl (ev_t rfl) (ev_t rfl)) ?_
                     first | refine WN.calm _ rfl rfl rfl rfl rfl (fun _ => r_addN rfl (ev_t rfl) ev_c (by simp only [inK]; omega)) ?_ | refine WN.calm _ rfl rfl rfl rfl rfl (fun _ => r_add rfl (ev_t rfl) ev_c) ?_
                     refine WN.calm _ rfl rfl rfl rfl rfl (fun _ => r_slice (l := m) (h := m + i + 1) rfl (ev_t rfl) elem_23 size_5 (bnd_some (ev_t rfl) (by omega)) (bnd_some (ev_t rfl) (by omega)) (by omega) (by omega) (by omega)) ?_
                     refine WN.fork _ _ rfl rfl ?_ ?_
                     · refine SO.call (refUint_ok hn64) rfl body_33 ⟨(ev_t rfl), trivial⟩ rfl rfl rfl rfl ?_
                       rintro v1 w8 ⟨ho1, hu8⟩
                       have hs8 := hu8.size
                       replace hS10 := Upd.transA hS10 hu8
                       replace hU := hU.transA hu8
                       replace hr := hr.upd hu8 (by first | exact (fun _ _ _ h => h) | (intro k hk hl hS; simp only [At] at hS; subst hS; exact hFg hk))
                       replace hb := hb.updA hu8
                       obtain ⟨A1, c1, rfl, hc1'⟩ := Own.form ho1
                       refine ⟨hS10, ?_⟩
                       refine WN.fork _ _ rfl rfl ?_ ?_
                       · refine SO.val rfl rfl rfl rfl (r_toStr rfl (ev_t rfl) (ho1.rd (by omega)) elem_23 int_5 str_9) ?_
                         refine ⟨hS10, ?_⟩
                         refine WN.step _ rfl (SO.val rfl rfl rfl rfl (r_toStr rfl (ev_t rfl) (hr.sliceB (lo := m) (h := m + i + 1) (by omega) (by omega)) elem_23 int_5 str_9) ?_)
                         refine ⟨trivial, ?_⟩
                         refine WN.calm _ rfl rfl rfl rfl rfl (fun _ => r_neqStr rfl (ev_t rfl) (ev_t rfl)) ?_
                         refine WN.done ?_
                         refine WX.keep [(0, _), (3, _), (4, _), (115, _)] ⟨rfl, rfl, rfl, rfl, trivial⟩ ?_
                         refine WX.next ?_
                         refine WC.cond rfl (ev_t rfl) (fun hc10 => ?_) (fun hc10 => ?_)
                         · try (exfalso; first | (simp at hc10; done) | (simp only [decide_eq_true_eq, decide_eq_false_iff_not, Bool.not_eq_true', Bool.not_eq_false', Bool.not_eq_true, Bool.not_eq_false] at hc10; omega) | omega)
                           all_goals
                            try simp only [decide_eq_true_eq, decide_eq_false_iff_not, Bool.not_eq_true', Bool.not_eq_false', Bool.not_eq_true, Bool.not_eq_false, Option.isNone_none, Option.isNone_some, Option.isSome_none, Option.isSome_some, ne_eq, Decidable.not_not] at hc10
                            rw [mk_toList, mk_toList, show m + i + 1 - m = i + 1 by omega] at hc10
                            subst hk
                            have hen := enc_slice hml hk8 hkl
                            refine WC.seq ?_
                            refine WC.region ?_
                            refine WL.val rfl rfl rfl rfl (r_move rfl (ev_t rfl)) ?_
                            refine WL.val rfl rfl rfl rfl (r_nilCheck rfl (ev_t rfl)) ?_
                            first | refine WL.val rfl rfl rfl rfl (r_field0 rfl (ev_t rfl) fld_77_1) ?_ | refine WL.val rfl rfl rfl rfl (r_fieldAt rfl (ev_t rfl) fld_77_1) ?_
                            refine WL.cons (SO.store rfl (ev_t rfl) ev_c size_3 hb rfl rfl rfl rfl rfl ?_)
                            intro w9 hu9 hb hz9
                            have hs9 := hu9.size
                            replace hU := hU.transA hu9
                            replace hr := hr.upd hu9 (by first | exact (fun _ _ _ h => h) | (intro k hk hl hS; simp only [At] at hS; subst hS; exact hFg hk))
                            replace ho1 := ho1.updA hu9
                            refine WL.nil ?_
                            refine WX.keep [] trivial ?_
                            refine WX.next ?_
                            refine WC.seq ?_
                            refine WC.region ?_
                            refine WL.val rfl rfl rfl rfl (r_assign rfl ev_c) ?_
                            refine WL.nil ?_
                            refine WX.keep [(2, _)] ⟨rfl, trivial⟩ ?_
                            refine WX.next ?_
                            refine WC.ret ?_
                            refine WX.thenRet ?_
                            refine WX.retE1 rfl rfl ?_
                            have hd : decU (p.drop m) = none := by rw [decU_drop hml, if_neg (fun h => hc10 (hen.2 h.2.2))]
                            simp only [uintR, hd, Prod.mk.injEq] at hx
                            obtain ⟨rfl, rfl⟩ := hx
                            exact ⟨rfl, ⟨_, c, -1, hb, hr, rfl⟩, hU⟩
                         · try (exfalso; first | (simp at hc10; done) | (simp only [decide_eq_true_eq, decide_eq_false_iff_not, Bool.not_eq_true', Bool.not_eq_false', Bool.not_eq_true, Bool.not_eq_false] at hc10; omega) | omega)
                           all_goals
                            try simp only [decide_eq_true_eq, decide_eq_false_iff_not, Bool.not_eq_true', Bool.not_eq_false', Bool.not_eq_true, Bool.not_eq_false, Option.isNone_none, Option.isNone_some, Option.isSome_none, Option.isSome_some, ne_eq, Decidable.not_not] at hc10
                            rw [mk_toList, mk_toList, show m + i + 1 - m = i + 1 by omega] at hc10
                            subst hk
                            have hen := enc_slice hml hk8 hkl
                            refine WC.skip ?_
                            refine WX.next ?_
                            refine WC.seq ?_
                            refine WC.region ?_
                            refine WL.val rfl rfl rfl rfl (r_move rfl (ev_t rfl)) ?_
                            refine WL.val rfl rfl rfl rfl (r_nilCheck rfl (ev_t rfl)) ?_
                            first | refine WL.val rfl rfl rfl rfl (r_field0 rfl (ev_t rfl) fld_77_1) ?_ | refine WL.val rfl rfl rfl rfl (r_fieldAt rfl (ev_t rfl) fld_77_1) ?_
                            refine WL.val rfl rfl rfl rfl (r_load rfl (ev_t rfl) flat_3 (Blk.cell hb rfl)) ?_
                            refine WL.val rfl rfl rfl rfl (r_move rfl (ev_t rfl)) ?_
                            first | refine WL.val rfl rfl rfl rfl (r_addN rfl (ev_t rfl) ev_c (by simp only [inK]; omega)) ?_ | refine WL.val rfl rfl rfl rfl (r_add rfl (ev_t rfl) ev_c) ?_
                            first | refine WL.val rfl rfl rfl rfl (r_addN rfl (ev_t rfl) (ev_t rfl) (by simp only [inK]; omega)) ?_ | refine WL.val rfl rfl rfl rfl (r_add rfl (ev_t rfl) (ev_t rfl)) ?_
                            refine WL.val rfl rfl rfl rfl (r_nilCheck rfl (ev_t rfl)) ?_
                            first | refine WL.val rfl rfl rfl rfl (r_field0 rfl (ev_t rfl) fld_77_1) ?_ | refine WL.val rfl rfl rfl rfl (r_fieldAt rfl (ev_t rfl) fld_77_1) ?_
                            refine WL.cons (SO.store rfl (ev_t rfl) (ev_t rfl) size_3 hb rfl rfl rfl rfl rfl ?_)
                            intro w10 hu10 hb hz10
                            have hs10 := hu10.size
                            replace hU := hU.transA hu10
                            replace hr := hr.upd hu10 (by first | exact (fun _ _ _ h => h) | (intro k hk hl hS; simp only [At] at hS; subst hS; exact hFg hk))
                            replace ho1 := ho1.updA hu10
                            refine WL.nil ?_
                            refine WX.keep [(3, _)] ⟨rfl, trivial⟩ ?_
                            refine WX.next ?_
                            refine WC.seq ?_
                            refine WC.region ?_
                            refine WL.val rfl rfl rfl rfl (r_move rfl (ev_t rfl)) ?_
                            refine WL.val rfl rfl rfl rfl (r_assign rfl (ev_t rfl)) ?_
                            refine WL.nil ?_
                            refine WX.keep [(2, _)] ⟨rfl, trivial⟩ ?_
                            refine WX.next ?_
                            refine WC.ret ?_
                            refine WX.retE1 rfl rfl ?_
                            have hd : decU (p.drop m) = some (beN ((p.drop (m + 1)).take p[m].toNat), p.drop (m + 1 + p[m].toNat)) := by rw [decU_drop hml, if_pos ⟨hk8, hkl, hen.1 hc10⟩]
                            simp only [uintR, hd, Prod.mk.injEq] at hx
                            obtain ⟨rfl, rfl⟩ := hx
                            exact ⟨rfl, ⟨_, c, _, hb, hr, m + 1 + p[m].toNat, by push_cast; omega, by omega, rfl⟩, hU⟩
                       · refine SO.val rfl rfl rfl rfl (r_toStr rfl (ev_t rfl) (hr.sliceB (lo := m) (h := m + i + 1) (by omega) (by omega)) elem_23 int_5 str_9) ?_
                         refine ⟨trivial, ?_⟩
                         refine WN.step _ rfl (SO.val rfl rfl rfl rfl (r_toStr rfl (ev_t rfl) (ho1.rd (by omega)) elem_23 int_5 str_9) ?_)
                         refine ⟨hS10, ?_⟩
                         refine WN.calm _ rfl rfl rfl rfl rfl (fun _ => r_neqStr rfl (ev_t rfl) (ev_t rfl)) ?_
                         refine WN.done ?_
                         refine WX.keep [(0, _), (3, _), (4, _), (115, _)] ⟨rfl, rfl, rfl, rfl, trivial⟩ ?_
                         refine WX.next ?_
                         refine WC.cond rfl (ev_t rfl) (fun hc10 => ?_) (fun hc10 => ?_)
                         · try (exfalso; first | (simp at hc10; done) | (simp only [decide_eq_true_eq, decide_eq_false_iff_not, Bool.not_eq_true', Bool.not_eq_false', Bool.not_eq_true, Bool.not_eq_false] at hc10; omega) | omega)
                           all_goals
                            try simp only [decide_eq_true_eq, decide_eq_false_iff_not, Bool.not_eq_true', Bool.not_eq_false', Bool.not_eq_true, Bool.not_eq_false, Option.isNone_none, Option.isNone_some, Option.isSome_none, Option.isSome_some, ne_eq, Decidable.not_not] at hc10
                            rw [mk_toList, mk_toList, show m + i + 1 - m = i + 1 by omega] at hc10
                            subst hk
                            have hen := enc_slice hml hk8 hkl
                            refine WC.seq ?_
                            refine WC.region ?_
                            refine WL.val rfl rfl rfl rfl (r_move rfl (ev_t rfl)) ?_
                            refine WL.val rfl rfl rfl rfl (r_nilCheck rfl (ev_t rfl)) ?_
                            first | refine WL.val rfl rfl rfl rfl (r_field0 rfl (ev_t rfl) fld_77_1) ?_ | refine WL.val rfl rfl rfl rfl (r_fieldAt rfl (ev_t rfl) fld_77_1) ?_
                            refine WL.cons (SO.store rfl (ev_t rfl) ev_c size_3 hb rfl rfl rfl rfl rfl ?_)
                            intro w11 hu11 hb hz11
                            have hs11 := hu11.size
                            replace hU := hU.transA hu11
                            replace hr := hr.upd hu11 (by first | exact (fun _ _ _ h => h) | (intro k hk hl hS; simp only [At] at hS; subst hS; exact hFg hk))
                            replace ho1 := ho1.updA hu11
                            refine WL.nil ?_
                            refine WX.keep [] trivial ?_
                            refine WX.next ?_
                            refine WC.seq ?_
                            refine WC.region ?_
                            refine WL.val rfl rfl rfl rfl (r_assign rfl ev_c) ?_
                            refine WL.nil ?_
                            refine WX.keep [(2, _)] ⟨rfl, trivial⟩ ?_
                            refine WX.next ?_
                            refine WC.ret ?_
                            refine WX.thenRet ?_
                            refine WX.retE1 rfl rfl ?_
                            have hd : decU (p.drop m) = none := by rw [decU_drop hml, if_neg (fun h => hc10 (hen.2 h.2.2))]
                            simp only [uintR, hd, Prod.mk.injEq] at hx
                            obtain ⟨rfl, rfl⟩ := hx
                            exact ⟨rfl, ⟨_, c, -1, hb, hr, rfl⟩, hU⟩
                         · try (exfalso; first | (simp at hc10; done) | (simp only [decide_eq_true_eq, decide_eq_false_iff_not, Bool.not_eq_true', Bool.not_eq_false', Bool.not_eq_true, Bool.not_eq_false] at hc10; omega) | omega)
                           all_goals
                            try simp only [decide_eq_true_eq, decide_eq_false_iff_not, Bool.not_eq_true', Bool.not_eq_false', Bool.not_eq_true, Bool.not_eq_false, Option.isNone_none, Option.isNone_some, Option.isSome_none, Option.isSome_some, ne_eq, Decidable.not_not] at hc10
                            rw [mk_toList, mk_toList, show m + i + 1 - m = i + 1 by omega] at hc10
                            subst hk
                            have hen := enc_slice hml hk8 hkl
                            refine WC.skip ?_
                            refine WX.next ?_
                            refine WC.seq ?_
                            refine WC.region ?_
                            refine WL.val rfl rfl rfl rfl (r_move rfl (ev_t rfl)) ?_
                            refine WL.val rfl rfl rfl rfl (r_nilCheck rfl (ev_t rfl)) ?_
                            first | refine WL.val rfl rfl rfl rfl (r_field0 rfl (ev_t rfl) fld_77_1) ?_ | refine WL.val rfl rfl rfl rfl (r_fieldAt rfl (ev_t rfl) fld_77_1) ?_
                            refine WL.val rfl rfl rfl rfl (r_load rfl (ev_t rfl) flat_3 (Blk.cell hb rfl)) ?_
                            refine WL.val rfl rfl rfl rfl (r_move rfl (ev_t rfl)) ?_
                            first | refine WL.val rfl rfl rfl rfl (r_addN rfl (ev_t rfl) ev_c (by simp only [inK]; omega)) ?_ | refine WL.val rfl rfl rfl rfl (r_add rfl (ev_t rfl) ev_c) ?_
                            first | refine WL.val rfl rfl rfl rfl (r_addN rfl (ev_t rfl) (ev_t rfl) (by simp only [inK]; omega)) ?_ | refine WL.val rfl rfl rfl rfl (r_add rfl (ev_t rfl) (ev_t rfl)) ?_
                            refine WL.val rfl rfl rfl rfl (r_nilCheck rfl (ev_t rfl)) ?_
                            first | refine WL.val rfl rfl rfl rfl (r_field0 rfl (ev_t rfl) fld_77_1) ?_ | refine WL.val rfl rfl rfl rfl (r_fieldAt rfl (ev_t rfl) fld_77_1) ?_
                            refine WL.cons (SO.store rfl (ev_t rfl) (ev_t rfl) size_3 hb rfl rfl rfl rfl rfl ?_)
                            intro w12 hu12 hb hz12
                            have hs12 := hu12.size
                            replace hU := hU.transA hu12
                            replace hr := hr.upd hu12 (by first | exact (fun _ _ _ h => h) | (intro k hk hl hS; simp only [At] at hS; subst hS; exact hFg hk))
                            replace ho1 := ho1.updA hu12
                            refine WL.nil ?_
                            refine WX.keep [(3, _)] ⟨rfl, trivial⟩ ?_
                            refine WX.next ?_
                            refine WC.seq ?_
                            refine WC.region ?_
                            refine WL.val rfl rfl rfl rfl (r_move rfl (ev_t rfl)) ?_
                            refine WL.val rfl rfl rfl rfl (r_assign rfl (ev_t rfl)) ?_
                            refine WL.nil ?_
                            refine WX.keep [(2, _)] ⟨rfl, trivial⟩ ?_
                            refine WX.next ?_
                            refine WC.ret ?_
                            refine WX.retE1 rfl rfl ?_
                            have hd : decU (p.drop m) = some (beN ((p.drop (m + 1)).take p[m].toNat), p.drop (m + 1 + p[m].toNat)) := by rw [decU_drop hml, if_pos ⟨hk8, hkl, hen.1 hc10⟩]
                            simp only [uintR, hd, Prod.mk.injEq] at hx
                            obtain ⟨rfl, rfl⟩ := hx
                            exact ⟨rfl, ⟨_, c, _, hb, hr, m + 1 + p[m].toNat, by push_cast; omega, by omega, rfl⟩, hU⟩
                     · refine SO.val rfl rfl rfl rfl (r_toStr rfl (ev_t rfl) (hr.sliceB (lo := m) (h := m + i + 1) (by omega) (by omega)) elem_23 int_5 str_9) ?_
                       refine ⟨trivial, ?_⟩
                       refine WN.step _ rfl (SO.call (refUint_ok hn64) rfl body_33 ⟨(ev_t rfl), trivial⟩ rfl rfl rfl rfl ?_)
                       rintro v1 w13 ⟨ho1, hu13⟩
                       have hs13 := hu13.size
                       replace hS10 := Upd.transA hS10 hu13
                       replace hU := hU.transA hu13
                       replace hr := hr.upd hu13 (by first | exact (fun _ _ _ h => h) | (intro k hk hl hS; simp only [At] at hS; subst hS; exact hFg hk))
                       replace hb := hb.updA hu13
                       obtain ⟨A1, c1, rfl, hc1'⟩ := Own.form ho1
                       refine ⟨hS10, ?_⟩
                       refine WN.step _ rfl (SO.val rfl rfl rfl rfl (r_toStr rfl (ev_t rfl) (ho1.rd (by omega)) elem_23 int_5 str_9) ?_)
                       refine ⟨hS10, ?_⟩
                       refine WN.calm _ rfl rfl rfl rfl rfl (fun _ => r_neqStr rfl (ev_t rfl) (ev_t rfl)) ?_
                       refine WN.done ?_
                       refine WX.keep [(0, _), (3, _), (4, _), (115, _)] ⟨rfl, rfl, rfl, rfl, trivial⟩ ?_
                       refine WX.next ?_
                       refine WC.cond rfl (ev_t rfl) (fun hc10 => ?_) (fun hc10 => ?_)
                       · try (exfalso; first | (simp at hc10; done) | (simp only [decide_eq_true_eq, decide_eq_false_iff_not, Bool.not_eq_true', Bool.not_eq_false', Bool.not_eq_true, Bool.not_eq_false] at hc10; omega) | omega)
                         all_goals
                          try simp only [decide_eq_true_eq, decide_eq_false_iff_not, Bool.not_eq_true', Bool.not_eq_false', Bool.not_eq_true, Bool.not_eq_false, Option.isNone_none, Option.isNone_some, Option.isSome_none, Option.isSome_some, ne_eq, Decidable.not_not] at hc10
                          rw [mk_toList, mk_toList, show m + i + 1 - m = i + 1 by omega] at hc10
                          subst hk
                          have hen := enc_slice hml hk8 hkl
                          refine WC.seq ?_
                          refine WC.region ?_
                          refine WL.val rfl rfl rfl rfl (r_move rfl (ev_t rfl)) ?_
                          refine WL.val rfl rfl rfl rfl (r_nilCheck rfl (ev_t rfl)) ?_
                          first | refine WL.val rfl rfl rfl rfl (r_field0 rfl (ev_t rfl) fld_77_1) ?_ | refine WL.val rfl rfl rfl rfl (r_fieldAt rfl (ev_t rfl) fld_77_1) ?_
                          refine WL.cons (SO.store rfl (ev_t rfl) ev_c size_3 hb rfl rfl rfl rfl rfl ?_)
                          intro w14 hu14 hb hz14
                          have hs14 := hu14.size
                          replace hU := hU.transA hu14
                          replace hr := hr.upd hu14 (by first | exact (fun _ _ _ h => h) | (intro k hk hl hS; simp only [At] at hS; subst hS; exact hFg hk))
                          replace ho1 := ho1.updA hu14
                          refine WL.nil ?_
                          refine WX.keep [] trivial ?_
                          refine WX.next ?_
                          refine WC.seq ?_
                          refine WC.region ?_
                          refine WL.val rfl rfl rfl rfl (r_assign rfl ev_c) ?_
                          refine WL.nil ?_
                          refine WX.keep [(2, _)] ⟨rfl, trivial⟩ ?_
                          refine WX.next ?_
                          refine WC.ret ?_
                          refine WX.thenRet ?_
                          refine WX.retE1 rfl rfl ?_
                          have hd : decU (p.drop m) = none := by rw [decU_drop hml, if_neg (fun h => hc10 (hen.2 h.2.2))]
                          simp only [uintR, hd, Prod.mk.injEq] at hx
                          obtain ⟨rfl, rfl⟩ := hx
                          exact ⟨rfl, ⟨_, c, -1, hb, hr, rfl⟩, hU⟩
                       · try (exfalso; first | (simp at hc10; done) | (simp only [decide_eq_true_eq, decide_eq_false_iff_not, Bool.not_eq_true', Bool.not_eq_false', Bool.not_eq_true, Bool.not_eq_false] at hc10; omega) | omega)
                         all_goals
                          try simp only [decide_eq_true_eq, decide_eq_false_iff_not, Bool.not_eq_true', Bool.not_eq_false', Bool.not_eq_true, Bool.not_eq_false, Option.isNone_none, Option.isNone_some, Option.isSome_none, Option.isSome_some, ne_eq, Decidable.not_not] at hc10
                          rw [mk_toList, mk_toList, show m + i + 1 - m = i + 1 by omega] at hc10
                          subst hk
                          have hen := enc_slice hml hk8 hkl
                          refine WC.skip ?_
                          refine WX.next ?_
                          refine WC.seq ?_
                          refine WC.region ?_
                          refine WL.val rfl rfl rfl rfl (r_move rfl (ev_t rfl)) ?_
                          refine WL.val rfl rfl rfl rfl (r_nilCheck rfl (ev_t rfl)) ?_
                          first | refine WL.val rfl rfl rfl rfl (r_field0 rfl (ev_t rfl) fld_77_1) ?_ | refine WL.val rfl rfl rfl rfl (r_fieldAt rfl (ev_t rfl) fld_77_1) ?_
                          refine WL.val rfl rfl rfl rfl (r_load rfl (ev_t rfl) flat_3 (Blk.cell hb rfl)) ?_
                          refine WL.val rfl rfl rfl rfl (r_move rfl (ev_t rfl)) ?_
                          first | refine WL.val rfl rfl rfl rfl (r_addN rfl (ev_t rfl) ev_c (by simp only [inK]; omega)) ?_ | refine WL.val rfl rfl rfl rfl (r_add rfl (ev_t rfl) ev_c) ?_
                          first | refine WL.val rfl rfl rfl rfl (r_addN rfl (ev_t rfl) (ev_t rfl) (by simp only [inK]; omega)) ?_ | refine WL.val rfl rfl rfl rfl (r_add rfl (ev_t rfl) (ev_t rfl)) ?_
                          refine WL.val rfl rfl rfl rfl (r_nilCheck rfl (ev_t rfl)) ?_
                          first | refine WL.val rfl rfl rfl rfl (r_field0 rfl (ev_t rfl) fld_77_1) ?_ | refine WL.val rfl rfl rfl rfl (r_fieldAt rfl (ev_t rfl) fld_77_1) ?_
                          refine WL.cons (SO.store rfl (ev_t rfl) (ev_t rfl) size_3 hb rfl rfl rfl rfl rfl ?_)
                          intro w15 hu15 hb hz15
                          have hs15 := hu15.size
                          replace hU := hU.transA hu15
                          replace hr := hr.upd hu15 (by first | exact (fun _ _ _ h => h) | (intro k hk hl hS; simp only [At] at hS; subst hS; exact hFg hk))
                          replace ho1 := ho1.updA hu15
                          refine WL.nil ?_
                          refine WX.keep [(3, _)] ⟨rfl, trivial⟩ ?_
                          refine WX.next ?_
                          refine WC.seq ?_
                          refine WC.region ?_
                          refine WL.val rfl rfl rfl rfl (r_move rfl (ev_t rfl)) ?_
                          refine WL.val rfl rfl rfl rfl (r_assign rfl (ev_t rfl)) ?_
                          refine WL.nil ?_
                          refine WX.keep [(2, _)] ⟨rfl, trivial⟩ ?_
                          refine WX.next ?_
                          refine WC.ret ?_
                          refine WX.retE1 rfl rfl ?_
                          have hd : decU (p.drop m) = some (beN ((p.drop (m + 1)).take p[m].toNat), p.drop (m + 1 + p[m].toNat)) := by rw [decU_drop hml, if_pos ⟨hk8, hkl, hen.1 hc10⟩]
                          simp only [uintR, hd, Prod.mk.injEq] at hx
                          obtain ⟨rfl, rfl⟩ := hx
                          exact ⟨rfl, ⟨_, c, _, hb, hr, m + 1 + p[m].toNat, by push_cast; omega, by omega, rfl⟩, hU⟩
end Go.Proofs.Ytipabhbnljadfaa
