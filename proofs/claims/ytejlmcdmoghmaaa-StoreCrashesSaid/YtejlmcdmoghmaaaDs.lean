/-
  The drum's methods: New, On, Ops, Tracks, Most, Arm, Append, Read, Write, Sync.
-/
import Derived.Test.YtejlmcdmoghmaaaDr
namespace Go.Proofs.Ytejlmcdmoghmaaa
open Go
set_option linter.unusedSimpArgs false
set_option linter.unusedVariables false

def trkV0 : TrkV := ⟨.slice none 0 0, .slice none 0 0, false, fun _ => False, fun _ => False⟩
def DS.new (n : Nat) (most : Int) : DS := { l := List.replicate n ⟨[], [], false⟩, most := most, ops := 0, armed := 0, off := false }
theorem trkC_new : ∀ n, trkC (List.replicate n trkV0) = (List.replicate n [Value.slice none 0 0, .slice none 0 0, .bool false]).flatten
  | 0 => rfl
  | n + 1 => by rw [List.replicate_succ, List.replicate_succ, trkC_cons, List.flatten_cons, trkC_new n]; rfl

/-- the row's cells -/
theorem row_get {w : World} {g i q : Nat} {l : List TrkV} {t : TrkV} {T : TypeId} (h : Blk w g (trkC l).toArray T) (ht : l[i]? = some t) :
    (q = i * 3 → w.cell? ⟨g, q, none⟩ = some t.sv) ∧ (q = i * 3 + 1 → w.cell? ⟨g, q, none⟩ = some t.nv) ∧ (q = i * 3 + 2 → w.cell? ⟨g, q, none⟩ = some (.bool t.fr)) := by
  have h1 := trkC_get ht
  exact ⟨fun e => by subst e; exact h.cell (by simpa using h1.1), fun e => by subst e; exact h.cell (by simpa using h1.2.1), fun e => by subst e; exact h.cell (by simpa using h1.2.2)⟩
theorem row_set {w : World} {g i q : Nat} {l : List TrkV} {t : TrkV} {T : TypeId} (ht : l[i]? = some t) :
    (∀ v, q = i * 3 → Blk w g ((trkC l).toArray.setIfInBounds q v) T → Blk w g (trkC (l.set i { t with sv := v })).toArray T) ∧
    (∀ v, q = i * 3 + 1 → Blk w g ((trkC l).toArray.setIfInBounds q v) T → Blk w g (trkC (l.set i { t with nv := v })).toArray T) ∧
    (∀ b, q = i * 3 + 2 → Blk w g ((trkC l).toArray.setIfInBounds q (.bool b)) T → Blk w g (trkC (l.set i { t with fr := b })).toArray T) := by
  have h1 := trkC_set ht
  refine ⟨fun v e h => ?_, fun v e h => ?_, fun v e h => ?_⟩ <;> subst e
  · rw [← h1.1 v]; simpa using h
  · rw [← h1.2.1 v]; simpa using h
  · rw [← h1.2.2 v]; simpa using h
theorem trkC_size (l : List TrkV) : (trkC l).toArray.size = l.length * 3 := by rw [List.size_toArray, trkC_length]

theorem Dnew_bad {w : World} {n most : Int} (h : n < 1 ∨ 8 < n ∨ most < 1 ∨ 1048576 < most) :
    Ret Try.prog 15 #[.int .i64 n, .int .i64 most] w fun v' w' => v' = .tuple #[.pointer none, .int .i64 1] ∧ w = w' := by
  refine enterRet (vs := [_, _]) (N := 25) Try.func15 rfl rfl rfl ?_
  refine WC.keep [(0, _), (1, _)] ⟨rfl, rfl, trivial⟩ ?_
  refine WC.seq ?_
  refine WC.region ?_
  refine WL.val rfl rfl rfl rfl (r_assign rfl ev_c) ?_
  refine WL.val rfl rfl rfl rfl (r_assign rfl ev_c) ?_
  refine WL.nil ?_
  refine WX.keep [(0, _), (1, _)] ⟨rfl, rfl, trivial⟩ ?_
  refine WX.next ?_
  refine WC.seq ?_
  refine WC.seq ?_
  refine WC.region ?_
  refine WL.val rfl rfl rfl rfl (r_move rfl (ev_t rfl)) ?_
  refine WL.val rfl rfl rfl rfl (r_lss rfl (ev_t rfl) ev_c) ?_
  refine WL.val rfl rfl rfl rfl (r_move rfl (ev_t rfl)) ?_
  refine WL.cases 8 rfl (fun hb1_2 => ?_) (fun hb1_2 => ?_)
  · try (exfalso; first | (simp at hb1_2; done) | (simp only [decide_eq_true_eq, decide_eq_false_iff_not, Bool.not_eq_true', Bool.not_eq_false', Bool.not_eq_true, Bool.not_eq_false] at hb1_2; omega) | omega)
    all_goals
     try simp only [decide_eq_true_eq, decide_eq_false_iff_not, Bool.not_eq_true', Bool.not_eq_false', Bool.not_eq_true, Bool.not_eq_false, Option.isNone_none, Option.isNone_some, Option.isSome_none, Option.isSome_some, ne_eq, Decidable.not_not] at hb1_2
     refine WL.skip rfl rfl rfl ?_
     refine WL.skip rfl rfl rfl ?_
     refine WL.val rfl rfl rfl rfl (r_pickT rfl (ev_t rfl) ev_c) ?_
     refine WL.val rfl rfl rfl rfl (r_move rfl (ev_t rfl)) ?_
     refine WL.skip rfl rfl rfl ?_
     refine WL.skip rfl rfl rfl ?_
     refine WL.val rfl rfl rfl rfl (r_pickT rfl (ev_t rfl) ev_c) ?_
     refine WL.val rfl rfl rfl rfl (r_move rfl (ev_t rfl)) ?_
     refine WL.skip rfl rfl rfl ?_
     refine WL.skip rfl rfl rfl ?_
     refine WL.val rfl rfl rfl rfl (r_pickT rfl (ev_t rfl) ev_c) ?_
     refine WL.nil ?_
     refine WX.keep [(0, _), (1, _), (19, _)] ⟨rfl, rfl, rfl, trivial⟩ ?_
     refine WX.next ?_
     refine WC.cond_true rfl (ev_t rfl) ?_
     refine WC.seq ?_
     refine WC.region ?_
     refine WL.val rfl rfl rfl rfl (r_assign rfl ev_c) ?_
     refine WL.val rfl rfl rfl rfl (r_assign rfl ev_c) ?_
     refine WL.nil ?_
     refine WX.keep [(4, _), (5, _)] ⟨rfl, rfl, trivial⟩ ?_
     refine WX.next ?_
     refine WC.ret ?_
     refine WX.thenRet ?_
     refine WX.retE2 rfl rfl rfl ?_
     exact ⟨rfl, rfl⟩
  · try (exfalso; first | (simp at hb1_2; done) | (simp only [decide_eq_true_eq, decide_eq_false_iff_not, Bool.not_eq_true', Bool.not_eq_false', Bool.not_eq_true, Bool.not_eq_false] at hb1_2; omega) | omega)
    all_goals
     try simp only [decide_eq_true_eq, decide_eq_false_iff_not, Bool.not_eq_true', Bool.not_eq_false', Bool.not_eq_true, Bool.not_eq_false, Option.isNone_none, Option.isNone_some, Option.isSome_none, Option.isSome_some, ne_eq, Decidable.not_not] at hb1_2
     skip
     refine WL.val rfl rfl rfl rfl (r_move rfl (ev_t rfl)) ?_
     refine WL.val rfl rfl rfl rfl (r_gtr rfl (ev_t rfl) ev_c) ?_
     refine WL.val rfl rfl rfl rfl (r_pickF rfl (ev_t rfl) (ev_t rfl)) ?_
     refine WL.val rfl rfl rfl rfl (r_move rfl (ev_t rfl)) ?_
     refine WL.cases 12 rfl (fun hb1_6 => ?_) (fun hb1_6 => ?_)
     · try (exfalso; first | (simp at hb1_6; done) | (simp only [decide_eq_true_eq, decide_eq_false_iff_not, Bool.not_eq_true', Bool.not_eq_false', Bool.not_eq_true, Bool.not_eq_false] at hb1_6; omega) | omega)
       all_goals
        try simp only [decide_eq_true_eq, decide_eq_false_iff_not, Bool.not_eq_true', Bool.not_eq_false', Bool.not_eq_true, Bool.not_eq_false, Option.isNone_none, Option.isNone_some, Option.isSome_none, Option.isSome_some, ne_eq, Decidable.not_not] at hb1_6
        refine WL.skip rfl rfl rfl ?_
        refine WL.skip rfl rfl rfl ?_
        refine WL.val rfl rfl rfl rfl (r_pickT rfl (ev_t rfl) ev_c) ?_
        refine WL.val rfl rfl rfl rfl (r_move rfl (ev_t rfl)) ?_
        refine WL.skip rfl rfl rfl ?_
        refine WL.skip rfl rfl rfl ?_
        refine WL.val rfl rfl rfl rfl (r_pickT rfl (ev_t rfl) ev_c) ?_
        refine WL.nil ?_
        refine WX.keep [(0, _), (1, _), (19, _)] ⟨rfl, rfl, rfl, trivial⟩ ?_
        refine WX.next ?_
        refine WC.cond_true rfl (ev_t rfl) ?_
        refine WC.seq ?_
        refine WC.region ?_
        refine WL.val rfl rfl rfl rfl (r_assign rfl ev_c) ?_
        refine WL.val rfl rfl rfl rfl (r_assign rfl ev_c) ?_
        refine WL.nil ?_
        refine WX.keep [(4, _), (5, _)] ⟨rfl, rfl, trivial⟩ ?_
        refine WX.next ?_
        refine WC.ret ?_
        refine WX.thenRet ?_
        refine WX.retE2 rfl rfl rfl ?_
        exact ⟨rfl, rfl⟩
     · try (exfalso; first | (simp at hb1_6; done) | (simp only [decide_eq_true_eq, decide_eq_false_iff_not, Bool.not_eq_true', Bool.not_eq_false', Bool.not_eq_true, Bool.not_eq_false] at hb1_6; omega) | omega)
       all_goals
        try simp only [decide_eq_true_eq, decide_eq_false_iff_not, Bool.not_eq_true', Bool.not_eq_false', Bool.not_eq_true, Bool.not_eq_false, Option.isNone_none, Option.isNone_some, Option.isSome_none, Option.isSome_some, ne_eq, Decidable.not_not] at hb1_6
        refine WL.val rfl rfl rfl rfl (r_move rfl (ev_t rfl)) ?_
        refine WL.val rfl rfl rfl rfl (r_lss rfl (ev_t rfl) ev_c) ?_
        refine WL.val rfl rfl rfl rfl (r_pickF rfl (ev_t rfl) (ev_t rfl)) ?_
        refine WL.val rfl rfl rfl rfl (r_move rfl (ev_t rfl)) ?_
        refine WL.cases 16 rfl (fun hb1_10 => ?_) (fun hb1_10 => ?_)
        · try (exfalso; first | (simp at hb1_10; done) | (simp only [decide_eq_true_eq, decide_eq_false_iff_not, Bool.not_eq_true', Bool.not_eq_false', Bool.not_eq_true, Bool.not_eq_false] at hb1_10; omega) | omega)
          all_goals
           try simp only [decide_eq_true_eq, decide_eq_false_iff_not, Bool.not_eq_true', Bool.not_eq_false', Bool.not_eq_true, Bool.not_eq_false, Option.isNone_none, Option.isNone_some, Option.isSome_none, Option.isSome_some, ne_eq, Decidable.not_not] at hb1_10
           refine WL.skip rfl rfl rfl ?_
           refine WL.skip rfl rfl rfl ?_
           refine WL.val rfl rfl rfl rfl (r_pickT rfl (ev_t rfl) ev_c) ?_
           refine WL.nil ?_
           refine WX.keep [(0, _), (1, _), (19, _)] ⟨rfl, rfl, rfl, trivial⟩ ?_
           refine WX.next ?_
           refine WC.cond_true rfl (ev_t rfl) ?_
           refine WC.seq ?_
           refine WC.region ?_
           refine WL.val rfl rfl rfl rfl (r_assign rfl ev_c) ?_
           refine WL.val rfl rfl rfl rfl (r_assign rfl ev_c) ?_
           refine WL.nil ?_
           refine WX.keep [(4, _), (5, _)] ⟨rfl, rfl, trivial⟩ ?_
           refine WX.next ?_
           refine WC.ret ?_
           refine WX.thenRet ?_
           refine WX.retE2 rfl rfl rfl ?_
           exact ⟨rfl, rfl⟩
        · try (exfalso; first | (simp at hb1_10; done) | (simp only [decide_eq_true_eq, decide_eq_false_iff_not, Bool.not_eq_true', Bool.not_eq_false', Bool.not_eq_true, Bool.not_eq_false] at hb1_10; omega) | omega)
          all_goals
           try simp only [decide_eq_true_eq, decide_eq_false_iff_not, Bool.not_eq_true', Bool.not_eq_false', Bool.not_eq_true, Bool.not_eq_false, Option.isNone_none, Option.isNone_some, Option.isSome_none, Option.isSome_some, ne_eq, Decidable.not_not] at hb1_10
           refine WL.val rfl rfl rfl rfl (r_move rfl (ev_t rfl)) ?_
           refine WL.val rfl rfl rfl rfl (r_gtr rfl (ev_t rfl) ev_c) ?_
           refine WL.val rfl rfl rfl rfl (r_pickF rfl (ev_t rfl) (ev_t rfl)) ?_
           refine WL.nil ?_
           refine WX.keep [(0, _), (1, _), (19, _)] ⟨rfl, rfl, rfl, trivial⟩ ?_
           refine WX.next ?_
           refine WC.cond rfl (ev_t rfl) (fun hc1 => ?_) (fun hc1 => ?_)
           · try (exfalso; first | (simp at hc1; done) | (simp only [decide_eq_true_eq, decide_eq_false_iff_not, Bool.not_eq_true', Bool.not_eq_false', Bool.not_eq_true, Bool.not_eq_false] at hc1; omega) | omega)
             all_goals
              try simp only [decide_eq_true_eq, decide_eq_false_iff_not, Bool.not_eq_true', Bool.not_eq_false', Bool.not_eq_true, Bool.not_eq_false, Option.isNone_none, Option.isNone_some, Option.isSome_none, Option.isSome_some, ne_eq, Decidable.not_not] at hc1
              refine WC.seq ?_
              refine WC.region ?_
              refine WL.val rfl rfl rfl rfl (r_assign rfl ev_c) ?_
              refine WL.val rfl rfl rfl rfl (r_assign rfl ev_c) ?_
              refine WL.nil ?_
              refine WX.keep [(4, _), (5, _)] ⟨rfl, rfl, trivial⟩ ?_
              refine WX.next ?_
              refine WC.ret ?_
              refine WX.thenRet ?_
              refine WX.retE2 rfl rfl rfl ?_
              exact ⟨rfl, rfl⟩
           · try simp only [decide_eq_true_eq, decide_eq_false_iff_not, Bool.not_eq_true', Bool.not_eq_false', Bool.not_eq_true, Bool.not_eq_false, Option.isNone_none, Option.isNone_some, Option.isSome_none, Option.isSome_some, ne_eq, Decidable.not_not] at hc1
             exfalso
             omega

theorem Dnew_ok {w : World} {n : Nat} {most : Int} (h1 : 1 ≤ n ∧ n ≤ 8) (h2 : 1 ≤ most ∧ most ≤ 1048576) :
    Ret Try.prog 15 #[.int .i64 (n : Int), .int .i64 most] w fun v' w' => ∃ p, v' = .tuple #[.pointer (some ⟨p, 0, none⟩), .int .i64 0] ∧ IsD w' (New w w') p (DS.new n most) ∧ Upd No w w' := by
  refine enterRet (vs := [_, _]) (N := 25) Try.func15 rfl rfl rfl ?_
  have hU := Upd.refl No w
  refine WC.keep [(0, _), (1, _)] ⟨rfl, rfl, trivial⟩ ?_
  refine WC.seq ?_
  refine WC.region ?_
  refine WL.val rfl rfl rfl rfl (r_assign rfl ev_c) ?_
  refine WL.val rfl rfl rfl rfl (r_assign rfl ev_c) ?_
  refine WL.nil ?_
  refine WX.keep [(0, _), (1, _)] ⟨rfl, rfl, trivial⟩ ?_
  refine WX.next ?_
  refine WC.seq ?_
  refine WC.seq ?_
  refine WC.region ?_
  refine WL.val rfl rfl rfl rfl (r_move rfl (ev_t rfl)) ?_
  refine WL.val rfl rfl rfl rfl (r_lss rfl (ev_t rfl) ev_c) ?_
  refine WL.val rfl rfl rfl rfl (r_move rfl (ev_t rfl)) ?_
  refine WL.cases 8 rfl (fun hb1_2 => ?_) (fun hb1_2 => ?_)
  · try (exfalso; first | (simp at hb1_2; done) | (simp only [decide_eq_true_eq, decide_eq_false_iff_not, Bool.not_eq_true', Bool.not_eq_false', Bool.not_eq_true, Bool.not_eq_false] at hb1_2; omega) | omega)
    all_goals
     try simp only [decide_eq_true_eq, decide_eq_false_iff_not, Bool.not_eq_true', Bool.not_eq_false', Bool.not_eq_true, Bool.not_eq_false, Option.isNone_none, Option.isNone_some, Option.isSome_none, Option.isSome_some, ne_eq, Decidable.not_not] at hb1_2
     refine WL.skip rfl rfl rfl ?_
     refine WL.skip rfl rfl rfl ?_
     refine WL.val rfl rfl rfl rfl (r_pickT rfl (ev_t rfl) ev_c) ?_
     refine WL.val rfl rfl rfl rfl (r_move rfl (ev_t rfl)) ?_
     refine WL.skip rfl rfl rfl ?_
     refine WL.skip rfl rfl rfl ?_
     refine WL.val rfl rfl rfl rfl (r_pickT rfl (ev_t rfl) ev_c) ?_
     refine WL.val rfl rfl rfl rfl (r_move rfl (ev_t rfl)) ?_
     refine WL.skip rfl rfl rfl ?_
     refine WL.skip rfl rfl rfl ?_
     refine WL.val rfl rfl rfl rfl (r_pickT rfl (ev_t rfl) ev_c) ?_
     refine WL.nil ?_
     refine WX.keep [(0, _), (1, _), (19, _)] ⟨rfl, rfl, rfl, trivial⟩ ?_
     refine WX.next ?_
     refine WC.cond_true rfl (ev_t rfl) ?_
     refine WC.seq ?_
     refine WC.region ?_
     refine WL.val rfl rfl rfl rfl (r_assign rfl ev_c) ?_
     refine WL.val rfl rfl rfl rfl (r_assign rfl ev_c) ?_
     refine WL.nil ?_
     refine WX.keep [(4, _), (5, _)] ⟨rfl, rfl, trivial⟩ ?_
     refine WX.next ?_
     refine WC.ret ?_
     refine WX.thenRet ?_
     refine WX.retE2 rfl rfl rfl ?_
     fail
  · try (exfalso; first | (simp at hb1_2; done) | (simp only [decide_eq_true_eq, decide_eq_false_iff_not, Bool.not_eq_true', Bool.not_eq_false', Bool.not_eq_true, Bool.not_eq_false] at hb1_2; omega) | omega)
    all_goals
     try simp only [decide_eq_true_eq, decide_eq_false_iff_not, Bool.not_eq_true', Bool.not_eq_false', Bool.not_eq_true, Bool.not_eq_false, Option.isNone_none, Option.isNone_some, Option.isSome_none, Option.isSome_some, ne_eq, Decidable.not_not] at hb1_2
     refine WL.val rfl rfl rfl rfl (r_move rfl (ev_t rfl)) ?_
     refine WL.val rfl rfl rfl rfl (r_gtr rfl (ev_t rfl) ev_c) ?_
     refine WL.val rfl rfl rfl rfl (r_pickF rfl (ev_t rfl) (ev_t rfl)) ?_
     refine WL.val rfl rfl rfl rfl (r_move rfl (ev_t rfl)) ?_
     refine WL.cases 12 rfl (fun hb1_6 => ?_) (fun hb1_6 => ?_)
     · try (exfalso; first | (simp at hb1_6; done) | (simp only [decide_eq_true_eq, decide_eq_false_iff_not, Bool.not_eq_true', Bool.not_eq_false', Bool.not_eq_true, Bool.not_eq_false] at hb1_6; omega) | omega)
       all_goals
        try simp only [decide_eq_true_eq, decide_eq_false_iff_not, Bool.not_eq_true', Bool.not_eq_false', Bool.not_eq_true, Bool.not_eq_false, Option.isNone_none, Option.isNone_some, Option.isSome_none, Option.isSome_some, ne_eq, Decidable.not_not] at hb1_6
        refine WL.skip rfl rfl rfl ?_
        refine WL.skip rfl rfl rfl ?_
        refine WL.val rfl rfl rfl rfl (r_pickT rfl (ev_t rfl) ev_c) ?_
        refine WL.val rfl rfl rfl rfl (r_move rfl (ev_t rfl)) ?_
        refine WL.skip rfl rfl rfl ?_
        refine WL.skip rfl rfl rfl ?_
        refine WL.val rfl rfl rfl rfl (r_pickT rfl (ev_t rfl) ev_c) ?_
        refine WL.nil ?_
        refine WX.keep [(0, _), (1, _), (19, _)] ⟨rfl, rfl, rfl, trivial⟩ ?_
        refine WX.next ?_
        refine WC.cond_true rfl (ev_t rfl) ?_
        refine WC.seq ?_
        refine WC.region ?_
        refine WL.val rfl rfl rfl rfl (r_assign rfl ev_c) ?_
        refine WL.val rfl rfl rfl rfl (r_assign rfl ev_c) ?_
        refine WL.nil ?_
        refine WX.keep [(4, _), (5, _)] ⟨rfl, rfl, trivial⟩ ?_
        refine WX.next ?_
        refine WC.ret ?_
        refine WX.thenRet ?_
        refine WX.retE2 rfl rfl rfl ?_
        fail
     · try (exfalso; first | (simp at hb1_6; done) | (simp only [decide_eq_true_eq, decide_eq_false_iff_not, Bool.not_eq_true', Bool.not_eq_false', Bool.not_eq_true, Bool.not_eq_false] at hb1_6; omega) | omega)
       all_goals
        try simp only [decide_eq_true_eq, decide_eq_false_iff_not, Bool.not_eq_true', Bool.not_eq_false', Bool.not_eq_true, Bool.not_eq_false, Option.isNone_none, Option.isNone_some, Option.isSome_none, Option.isSome_some, ne_eq, Decidable.not_not] at hb1_6
        refine WL.val rfl rfl rfl rfl (r_move rfl (ev_t rfl)) ?_
        refine WL.val rfl rfl rfl rfl (r_lss rfl (ev_t rfl) ev_c) ?_
        refine WL.val rfl rfl rfl rfl (r_pickF rfl (ev_t rfl) (ev_t rfl)) ?_
        refine WL.val rfl rfl rfl rfl (r_move rfl (ev_t rfl)) ?_
        refine WL.cases 16 rfl (fun hb1_10 => ?_) (fun hb1_10 => ?_)
        · try (exfalso; first | (simp at hb1_10; done) | (simp only [decide_eq_true_eq, decide_eq_false_iff_not, Bool.not_eq_true', Bool.not_eq_false', Bool.not_eq_true, Bool.not_eq_false] at hb1_10; omega) | omega)
          all_goals
           try simp only [decide_eq_true_eq, decide_eq_false_iff_not, Bool.not_eq_true', Bool.not_eq_false', Bool.not_eq_true, Bool.not_eq_false, Option.isNone_none, Option.isNone_some, Option.isSome_none, Option.isSome_some, ne_eq, Decidable.not_not] at hb1_10
           refine WL.skip rfl rfl rfl ?_
           refine WL.skip rfl rfl rfl ?_
           refine WL.val rfl rfl rfl rfl (r_pickT rfl (ev_t rfl) ev_c) ?_
           refine WL.nil ?_
           refine WX.keep [(0, _), (1, _), (19, _)] ⟨rfl, rfl, rfl, trivial⟩ ?_
           refine WX.next ?_
           refine WC.cond_true rfl (ev_t rfl) ?_
           refine WC.seq ?_
           refine WC.region ?_
           refine WL.val rfl rfl rfl rfl (r_assign rfl ev_c) ?_
           refine WL.val rfl rfl rfl rfl (r_assign rfl ev_c) ?_
           refine WL.nil ?_
           refine WX.keep [(4, _), (5, _)] ⟨rfl, rfl, trivial⟩ ?_
           refine WX.next ?_
           refine WC.ret ?_
           refine WX.thenRet ?_
           refine WX.retE2 rfl rfl rfl ?_
           fail
        · try (exfalso; first | (simp at hb1_10; done) | (simp only [decide_eq_true_eq, decide_eq_false_iff_not, Bool.not_eq_true', Bool.not_eq_false', Bool.not_eq_true, Bool.not_eq_false] at hb1_10; omega) | omega)
          all_goals
           try simp only [decide_eq_true_eq, decide_eq_false_iff_not, Bool.not_eq_true', Bool.not_eq_false', Bool.not_eq_true, Bool.not_eq_false, Option.isNone_none, Option.isNone_some, Option.isSome_none, Option.isSome_some, ne_eq, Decidable.not_not] at hb1_10
           refine WL.val rfl rfl rfl rfl (r_move rfl (ev_t rfl)) ?_
           refine WL.val rfl rfl rfl rfl (r_gtr rfl (ev_t rfl) ev_c) ?_
           refine WL.val rfl rfl rfl rfl (r_pickF rfl (ev_t rfl) (ev_t rfl)) ?_
           refine WL.nil ?_
           refine WX.keep [(0, _), (1, _), (19, _)] ⟨rfl, rfl, rfl, trivial⟩ ?_
           refine WX.next ?_
           refine WC.cond rfl (ev_t rfl) (fun hc1 => ?_) (fun hc1 => ?_)
           · try (exfalso; first | (simp at hc1; done) | (simp only [decide_eq_true_eq, decide_eq_false_iff_not, Bool.not_eq_true', Bool.not_eq_false', Bool.not_eq_true, Bool.not_eq_false] at hc1; omega) | omega)
             all_goals
              try simp only [decide_eq_true_eq, decide_eq_false_iff_not, Bool.not_eq_true', Bool.not_eq_false', Bool.not_eq_true, Bool.not_eq_false, Option.isNone_none, Option.isNone_some, Option.isSome_none, Option.isSome_some, ne_eq, Decidable.not_not] at hc1
              refine WC.seq ?_
              refine WC.region ?_
              refine WL.val rfl rfl rfl rfl (r_assign rfl ev_c) ?_
              refine WL.val rfl rfl rfl rfl (r_assign rfl ev_c) ?_
              refine WL.nil ?_
              refine WX.keep [(4, _), (5, _)] ⟨rfl, rfl, trivial⟩ ?_
              refine WX.next ?_
              refine WC.ret ?_
              refine WX.thenRet ?_
              refine WX.retE2 rfl rfl rfl ?_
              fail
           · try (exfalso; first | (simp at hc1; done) | (simp only [decide_eq_true_eq, decide_eq_false_iff_not, Bool.not_eq_true', Bool.not_eq_false', Bool.not_eq_true, Bool.not_eq_false] at hc1; omega) | omega)
             all_goals
              try simp only [decide_eq_true_eq, decide_eq_false_iff_not, Bool.not_eq_true', Bool.not_eq_false', Bool.not_eq_true, Bool.not_eq_false, Option.isNone_none, Option.isNone_some, Option.isSome_none, Option.isSome_some, ne_eq, Decidable.not_not] at hc1
              refine WC.skip ?_
              refine WX.next ?_
              refine WC.seq ?_
              refine WC.region ?_
              refine WL.val rfl rfl rfl rfl (r_move rfl (ev_t rfl)) ?_
              refine WL.cons (SO.alloc rfl rfl rfl rfl (r_makeSlice (n := n) rfl (ev_t rfl) (ev_t rfl) row_81 (by omega) (by omega)) ?_)
              intro w1 hu1 hrow hzr
              have hs1 := hu1.size
              replace hU := hU.transA hu1
              refine WL.val rfl rfl rfl rfl (r_move rfl (ev_t rfl)) ?_
              refine WL.val rfl rfl rfl rfl (r_build (cs := #[_, _, _, _, _]) (vs := [(0, _), (1, _)]) rfl ⟨⟨rfl, (ev_t rfl)⟩, ⟨rfl, (ev_t rfl)⟩, trivial⟩ plc_83 zero_83 rfl) ?_
              refine WL.cons (SO.alloc rfl rfl rfl rfl (r_boxAgg rfl (ev_t rfl)) ?_)
              intro w2 hu2 hB2 hz2
              have hs2 := hu2.size
              replace hU := hU.transA hu2
              replace hrow := hrow.updA hu2
              refine WL.val rfl rfl rfl rfl (r_assign rfl (ev_t rfl)) ?_
              refine WL.val rfl rfl rfl rfl (r_assign rfl ev_c) ?_
              refine WL.nil ?_
              refine WX.keep [(4, _), (5, _)] ⟨rfl, rfl, trivial⟩ ?_
              refine WX.next ?_
              refine WC.ret ?_
              refine WX.retE2 rfl rfl rfl ?_
              have er : rowCells (.agg #[.slice none 0 0, .slice none 0 0, .bool false]) n = (trkC (List.replicate n trkV0)).toArray := by rw [trkC_new]; rfl
              rw [er] at hrow
              have get : ∀ (i : Nat) t, (List.replicate n trkV0)[i]? = some t → t = trkV0 := fun i t ht => by
                rw [List.getElem?_replicate] at ht
                split at ht
                · injection ht with ht; exact ht.symm
                · cases ht
              refine ⟨_, rfl, ⟨w.heap.size, List.replicate n trkV0, ?_⟩, hU⟩
              refine ⟨by rw [show (DS.new n most).l.length = n by simp [DS.new]]; exact hB2, hrow, by simp [DS.new], fun i t a ht ha => ?_, fun i j t u ht hu hij k hk => ?_, fun i t ht k hk => ?_, fun i t ht k hk => ?_, ⟨⟨by omega, by omega⟩, ⟨by omega, by omega⟩⟩, ?_⟩
              · rw [get i t ht]
                have : a = ⟨[], [], false⟩ := List.eq_of_mem_replicate (List.mem_of_getElem? ha)
                rw [this]
                exact ⟨Own.nil _ _ _ _, Own.nil _ _ _ _, rfl⟩
              · rw [get i t ht] at hk
                exact hk.elim (fun h => h.elim) (fun h => h.elim)
              · rw [get i t ht] at hk
                exact hk.elim
              · rw [get i t ht] at hk
                exact hk.elim (fun h => h.elim) (fun h => h.elim)
              · refine ⟨by simp only [DS.new]; omega, by simp [DS.new]; omega, by simp [DS.new, inK], fun t ht => ?_⟩
                rw [List.eq_of_mem_replicate ht]
                simp only [DS.new, List.length_nil]
                omega

theorem On_ok {w : World} {F : Nat → Prop} {p : Nat} {D : DS} (h : IsD w F p D) : Ret Try.prog 22 #[.pointer (some ⟨p, 0, none⟩)] w fun v' w' => v' = .bool (!D.off) ∧ w = w' := by
  obtain ⟨g, l, h⟩ := h
  have hb := h.hd
  refine enterRet (vs := [_]) (N := 12) Try.func22 rfl rfl rfl ?_
  refine WC.keep [(0, _)] ⟨rfl, trivial⟩ ?_
  refine WC.seq ?_
  refine WC.region ?_
  refine WL.val rfl rfl rfl rfl (r_assign rfl ev_c) ?_
  refine WL.nil ?_
  refine WX.keep [(0, _)] ⟨rfl, trivial⟩ ?_
  refine WX.next ?_
  refine WC.seq ?_
  refine WC.region ?_
  refine WL.val rfl rfl rfl rfl (r_move rfl (ev_t rfl)) ?_
  refine WL.val rfl rfl rfl rfl (r_neqPtrNil rfl (ev_t rfl) ev_c ptr_25) ?_
  refine WL.val rfl rfl rfl rfl (r_move rfl (ev_t rfl)) ?_
  refine WL.cases 5 rfl (fun hb1_2 => ?_) (fun hb1_2 => ?_)
  · try (exfalso; first | (simp at hb1_2; done) | (simp only [decide_eq_true_eq, decide_eq_false_iff_not, Bool.not_eq_true', Bool.not_eq_false', Bool.not_eq_true, Bool.not_eq_false] at hb1_2; omega) | omega)
    all_goals
     try simp only [decide_eq_true_eq, decide_eq_false_iff_not, Bool.not_eq_true', Bool.not_eq_false', Bool.not_eq_true, Bool.not_eq_false, Option.isNone_none, Option.isNone_some, Option.isSome_none, Option.isSome_some, ne_eq, Decidable.not_not] at hb1_2
     refine WL.val rfl rfl rfl rfl (r_move rfl (ev_t rfl)) ?_
     refine WL.val rfl rfl rfl rfl (r_nilCheck rfl (ev_t rfl)) ?_
     first | refine WL.val rfl rfl rfl rfl (r_field0 rfl (ev_t rfl) fld_83_4) ?_ | refine WL.val rfl rfl rfl rfl (r_fieldAt rfl (ev_t rfl) fld_83_4) ?_
     refine WL.val rfl rfl rfl rfl (r_load rfl (ev_t rfl) flat_4 (Blk.cell hb rfl)) ?_
     refine WL.val rfl rfl rfl rfl (r_not rfl (ev_t rfl)) ?_
     refine WL.val rfl rfl rfl rfl (r_pickT rfl (ev_t rfl) (ev_t rfl)) ?_
     refine WL.val rfl rfl rfl rfl (r_assign rfl (ev_t rfl)) ?_
     refine WL.nil ?_
     refine WX.keep [(2, _)] ⟨rfl, trivial⟩ ?_
     refine WX.next ?_
     refine WC.ret ?_
     refine WX.retE1 rfl rfl ?_
     exact ⟨rfl, rfl⟩
  · try (exfalso; first | (simp at hb1_2; done) | (simp only [decide_eq_true_eq, decide_eq_false_iff_not, Bool.not_eq_true', Bool.not_eq_false', Bool.not_eq_true, Bool.not_eq_false] at hb1_2; omega) | omega)
    all_goals
     try simp only [decide_eq_true_eq, decide_eq_false_iff_not, Bool.not_eq_true', Bool.not_eq_false', Bool.not_eq_true, Bool.not_eq_false, Option.isNone_none, Option.isNone_some, Option.isSome_none, Option.isSome_some, ne_eq, Decidable.not_not] at hb1_2
     refine WL.skip rfl rfl rfl ?_
     refine WL.skip rfl rfl rfl ?_
     refine WL.skip rfl rfl rfl ?_
     refine WL.skip rfl rfl rfl ?_
     refine WL.skip rfl rfl rfl ?_
     refine WL.val rfl rfl rfl rfl (r_pickF rfl (ev_t rfl) ev_c) ?_
     refine WL.val rfl rfl rfl rfl (r_assign rfl (ev_t rfl)) ?_
     refine WL.nil ?_
     refine WX.keep [(2, _)] ⟨rfl, trivial⟩ ?_
     refine WX.next ?_
     refine WC.ret ?_
     refine WX.retE1 rfl rfl ?_
     exact ⟨rfl, rfl⟩
theorem On_nil {w : World} : Ret Try.prog 22 #[.pointer none] w fun v' w' => v' = .bool false ∧ w = w' := by
  refine enterRet (vs := [_]) (N := 12) Try.func22 rfl rfl rfl ?_
  refine WC.keep [(0, _)] ⟨rfl, trivial⟩ ?_
  refine WC.seq ?_
  refine WC.region ?_
  refine WL.val rfl rfl rfl rfl (r_assign rfl ev_c) ?_
  refine WL.nil ?_
  refine WX.keep [(0, _)] ⟨rfl, trivial⟩ ?_
  refine WX.next ?_
  refine WC.seq ?_
  refine WC.region ?_
  refine WL.val rfl rfl rfl rfl (r_move rfl (ev_t rfl)) ?_
  refine WL.val rfl rfl rfl rfl (r_neqPtrNil rfl (ev_t rfl) ev_c ptr_25) ?_
  refine WL.val rfl rfl rfl rfl (r_move rfl (ev_t rfl)) ?_
  refine WL.cases 5 rfl (fun hb1_2 => ?_) (fun hb1_2 => ?_)
  · try (exfalso; first | (simp at hb1_2; done) | (simp only [decide_eq_true_eq, decide_eq_false_iff_not, Bool.not_eq_true', Bool.not_eq_false', Bool.not_eq_true, Bool.not_eq_false] at hb1_2; omega) | omega)
    all_goals
     try simp only [decide_eq_true_eq, decide_eq_false_iff_not, Bool.not_eq_true', Bool.not_eq_false', Bool.not_eq_true, Bool.not_eq_false, Option.isNone_none, Option.isNone_some, Option.isSome_none, Option.isSome_some, ne_eq, Decidable.not_not] at hb1_2
     refine WL.val rfl rfl rfl rfl (r_move rfl (ev_t rfl)) ?_
     refine WL.val rfl rfl rfl rfl (r_nilCheck rfl (ev_t rfl)) ?_
     first | refine WL.val rfl rfl rfl rfl (r_field0 rfl (ev_t rfl) fld_83_4) ?_ | refine WL.val rfl rfl rfl rfl (r_fieldAt rfl (ev_t rfl) fld_83_4) ?_
     fail -- load 1.6: no facts
  · try (exfalso; first | (simp at hb1_2; done) | (simp only [decide_eq_true_eq, decide_eq_false_iff_not, Bool.not_eq_true', Bool.not_eq_false', Bool.not_eq_true, Bool.not_eq_false] at hb1_2; omega) | omega)
    all_goals
     try simp only [decide_eq_true_eq, decide_eq_false_iff_not, Bool.not_eq_true', Bool.not_eq_false', Bool.not_eq_true, Bool.not_eq_false, Option.isNone_none, Option.isNone_some, Option.isSome_none, Option.isSome_some, ne_eq, Decidable.not_not] at hb1_2
     refine WL.skip rfl rfl rfl ?_
     refine WL.skip rfl rfl rfl ?_
     refine WL.skip rfl rfl rfl ?_
     refine WL.skip rfl rfl rfl ?_
     refine WL.skip rfl rfl rfl ?_
     refine WL.val rfl rfl rfl rfl (r_pickF rfl (ev_t rfl) ev_c) ?_
     refine WL.val rfl rfl rfl rfl (r_assign rfl (ev_t rfl)) ?_
     refine WL.nil ?_
     refine WX.keep [(2, _)] ⟨rfl, trivial⟩ ?_
     refine WX.next ?_
     refine WC.ret ?_
     refine WX.retE1 rfl rfl ?_
     exact ⟨rfl, rfl⟩
theorem Ops_ok {w : World} {F : Nat → Prop} {p : Nat} {D : DS} (h : IsD w F p D) : Ret Try.prog 23 #[.pointer (some ⟨p, 0, none⟩)] w fun v' w' => v' = .int .i64 D.ops ∧ w = w' := by
  obtain ⟨g, l, h⟩ := h
  have hb := h.hd
  refine enterRet (vs := [_]) (N := 9) Try.func23 rfl rfl rfl ?_
  refine WC.keep [(0, _)] ⟨rfl, trivial⟩ ?_
  refine WC.seq ?_
  refine WC.region ?_
  refine WL.val rfl rfl rfl rfl (r_assign rfl ev_c) ?_
  refine WL.nil ?_
  refine WX.keep [(0, _)] ⟨rfl, trivial⟩ ?_
  refine WX.next ?_
  refine WC.seq ?_
  refine WC.seq ?_
  refine WC.region ?_
  refine WL.val rfl rfl rfl rfl (r_move rfl (ev_t rfl)) ?_
  refine WL.val rfl rfl rfl rfl (r_eqlPtrNil rfl (ev_t rfl) ev_c ptr_25) ?_
  refine WL.nil ?_
  refine WX.keep [(0, _), (4, _)] ⟨rfl, rfl, trivial⟩ ?_
  refine WX.next ?_
  refine WC.cond rfl (ev_t rfl) (fun hc1 => ?_) (fun hc1 => ?_)
  · try (exfalso; first | (simp at hc1; done) | (simp only [decide_eq_true_eq, decide_eq_false_iff_not, Bool.not_eq_true', Bool.not_eq_false', Bool.not_eq_true, Bool.not_eq_false] at hc1; omega) | omega)
    all_goals
     try simp only [decide_eq_true_eq, decide_eq_false_iff_not, Bool.not_eq_true', Bool.not_eq_false', Bool.not_eq_true, Bool.not_eq_false, Option.isNone_none, Option.isNone_some, Option.isSome_none, Option.isSome_some, ne_eq, Decidable.not_not] at hc1
     refine WC.seq ?_
     refine WC.region ?_
     refine WL.val rfl rfl rfl rfl (r_assign rfl ev_c) ?_
     refine WL.nil ?_
     refine WX.keep [(2, _)] ⟨rfl, trivial⟩ ?_
     refine WX.next ?_
     refine WC.ret ?_
     refine WX.thenRet ?_
     refine WX.retE1 rfl rfl ?_
     exact ⟨rfl, rfl⟩
  · try (exfalso; first | (simp at hc1; done) | (simp only [decide_eq_true_eq, decide_eq_false_iff_not, Bool.not_eq_true', Bool.not_eq_false', Bool.not_eq_true, Bool.not_eq_false] at hc1; omega) | omega)
    all_goals
     try simp only [decide_eq_true_eq, decide_eq_false_iff_not, Bool.not_eq_true', Bool.not_eq_false', Bool.not_eq_true, Bool.not_eq_false, Option.isNone_none, Option.isNone_some, Option.isSome_none, Option.isSome_some, ne_eq, Decidable.not_not] at hc1
     refine WC.skip ?_
     refine WX.next ?_
     refine WC.seq ?_
     refine WC.region ?_
     refine WL.val rfl rfl rfl rfl (r_move rfl (ev_t rfl)) ?_
     refine WL.val rfl rfl rfl rfl (r_nilCheck rfl (ev_t rfl)) ?_
     first | refine WL.val rfl rfl rfl rfl (r_field0 rfl (ev_t rfl) fld_83_2) ?_ | refine WL.val rfl rfl rfl rfl (r_fieldAt rfl (ev_t rfl) fld_83_2) ?_
     refine WL.val rfl rfl rfl rfl (r_load rfl (ev_t rfl) flat_3 (Blk.cell hb rfl)) ?_
     refine WL.val rfl rfl rfl rfl (r_assign rfl (ev_t rfl)) ?_
     refine WL.nil ?_
     refine WX.keep [(2, _)] ⟨rfl, trivial⟩ ?_
     refine WX.next ?_
     refine WC.ret ?_
     refine WX.retE1 rfl rfl ?_
     exact ⟨rfl, rfl⟩
theorem Ops_nil {w : World} : Ret Try.prog 23 #[.pointer none] w fun v' w' => v' = .int .i64 0 ∧ w = w' := by
  refine enterRet (vs := [_]) (N := 9) Try.func23 rfl rfl rfl ?_
  refine WC.keep [(0, _)] ⟨rfl, trivial⟩ ?_
  refine WC.seq ?_
  refine WC.region ?_
  refine WL.val rfl rfl rfl rfl (r_assign rfl ev_c) ?_
  refine WL.nil ?_
  refine WX.keep [(0, _)] ⟨rfl, trivial⟩ ?_
  refine WX.next ?_
  refine WC.seq ?_
  refine WC.seq ?_
  refine WC.region ?_
  refine WL.val rfl rfl rfl rfl (r_move rfl (ev_t rfl)) ?_
  refine WL.val rfl rfl rfl rfl (r_eqlPtrNil rfl (ev_t rfl) ev_c ptr_25) ?_
  refine WL.nil ?_
  refine WX.keep [(0, _), (4, _)] ⟨rfl, rfl, trivial⟩ ?_
  refine WX.next ?_
  refine WC.cond rfl (ev_t rfl) (fun hc1 => ?_) (fun hc1 => ?_)
  · try (exfalso; first | (simp at hc1; done) | (simp only [decide_eq_true_eq, decide_eq_false_iff_not, Bool.not_eq_true', Bool.not_eq_false', Bool.not_eq_true, Bool.not_eq_false] at hc1; omega) | omega)
    all_goals
     try simp only [decide_eq_true_eq, decide_eq_false_iff_not, Bool.not_eq_true', Bool.not_eq_false', Bool.not_eq_true, Bool.not_eq_false, Option.isNone_none, Option.isNone_some, Option.isSome_none, Option.isSome_some, ne_eq, Decidable.not_not] at hc1
     refine WC.seq ?_
     refine WC.region ?_
     refine WL.val rfl rfl rfl rfl (r_assign rfl ev_c) ?_
     refine WL.nil ?_
     refine WX.keep [(2, _)] ⟨rfl, trivial⟩ ?_
     refine WX.next ?_
     refine WC.ret ?_
     refine WX.thenRet ?_
     refine WX.retE1 rfl rfl ?_
     exact ⟨rfl, rfl⟩
  · try (exfalso; first | (simp at hc1; done) | (simp only [decide_eq_true_eq, decide_eq_false_iff_not, Bool.not_eq_true', Bool.not_eq_false', Bool.not_eq_true, Bool.not_eq_false] at hc1; omega) | omega)
    all_goals
     try simp only [decide_eq_true_eq, decide_eq_false_iff_not, Bool.not_eq_true', Bool.not_eq_false', Bool.not_eq_true, Bool.not_eq_false, Option.isNone_none, Option.isNone_some, Option.isSome_none, Option.isSome_some, ne_eq, Decidable.not_not] at hc1
     refine WC.skip ?_
     refine WX.next ?_
     refine WC.seq ?_
     refine WC.region ?_
     refine WL.val rfl rfl rfl rfl (r_move rfl (ev_t rfl)) ?_
     refine WL.val rfl rfl rfl rfl (r_nilCheck rfl (ev_t rfl)) ?_
     first | refine WL.val rfl rfl rfl rfl (r_field0 rfl (ev_t rfl) fld_83_2) ?_ | refine WL.val rfl rfl rfl rfl (r_fieldAt rfl (ev_t rfl) fld_83_2) ?_
     fail -- load 3.3: no facts
theorem Tracks_ok {w : World} {F : Nat → Prop} {p : Nat} {D : DS} (h : IsD w F p D) : Ret Try.prog 24 #[.pointer (some ⟨p, 0, none⟩)] w fun v' w' => v' = .int .i64 (D.l.length : Int) ∧ w = w' := by
  obtain ⟨g, l, h⟩ := h
  have hb := h.hd
  refine enterRet (vs := [_]) (N := 10) Try.func24 rfl rfl rfl ?_
  refine WC.keep [(0, _)] ⟨rfl, trivial⟩ ?_
  refine WC.seq ?_
  refine WC.region ?_
  refine WL.val rfl rfl rfl rfl (r_assign rfl ev_c) ?_
  refine WL.nil ?_
  refine WX.keep [(0, _)] ⟨rfl, trivial⟩ ?_
  refine WX.next ?_
  refine WC.seq ?_
  refine WC.seq ?_
  refine WC.region ?_
  refine WL.val rfl rfl rfl rfl (r_move rfl (ev_t rfl)) ?_
  refine WL.val rfl rfl rfl rfl (r_eqlPtrNil rfl (ev_t rfl) ev_c ptr_25) ?_
  refine WL.nil ?_
  refine WX.keep [(0, _), (4, _)] ⟨rfl, rfl, trivial⟩ ?_
  refine WX.next ?_
  refine WC.cond rfl (ev_t rfl) (fun hc1 => ?_) (fun hc1 => ?_)
  · try (exfalso; first | (simp at hc1; done) | (simp only [decide_eq_true_eq, decide_eq_false_iff_not, Bool.not_eq_true', Bool.not_eq_false', Bool.not_eq_true, Bool.not_eq_false] at hc1; omega) | omega)
    all_goals
     try simp only [decide_eq_true_eq, decide_eq_false_iff_not, Bool.not_eq_true', Bool.not_eq_false', Bool.not_eq_true, Bool.not_eq_false, Option.isNone_none, Option.isNone_some, Option.isSome_none, Option.isSome_some, ne_eq, Decidable.not_not] at hc1
     refine WC.seq ?_
     refine WC.region ?_
     refine WL.val rfl rfl rfl rfl (r_assign rfl ev_c) ?_
     refine WL.nil ?_
     refine WX.keep [(2, _)] ⟨rfl, trivial⟩ ?_
     refine WX.next ?_
     refine WC.ret ?_
     refine WX.thenRet ?_
     refine WX.retE1 rfl rfl ?_
     exact ⟨rfl, rfl⟩
  · try (exfalso; first | (simp at hc1; done) | (simp only [decide_eq_true_eq, decide_eq_false_iff_not, Bool.not_eq_true', Bool.not_eq_false', Bool.not_eq_true, Bool.not_eq_false] at hc1; omega) | omega)
    all_goals
     try simp only [decide_eq_true_eq, decide_eq_false_iff_not, Bool.not_eq_true', Bool.not_eq_false', Bool.not_eq_true, Bool.not_eq_false, Option.isNone_none, Option.isNone_some, Option.isSome_none, Option.isSome_some, ne_eq, Decidable.not_not] at hc1
     refine WC.skip ?_
     refine WX.next ?_
     refine WC.seq ?_
     refine WC.region ?_
     refine WL.val rfl rfl rfl rfl (r_move rfl (ev_t rfl)) ?_
     refine WL.val rfl rfl rfl rfl (r_nilCheck rfl (ev_t rfl)) ?_
     first | refine WL.val rfl rfl rfl rfl (r_field0 rfl (ev_t rfl) fld_83_0) ?_ | refine WL.val rfl rfl rfl rfl (r_fieldAt rfl (ev_t rfl) fld_83_0) ?_
     refine WL.val rfl rfl rfl rfl (r_load rfl (ev_t rfl) flat_81 (Blk.cell hb rfl)) ?_
     refine WL.val rfl rfl rfl rfl (r_lenSlice (ts := #[]) rfl (ev_t rfl) elem_81) ?_
     refine WL.val rfl rfl rfl rfl (r_assign rfl (ev_t rfl)) ?_
     refine WL.nil ?_
     refine WX.keep [(2, _)] ⟨rfl, trivial⟩ ?_
     refine WX.next ?_
     refine WC.ret ?_
     refine WX.retE1 rfl rfl ?_
     exact ⟨rfl, rfl⟩
theorem Tracks_nil {w : World} : Ret Try.prog 24 #[.pointer none] w fun v' w' => v' = .int .i64 0 ∧ w = w' := by
  refine enterRet (vs := [_]) (N := 10) Try.func24 rfl rfl rfl ?_
  refine WC.keep [(0, _)] ⟨rfl, trivial⟩ ?_
  refine WC.seq ?_
  refine WC.region ?_
  refine WL.val rfl rfl rfl rfl (r_assign rfl ev_c) ?_
  refine WL.nil ?_
  refine WX.keep [(0, _)] ⟨rfl, trivial⟩ ?_
  refine WX.next ?_
  refine WC.seq ?_
  refine WC.seq ?_
  refine WC.region ?_
  refine WL.val rfl rfl rfl rfl (r_move rfl (ev_t rfl)) ?_
  refine WL.val rfl rfl rfl rfl (r_eqlPtrNil rfl (ev_t rfl) ev_c ptr_25) ?_
  refine WL.nil ?_
  refine WX.keep [(0, _), (4, _)] ⟨rfl, rfl, trivial⟩ ?_
  refine WX.next ?_
  refine WC.cond rfl (ev_t rfl) (fun hc1 => ?_) (fun hc1 => ?_)
  · try (exfalso; first | (simp at hc1; done) | (simp only [decide_eq_true_eq, decide_eq_false_iff_not, Bool.not_eq_true', Bool.not_eq_false', Bool.not_eq_true, Bool.not_eq_false] at hc1; omega) | omega)
    all_goals
     try simp only [decide_eq_true_eq, decide_eq_false_iff_not, Bool.not_eq_true', Bool.not_eq_false', Bool.not_eq_true, Bool.not_eq_false, Option.isNone_none, Option.isNone_some, Option.isSome_none, Option.isSome_some, ne_eq, Decidable.not_not] at hc1
     refine WC.seq ?_
     refine WC.region ?_
     refine WL.val rfl rfl rfl rfl (r_assign rfl ev_c) ?_
     refine WL.nil ?_
     refine WX.keep [(2, _)] ⟨rfl, trivial⟩ ?_
     refine WX.next ?_
     refine WC.ret ?_
     refine WX.thenRet ?_
     refine WX.retE1 rfl rfl ?_
     exact ⟨rfl, rfl⟩
  · try (exfalso; first | (simp at hc1; done) | (simp only [decide_eq_true_eq, decide_eq_false_iff_not, Bool.not_eq_true', Bool.not_eq_false', Bool.not_eq_true, Bool.not_eq_false] at hc1; omega) | omega)
    all_goals
     try simp only [decide_eq_true_eq, decide_eq_false_iff_not, Bool.not_eq_true', Bool.not_eq_false', Bool.not_eq_true, Bool.not_eq_false, Option.isNone_none, Option.isNone_some, Option.isSome_none, Option.isSome_some, ne_eq, Decidable.not_not] at hc1
     refine WC.skip ?_
     refine WX.next ?_
     refine WC.seq ?_
     refine WC.region ?_
     refine WL.val rfl rfl rfl rfl (r_move rfl (ev_t rfl)) ?_
     refine WL.val rfl rfl rfl rfl (r_nilCheck rfl (ev_t rfl)) ?_
     first | refine WL.val rfl rfl rfl rfl (r_field0 rfl (ev_t rfl) fld_83_0) ?_ | refine WL.val rfl rfl rfl rfl (r_fieldAt rfl (ev_t rfl) fld_83_0) ?_
     fail -- load 3.3: no facts
theorem Most_ok {w : World} {F : Nat → Prop} {p : Nat} {D : DS} (h : IsD w F p D) : Ret Try.prog 25 #[.pointer (some ⟨p, 0, none⟩)] w fun v' w' => v' = .int .i64 D.most ∧ w = w' := by
  obtain ⟨g, l, h⟩ := h
  have hb := h.hd
  refine enterRet (vs := [_]) (N := 9) Try.func25 rfl rfl rfl ?_
  refine WC.keep [(0, _)] ⟨rfl, trivial⟩ ?_
  refine WC.seq ?_
  refine WC.region ?_
  refine WL.val rfl rfl rfl rfl (r_assign rfl ev_c) ?_
  refine WL.nil ?_
  refine WX.keep [(0, _)] ⟨rfl, trivial⟩ ?_
  refine WX.next ?_
  refine WC.seq ?_
  refine WC.seq ?_
  refine WC.region ?_
  refine WL.val rfl rfl rfl rfl (r_move rfl (ev_t rfl)) ?_
  refine WL.val rfl rfl rfl rfl (r_eqlPtrNil rfl (ev_t rfl) ev_c ptr_25) ?_
  refine WL.nil ?_
  refine WX.keep [(0, _), (4, _)] ⟨rfl, rfl, trivial⟩ ?_
  refine WX.next ?_
  refine WC.cond rfl (ev_t rfl) (fun hc1 => ?_) (fun hc1 => ?_)
  · try (exfalso; first | (simp at hc1; done) | (simp only [decide_eq_true_eq, decide_eq_false_iff_not, Bool.not_eq_true', Bool.not_eq_false', Bool.not_eq_true, Bool.not_eq_false] at hc1; omega) | omega)
    all_goals
     try simp only [decide_eq_true_eq, decide_eq_false_iff_not, Bool.not_eq_true', Bool.not_eq_false', Bool.not_eq_true, Bool.not_eq_false, Option.isNone_none, Option.isNone_some, Option.isSome_none, Option.isSome_some, ne_eq, Decidable.not_not] at hc1
     refine WC.seq ?_
     refine WC.region ?_
     refine WL.val rfl rfl rfl rfl (r_assign rfl ev_c) ?_
     refine WL.nil ?_
     refine WX.keep [(2, _)] ⟨rfl, trivial⟩ ?_
     refine WX.next ?_
     refine WC.ret ?_
     refine WX.thenRet ?_
     refine WX.retE1 rfl rfl ?_
     exact ⟨rfl, rfl⟩
  · try (exfalso; first | (simp at hc1; done) | (simp only [decide_eq_true_eq, decide_eq_false_iff_not, Bool.not_eq_true', Bool.not_eq_false', Bool.not_eq_true, Bool.not_eq_false] at hc1; omega) | omega)
    all_goals
     try simp only [decide_eq_true_eq, decide_eq_false_iff_not, Bool.not_eq_true', Bool.not_eq_false', Bool.not_eq_true, Bool.not_eq_false, Option.isNone_none, Option.isNone_some, Option.isSome_none, Option.isSome_some, ne_eq, Decidable.not_not] at hc1
     refine WC.skip ?_
     refine WX.next ?_
     refine WC.seq ?_
     refine WC.region ?_
     refine WL.val rfl rfl rfl rfl (r_move rfl (ev_t rfl)) ?_
     refine WL.val rfl rfl rfl rfl (r_nilCheck rfl (ev_t rfl)) ?_
     first | refine WL.val rfl rfl rfl rfl (r_field0 rfl (ev_t rfl) fld_83_1) ?_ | refine WL.val rfl rfl rfl rfl (r_fieldAt rfl (ev_t rfl) fld_83_1) ?_
     refine WL.val rfl rfl rfl rfl (r_load rfl (ev_t rfl) flat_3 (Blk.cell hb rfl)) ?_
     refine WL.val rfl rfl rfl rfl (r_assign rfl (ev_t rfl)) ?_
     refine WL.nil ?_
     refine WX.keep [(2, _)] ⟨rfl, trivial⟩ ?_
     refine WX.next ?_
     refine WC.ret ?_
     refine WX.retE1 rfl rfl ?_
     exact ⟨rfl, rfl⟩
theorem Most_nil {w : World} : Ret Try.prog 25 #[.pointer none] w fun v' w' => v' = .int .i64 0 ∧ w = w' := by
  refine enterRet (vs := [_]) (N := 9) Try.func25 rfl rfl rfl ?_
  refine WC.keep [(0, _)] ⟨rfl, trivial⟩ ?_
  refine WC.seq ?_
  refine WC.region ?_
  refine WL.val rfl rfl rfl rfl (r_assign rfl ev_c) ?_
  refine WL.nil ?_
  refine WX.keep [(0, _)] ⟨rfl, trivial⟩ ?_
  refine WX.next ?_
  refine WC.seq ?_
  refine WC.seq ?_
  refine WC.region ?_
  refine WL.val rfl rfl rfl rfl (r_move rfl (ev_t rfl)) ?_
  refine WL.val rfl rfl rfl rfl (r_eqlPtrNil rfl (ev_t rfl) ev_c ptr_25) ?_
  refine WL.nil ?_
  refine WX.keep [(0, _), (4, _)] ⟨rfl, rfl, trivial⟩ ?_
  refine WX.next ?_
  refine WC.cond rfl (ev_t rfl) (fun hc1 => ?_) (fun hc1 => ?_)
  · try (exfalso; first | (simp at hc1; done) | (simp only [decide_eq_true_eq, decide_eq_false_iff_not, Bool.not_eq_true', Bool.not_eq_false', Bool.not_eq_true, Bool.not_eq_false] at hc1; omega) | omega)
    all_goals
     try simp only [decide_eq_true_eq, decide_eq_false_iff_not, Bool.not_eq_true', Bool.not_eq_false', Bool.not_eq_true, Bool.not_eq_false, Option.isNone_none, Option.isNone_some, Option.isSome_none, Option.isSome_some, ne_eq, Decidable.not_not] at hc1
     refine WC.seq ?_
     refine WC.region ?_
     refine WL.val rfl rfl rfl rfl (r_assign rfl ev_c) ?_
     refine WL.nil ?_
     refine WX.keep [(2, _)] ⟨rfl, trivial⟩ ?_
     refine WX.next ?_
     refine WC.ret ?_
     refine WX.thenRet ?_
     refine WX.retE1 rfl rfl ?_
     exact ⟨rfl, rfl⟩
  · try (exfalso; first | (simp at hc1; done) | (simp only [decide_eq_true_eq, decide_eq_false_iff_not, Bool.not_eq_true', Bool.not_eq_false', Bool.not_eq_true, Bool.not_eq_false] at hc1; omega) | omega)
    all_goals
     try simp only [decide_eq_true_eq, decide_eq_false_iff_not, Bool.not_eq_true', Bool.not_eq_false', Bool.not_eq_true, Bool.not_eq_false, Option.isNone_none, Option.isNone_some, Option.isSome_none, Option.isSome_some, ne_eq, Decidable.not_not] at hc1
     refine WC.skip ?_
     refine WX.next ?_
     refine WC.seq ?_
     refine WC.region ?_
     refine WL.val rfl rfl rfl rfl (r_move rfl (ev_t rfl)) ?_
     refine WL.val rfl rfl rfl rfl (r_nilCheck rfl (ev_t rfl)) ?_
     first | refine WL.val rfl rfl rfl rfl (r_field0 rfl (ev_t rfl) fld_83_1) ?_ | refine WL.val rfl rfl rfl rfl (r_fieldAt rfl (ev_t rfl) fld_83_1) ?_
     fail -- load 3.3: no facts
theorem Arm_nil {w : World} {n : Int} : Ret Try.prog 21 #[.pointer none, .int .i64 n] w fun v' w' => v' = .int .i64 6 ∧ w = w' := by
  refine enterRet (vs := [_, _]) (N := 15) Try.func21 rfl rfl rfl ?_
  refine WC.keep [(0, _), (1, _)] ⟨rfl, rfl, trivial⟩ ?_
  refine WC.seq ?_
  refine WC.region ?_
  refine WL.val rfl rfl rfl rfl (r_assign rfl ev_c) ?_
  refine WL.nil ?_
  refine WX.keep [(0, _), (1, _)] ⟨rfl, rfl, trivial⟩ ?_
  refine WX.next ?_
  refine WC.seq ?_
  refine WC.block ?_
  refine WC.seq ?_
  refine WC.region ?_
  refine WL.val rfl rfl rfl rfl (r_move rfl (ev_t rfl)) ?_
  refine WL.val rfl rfl rfl rfl (r_eqlPtrNil rfl (ev_t rfl) ev_c ptr_25) ?_
  refine WL.val rfl rfl rfl rfl (r_assign rfl (ev_t rfl)) ?_
  refine WL.nil ?_
  refine WX.keep [(0, _), (1, _), (5, _)] ⟨rfl, rfl, rfl, trivial⟩ ?_
  refine WX.next ?_
  refine WC.cond rfl (ev_t rfl) (fun hc1 => ?_) (fun hc1 => ?_)
  · try (exfalso; first | (simp at hc1; done) | (simp only [decide_eq_true_eq, decide_eq_false_iff_not, Bool.not_eq_true', Bool.not_eq_false', Bool.not_eq_true, Bool.not_eq_false] at hc1; omega) | omega)
    all_goals
     try simp only [decide_eq_true_eq, decide_eq_false_iff_not, Bool.not_eq_true', Bool.not_eq_false', Bool.not_eq_true, Bool.not_eq_false, Option.isNone_none, Option.isNone_some, Option.isSome_none, Option.isSome_some, ne_eq, Decidable.not_not] at hc1
     refine WC.seq ?_
     refine WC.region ?_
     refine WL.val rfl rfl rfl rfl (r_assign rfl ev_c) ?_
     refine WL.nil ?_
     refine WX.keep [(4, _)] ⟨rfl, trivial⟩ ?_
     refine WX.next ?_
     refine WC.ret ?_
     refine WX.blockRet ?_
     refine WX.thenRet ?_
     refine WX.retE1 rfl rfl ?_
     exact ⟨rfl, rfl⟩
  · try (exfalso; first | (simp at hc1; done) | (simp only [decide_eq_true_eq, decide_eq_false_iff_not, Bool.not_eq_true', Bool.not_eq_false', Bool.not_eq_true, Bool.not_eq_false] at hc1; omega) | omega)
    all_goals
     try simp only [decide_eq_true_eq, decide_eq_false_iff_not, Bool.not_eq_true', Bool.not_eq_false', Bool.not_eq_true, Bool.not_eq_false, Option.isNone_none, Option.isNone_some, Option.isSome_none, Option.isSome_some, ne_eq, Decidable.not_not] at hc1
     refine WC.seq ?_
     refine WC.region ?_
     refine WL.val rfl rfl rfl rfl (r_move rfl (ev_t rfl)) ?_
     refine WL.val rfl rfl rfl rfl (r_lss rfl (ev_t rfl) ev_c) ?_
     refine WL.val rfl rfl rfl rfl (r_assign rfl (ev_t rfl)) ?_
     refine WL.nil ?_
     refine WX.keep [(0, _), (1, _), (8, _)] ⟨rfl, rfl, rfl, trivial⟩ ?_
     refine WX.next ?_
     refine WC.cond rfl (ev_t rfl) (fun hc3 => ?_) (fun hc3 => ?_)
     · try (exfalso; first | (simp at hc3; done) | (simp only [decide_eq_true_eq, decide_eq_false_iff_not, Bool.not_eq_true', Bool.not_eq_false', Bool.not_eq_true, Bool.not_eq_false] at hc3; omega) | omega)
       all_goals
        try simp only [decide_eq_true_eq, decide_eq_false_iff_not, Bool.not_eq_true', Bool.not_eq_false', Bool.not_eq_true, Bool.not_eq_false, Option.isNone_none, Option.isNone_some, Option.isSome_none, Option.isSome_some, ne_eq, Decidable.not_not] at hc3
        refine WC.seq ?_
        refine WC.region ?_
        refine WL.val rfl rfl rfl rfl (r_assign rfl ev_c) ?_
        refine WL.nil ?_
        refine WX.keep [(4, _)] ⟨rfl, trivial⟩ ?_
        refine WX.next ?_
        refine WC.ret ?_
        refine WX.blockRet ?_
        refine WX.thenRet ?_
        refine WX.retE1 rfl rfl ?_
        exact ⟨rfl, rfl⟩
     · try (exfalso; first | (simp at hc3; done) | (simp only [decide_eq_true_eq, decide_eq_false_iff_not, Bool.not_eq_true', Bool.not_eq_false', Bool.not_eq_true, Bool.not_eq_false] at hc3; omega) | omega)
       all_goals
        try simp only [decide_eq_true_eq, decide_eq_false_iff_not, Bool.not_eq_true', Bool.not_eq_false', Bool.not_eq_true, Bool.not_eq_false, Option.isNone_none, Option.isNone_some, Option.isSome_none, Option.isSome_some, ne_eq, Decidable.not_not] at hc3
        refine WC.skip ?_
        refine WX.blockNormal ?_
        refine WX.next ?_
        refine WC.seq ?_
        refine WC.region ?_
        refine WL.val rfl rfl rfl rfl (r_move rfl (ev_t rfl)) ?_
        refine WL.val rfl rfl rfl rfl (r_move rfl (ev_t rfl)) ?_
        refine WL.val rfl rfl rfl rfl (r_nilCheck rfl (ev_t rfl)) ?_
        first | refine WL.val rfl rfl rfl rfl (r_field0 rfl (ev_t rfl) fld_83_3) ?_ | refine WL.val rfl rfl rfl rfl (r_fieldAt rfl (ev_t rfl) fld_83_3) ?_
        fail -- store 5.4: which block? (st 5.4: name)
theorem Arm_ok {w : World} {F : Nat → Prop} {p : Nat} {D : DS} {n : Int} (h : IsD w F p D) (hn : inK .i64 n) : Ret Try.prog 21 #[.pointer (some ⟨p, 0, none⟩), .int .i64 n] w fun v' w' =>
    v' = .int .i64 (if n < 0 then 1 else 0) ∧ IsD w' F p (if n < 0 then D else { D with armed := n }) ∧ Upd F w w' := by
  obtain ⟨g, l, h⟩ := h
  have hb := h.hd
  refine enterRet (vs := [_, _]) (N := 15) Try.func21 rfl rfl rfl ?_
  have hU := Upd.refl (At p) w
  refine WC.keep [(0, _), (1, _)] ⟨rfl, rfl, trivial⟩ ?_
  refine WC.seq ?_
  refine WC.region ?_
  refine WL.val rfl rfl rfl rfl (r_assign rfl ev_c) ?_
  refine WL.nil ?_
  refine WX.keep [(0, _), (1, _)] ⟨rfl, rfl, trivial⟩ ?_
  refine WX.next ?_
  refine WC.seq ?_
  refine WC.block ?_
  refine WC.seq ?_
  refine WC.region ?_
  refine WL.val rfl rfl rfl rfl (r_move rfl (ev_t rfl)) ?_
  refine WL.val rfl rfl rfl rfl (r_eqlPtrNil rfl (ev_t rfl) ev_c ptr_25) ?_
  refine WL.val rfl rfl rfl rfl (r_assign rfl (ev_t rfl)) ?_
  refine WL.nil ?_
  refine WX.keep [(0, _), (1, _), (5, _)] ⟨rfl, rfl, rfl, trivial⟩ ?_
  refine WX.next ?_
  refine WC.cond rfl (ev_t rfl) (fun hc1 => ?_) (fun hc1 => ?_)
  · try (exfalso; first | (simp at hc1; done) | (simp only [decide_eq_true_eq, decide_eq_false_iff_not, Bool.not_eq_true', Bool.not_eq_false', Bool.not_eq_true, Bool.not_eq_false] at hc1; omega) | omega)
    all_goals
     try simp only [decide_eq_true_eq, decide_eq_false_iff_not, Bool.not_eq_true', Bool.not_eq_false', Bool.not_eq_true, Bool.not_eq_false, Option.isNone_none, Option.isNone_some, Option.isSome_none, Option.isSome_some, ne_eq, Decidable.not_not] at hc1
     refine WC.seq ?_
     refine WC.region ?_
     refine WL.val rfl rfl rfl rfl (r_assign rfl ev_c) ?_
     refine WL.nil ?_
     refine WX.keep [(4, _)] ⟨rfl, trivial⟩ ?_
     refine WX.next ?_
     refine WC.ret ?_
     refine WX.blockRet ?_
     refine WX.thenRet ?_
     refine WX.retE1 rfl rfl ?_
     rw [if_neg (by omega), if_neg (by omega)]
     exact ⟨rfl, ⟨g, l, h.head hU hb rfl ⟨h.wf.most, h.wf.len, hn, h.wf.trk⟩⟩, hU.mono (fun k _ hk => by simp only [At] at hk; subst hk; exact h.own.1)⟩
  · try (exfalso; first | (simp at hc1; done) | (simp only [decide_eq_true_eq, decide_eq_false_iff_not, Bool.not_eq_true', Bool.not_eq_false', Bool.not_eq_true, Bool.not_eq_false] at hc1; omega) | omega)
    all_goals
     try simp only [decide_eq_true_eq, decide_eq_false_iff_not, Bool.not_eq_true', Bool.not_eq_false', Bool.not_eq_true, Bool.not_eq_false, Option.isNone_none, Option.isNone_some, Option.isSome_none, Option.isSome_some, ne_eq, Decidable.not_not] at hc1
     refine WC.seq ?_
     refine WC.region ?_
     refine WL.val rfl rfl rfl rfl (r_move rfl (ev_t rfl)) ?_
     refine WL.val rfl rfl rfl rfl (r_lss rfl (ev_t rfl) ev_c) ?_
     refine WL.val rfl rfl rfl rfl (r_assign rfl (ev_t rfl)) ?_
     refine WL.nil ?_
     refine WX.keep [(0, _), (1, _), (8, _)] ⟨rfl, rfl, rfl, trivial⟩ ?_
     refine WX.next ?_
     refine WC.cond rfl (ev_t rfl) (fun hc3 => ?_) (fun hc3 => ?_)
     · try (exfalso; first | (simp at hc3; done) | (simp only [decide_eq_true_eq, decide_eq_false_iff_not, Bool.not_eq_true', Bool.not_eq_false', Bool.not_eq_true, Bool.not_eq_false] at hc3; omega) | omega)
       all_goals
        try simp only [decide_eq_true_eq, decide_eq_false_iff_not, Bool.not_eq_true', Bool.not_eq_false', Bool.not_eq_true, Bool.not_eq_false, Option.isNone_none, Option.isNone_some, Option.isSome_none, Option.isSome_some, ne_eq, Decidable.not_not] at hc3
        refine WC.seq ?_
        refine WC.region ?_
        refine WL.val rfl rfl rfl rfl (r_assign rfl ev_c) ?_
        refine WL.nil ?_
        refine WX.keep [(4, _)] ⟨rfl, trivial⟩ ?_
        refine WX.next ?_
        refine WC.ret ?_
        refine WX.blockRet ?_
        refine WX.thenRet ?_
        refine WX.retE1 rfl rfl ?_
        rw [if_pos (by omega), if_pos (by omega)]
        exact ⟨rfl, ⟨g, l, h⟩, Upd.refl _ _⟩
     · try (exfalso; first | (simp at hc3; done) | (simp only [decide_eq_true_eq, decide_eq_false_iff_not, Bool.not_eq_true', Bool.not_eq_false', Bool.not_eq_true, Bool.not_eq_false] at hc3; omega) | omega)
       all_goals
        try simp only [decide_eq_true_eq, decide_eq_false_iff_not, Bool.not_eq_true', Bool.not_eq_false', Bool.not_eq_true, Bool.not_eq_false, Option.isNone_none, Option.isNone_some, Option.isSome_none, Option.isSome_some, ne_eq, Decidable.not_not] at hc3
        refine WC.skip ?_
        refine WX.blockNormal ?_
        refine WX.next ?_
        refine WC.seq ?_
        refine WC.region ?_
        refine WL.val rfl rfl rfl rfl (r_move rfl (ev_t rfl)) ?_
        refine WL.val rfl rfl rfl rfl (r_move rfl (ev_t rfl)) ?_
        refine WL.val rfl rfl rfl rfl (r_nilCheck rfl (ev_t rfl)) ?_
        first | refine WL.val rfl rfl rfl rfl (r_field0 rfl (ev_t rfl) fld_83_3) ?_ | refine WL.val rfl rfl rfl rfl (r_fieldAt rfl (ev_t rfl) fld_83_3) ?_
        refine WL.cons (SO.store rfl (ev_t rfl) (ev_t rfl) size_3 hb rfl rfl rfl rfl rfl ?_)
        intro w1 hu1 hb hz1
        have hs1 := hu1.size
        replace hU := hU.transA hu1
        refine WL.nil ?_
        refine WX.keep [] trivial ?_
        refine WX.next ?_
        refine WC.seq ?_
        refine WC.region ?_
        refine WL.val rfl rfl rfl rfl (r_assign rfl ev_c) ?_
        refine WL.nil ?_
        refine WX.keep [(4, _)] ⟨rfl, trivial⟩ ?_
        refine WX.next ?_
        refine WC.ret ?_
        refine WX.retE1 rfl rfl ?_
        rw [if_neg (by omega), if_neg (by omega)]
        exact ⟨rfl, ⟨g, l, h.head hU hb rfl ⟨h.wf.most, h.wf.len, hn, h.wf.trk⟩⟩, hU.mono (fun k _ hk => by simp only [At] at hk; subst hk; exact h.own.1)⟩
end Go.Proofs.Ytejlmcdmoghmaaa
