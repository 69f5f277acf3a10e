/-
  types: arguments as trees; law 06: small, of, apart; Same.
-/
import Derived.Test.YtncakfcafkfmfaaTyg
namespace Go.Proofs.Ytncakfcafkfmfaa
open Go
set_option linter.unusedSimpArgs false
set_option linter.unusedVariables false

/-- a type as it may come in -/
inductive Tr where
  | mk (n : List UInt8) (v : Int) (ks : List Tr)
inductive TR (w : World) (F : Nat → Prop) : C3 → Tr → Prop
  | mk {n : List UInt8} {v : Int} {ks : List Tr} {kv : Value} {xs : List C3} : Rd w F kv ks.length 3 (xs.flatMap c3) → xs.length = ks.length → ks.length ≤ 2932031007402 → inK .i64 v → (∀ (i : Nat) c k, xs[i]? = some c → ks[i]? = some k → TR w F c k) → TR w F (.string ⟨n.toArray⟩, .int .i64 v, kv) (.mk n v ks)
theorem TR.upd {w w' : World} {F S : Nat → Prop} {c : C3} {t : Tr} (h : TR w F c t) (hu : Upd S w w') (hn : ∀ k, F k → k < w.heap.size → ¬ S k) : TR w' F c t := by
  induction h with
  | mk hr hl hb hv hk ih => exact .mk (hr.upd hu hn) hl hb hv fun i c k hc hk' => ih i c k hc hk'
theorem TR.updA {w w' : World} {F S : Nat → Prop} {c : C3} {t : Tr} (h : TR w F c t) (hu : Upd S w w') (hn : ∀ k, F k → k < w.heap.size → ¬ S k := by first | exact (fun _ _ _ h => h) | with_reducible assumption | (intro k hk hl hS; simp only [At] at hS; subst hS; contradiction) | (intro k hk hl hS; (try simp only [At, From, No, Grow, New] at hk hS); omega)) : TR w' F c t := h.upd hu hn
theorem TR.bound {w : World} {F : Nat → Prop} {c : C3} {t : Tr} (h : TR w F c t) : TR w (fun k => F k ∧ k < w.heap.size) c t := by
  induction h with
  | mk hr hl hb hv hk ih => exact .mk hr.bound hl hb hv fun i c k hc hk' => ih i c k hc hk'
theorem TR.open {w : World} {F : Nat → Prop} {a b c : Value} {n : List UInt8} {v : Int} {ks : List Tr} (h : TR w F (a, b, c) (.mk n v ks)) : ∃ (A : Option Addr) (k : Nat) (xs : List C3), a = .string ⟨n.toArray⟩ ∧ b = .int .i64 v ∧ c = .slice A ks.length k ∧ Rd w F (.slice A ks.length k) ks.length 3 (xs.flatMap c3) ∧ xs.length = ks.length ∧ ks.length ≤ 2932031007402 ∧ inK .i64 v ∧ ∀ (i : Nat) c k, xs[i]? = some c → ks[i]? = some k → TR w F c k := by
  cases h with
  | mk hr hl hb hv hk =>
    obtain ⟨A, k, rfl, _⟩ := hr.slice_form
    exact ⟨A, k, _, rfl, rfl, rfl, hr, hl, hb, hv, hk⟩
/-- types in a row, as they may come in -/
def TRs (w : World) (F : Nat → Prop) (xs : List C3) (ts : List Tr) : Prop := xs.length = ts.length ∧ ∀ (i : Nat) c t, xs[i]? = some c → ts[i]? = some t → TR w F c t
theorem TRs.upd {w w' : World} {F S : Nat → Prop} {xs : List C3} {ts : List Tr} (h : TRs w F xs ts) (hu : Upd S w w') (hn : ∀ k, F k → k < w.heap.size → ¬ S k) : TRs w' F xs ts := ⟨h.1, fun i c t h1 h2 => (h.2 i c t h1 h2).upd hu hn⟩
theorem TRs.updA {w w' : World} {F S : Nat → Prop} {xs : List C3} {ts : List Tr} (h : TRs w F xs ts) (hu : Upd S w w') (hn : ∀ k, F k → k < w.heap.size → ¬ S k := by first | exact (fun _ _ _ h => h) | with_reducible assumption | (intro k hk hl hS; simp only [At] at hS; subst hS; contradiction) | (intro k hk hl hS; (try simp only [At, From, No, Grow, New] at hk hS); omega)) : TRs w' F xs ts := h.upd hu hn
/-- few parts, and variables from 1 on: d levels at most -/
def smallR : Nat → Tr → Bool
  | 0, _ => false
  | d + 1, .mk n v ks => decide (ks.length ≤ 5 ∧ (n = [] → 1 ≤ v ∧ v ≤ 1000 ∧ ks.length = 0)) && ks.all (smallR d)
/-- such a type, clean -/
def cleanR : Nat → Tr → Ty
  | 0, _ => .v 0
  | d + 1, .mk n v ks => if h : n = [] then .v v else .c ⟨n, h⟩ (ks.map (cleanR d))
theorem clean_tv {w : World} {F : Nat → Prop} : ∀ {d : Nat} {t : Tr} {c : C3}, smallR d t = true → TR w F c t → TV w F c (cleanR d t)
  | 0, t, c, h, _ => by simp [smallR] at h
  | d + 1, .mk n v ks, (a, b, c), h, ht => by
    obtain ⟨A, k, xs, rfl, rfl, rfl, hr, hl, hb, hv, hk⟩ := ht.open
    simp only [smallR, Bool.and_eq_true, decide_eq_true_eq] at h
    obtain ⟨⟨h1, h2⟩, h3⟩ := h
    simp only [cleanR]
    by_cases hn : n = []
    · have h0 := (h2 hn).2.2
      have hks : ks = [] := List.eq_nil_of_length_eq_zero h0
      subst hks hn
      simp only [dif_pos]
      have hxs : xs = [] := List.eq_nil_of_length_eq_zero hl
      subst hxs
      exact .mk (t := .v v) (xs := []) (fun y e => by injection e) hr rfl (Nat.zero_le _) (fun i c k h => by simp at h)
    · simp only [hn, dif_neg, not_false_eq_true]
      refine .mk (t := .c ⟨n, hn⟩ (ks.map (cleanR d))) (xs := xs) (fun y e => by cases e) ?_ (by simpa [Ty.kids] using hl) (by simp [Ty.kids]; omega) ?_
      · simpa [Ty.kids] using hr
      · intro i c' k' hc hk'
        simp only [Ty.kids, List.getElem?_map] at hk'
        cases hki : ks[i]? with
        | none => rw [hki] at hk'; cases hk'
        | some k0 =>
          rw [hki] at hk'
          injection hk' with hk'
          subst hk'
          exact clean_tv (List.all_eq_true.1 h3 k0 (List.mem_of_getElem? hki)) (hk i c' k0 hc hki)
theorem clean_vars : ∀ {d : Nat} {t : Tr}, smallR d t = true → ∀ x ∈ vars (cleanR d t), 1 ≤ x ∧ x ≤ 1000
  | 0, t, h, _, _ => by simp [smallR] at h
  | d + 1, .mk n v ks, h, x, hx => by
    simp only [smallR, Bool.and_eq_true, decide_eq_true_eq] at h
    obtain ⟨⟨h1, h2⟩, h3⟩ := h
    simp only [cleanR] at hx
    by_cases hn : n = []
    · simp only [hn, dif_pos, vars_v, List.mem_singleton] at hx
      subst hx
      exact ⟨(h2 hn).1, (h2 hn).2.1⟩
    · simp only [hn, dif_neg, not_false_eq_true] at hx
      obtain ⟨k, hk, hx⟩ := mem_vars_c.1 hx
      obtain ⟨k0, hk0, rfl⟩ := List.mem_map.1 hk
      exact clean_vars (List.all_eq_true.1 h3 k0 hk0) x hx

theorem of_ok {w : World} {s : ByteArray} {A : Option Addr} {n c : Nat} :
    Ret Try.prog 13 #[.string s, .slice A n c] w fun v w' => v = .agg #[.string s, .int .i64 0, .slice A n c] ∧ Upd No w w' := by
  refine enterRet (vs := [_, _]) (N := 8) Try.func13 rfl rfl rfl ?_
  have hU := Upd.refl No w
  refine WC.keep [(0, _), (1, _)] ⟨rfl, rfl, trivial⟩ ?_
  refine WC.seq ?_
  refine WC.region ?_
  refine WL.cons (SO.alloc rfl rfl rfl rfl (r_alloc rfl zero_28) ?_)
  intro w1 hu1 hB1 hz1
  have hs1 := hu1.size
  replace hU := hU.transA hu1
  refine WL.nil ?_
  refine WX.keep [(0, _), (1, _), (4, _)] ⟨rfl, rfl, rfl, trivial⟩ ?_
  refine WX.next ?_
  refine WC.seq ?_
  refine WC.region ?_
  refine WL.val rfl rfl rfl rfl (r_move rfl (ev_t rfl)) ?_
  refine WL.val rfl rfl rfl rfl (r_move rfl (ev_t rfl)) ?_
  refine WL.val rfl rfl rfl rfl (r_build (cs := #[_, _, _]) (vs := [(0, _), (2, _)]) rfl ⟨⟨rfl, (ev_t rfl)⟩, ⟨rfl, (ev_t rfl)⟩, trivial⟩ plc_28 zero_28 rfl) ?_
  refine WL.cons (SO.storeAll (us := [_, _, _]) rfl (ev_t rfl) (ev_t rfl) size_28 hB1 rfl rfl rfl rfl rfl ?_)
  intro w2 hu2 hB1 hz2
  have hs2 := hu2.size
  replace hU := hU.transA hu2
  refine WL.nil ?_
  refine WX.keep [(4, _)] ⟨rfl, trivial⟩ ?_
  refine WX.next ?_
  refine WC.ret ?_
  refine WX.retC (vs := [_, _, _]) rfl rfl agg_28 size_28 (Blk.cellsL hB1) ?_
  exact ⟨rfl, hU⟩

theorem all_take_succ {α : Type} {p : α → Bool} {l : List α} {i : Nat} {a : α} (h : l[i]? = some a) : (l.take (i + 1)).all p = ((l.take i).all p && p a) := by
  have hi : i < l.length := (List.getElem?_eq_some_iff.1 h).1
  rw [List.getElem?_eq_getElem hi] at h
  injection h with h
  rw [List.take_succ_eq_append_getElem hi, List.all_append, h]
  simp
theorem all_false_of {α : Type} {p : α → Bool} {l : List α} {i : Nat} {a : α} (h : l[i]? = some a) (hp : p a = false) : l.all p = false := by
  rw [Bool.eq_false_iff]
  intro h1
  have := List.all_eq_true.1 h1 a (List.mem_of_getElem? h)
  rw [hp] at this
  cases this

set_option maxHeartbeats 1000000 in
theorem small_ok : ∀ (d : Nat) (w : World) (F : Nat → Prop) (a b c : Value) (t : Tr), TR w F (a, b, c) t → d ≤ 100 →
    Ret Try.prog 14 #[.agg #[a, b, c], .int .i64 ((d : Int) - 1)] w fun v w' => v = .bool (smallR d t) ∧ Upd No w w' := by
  intro d
  induction d with
  | zero =>
    intro w F a b c t ht hd
    obtain ⟨n, v, ks⟩ := t
    obtain ⟨A, k, xs, rfl, rfl, rfl, hr, hl, hb, hv, hk⟩ := ht.open
    refine enterRet (vs := [_, _]) (N := 51) Try.func14 rfl rfl rfl ?_
    have hU := Upd.refl No w
    refine WC.keep [(0, _), (1, _)] ⟨rfl, rfl, trivial⟩ ?_
    refine WC.seq ?_
    refine WC.region ?_
    refine WL.cons (SO.alloc rfl rfl rfl rfl (r_boxAgg rfl (ev_t rfl)) ?_)
    intro w1 hu1 hB1 hz1
    have hs1 := hu1.size
    replace hU := hU.transA hu1
    refine WL.val rfl rfl rfl rfl (r_assign rfl ev_c) ?_
    refine WL.nil ?_
    refine WX.keep [(1, _), (2, _)] ⟨rfl, rfl, trivial⟩ ?_
    refine WX.next ?_
    refine WC.seq ?_
    refine WC.seq ?_
    refine WC.region ?_
    refine WL.val rfl rfl rfl rfl (r_move rfl (ev_t rfl)) ?_
    refine WL.val rfl rfl rfl rfl (r_lss rfl (ev_t rfl) ev_c) ?_
    refine WL.val rfl rfl rfl rfl (r_move rfl (ev_t rfl)) ?_
    refine WL.cases 8 rfl (fun hb1_2 => ?_) (fun hb1_2 => ?_)
    · try (exfalso; first | (simp at hb1_2; done) | (simp only [decide_eq_true_eq, decide_eq_false_iff_not, Bool.not_eq_true', Bool.not_eq_false', Bool.not_eq_true, Bool.not_eq_false] at hb1_2; omega) | omega)
      all_goals
       try simp only [decide_eq_true_eq, decide_eq_false_iff_not, Bool.not_eq_true', Bool.not_eq_false', Bool.not_eq_true, Bool.not_eq_false, Option.isNone_none, Option.isNone_some, Option.isSome_none, Option.isSome_some, ne_eq, Decidable.not_not] at hb1_2
       refine WL.skip rfl rfl rfl ?_
       refine WL.skip rfl rfl rfl ?_
       refine WL.skip rfl rfl rfl ?_
       refine WL.skip rfl rfl rfl ?_
       refine WL.val rfl rfl rfl rfl (r_pickT rfl (ev_t rfl) ev_c) ?_
       refine WL.val rfl rfl rfl rfl (r_move rfl (ev_t rfl)) ?_
       refine WL.skip rfl rfl rfl ?_
       refine WL.skip rfl rfl rfl ?_
       refine WL.skip rfl rfl rfl ?_
       refine WL.skip rfl rfl rfl ?_
       refine WL.skip rfl rfl rfl ?_
       refine WL.skip rfl rfl rfl ?_
       refine WL.skip rfl rfl rfl ?_
       refine WL.skip rfl rfl rfl ?_
       refine WL.skip rfl rfl rfl ?_
       refine WL.skip rfl rfl rfl ?_
       refine WL.skip rfl rfl rfl ?_
       refine WL.skip rfl rfl rfl ?_
       refine WL.skip rfl rfl rfl ?_
       refine WL.skip rfl rfl rfl ?_
       refine WL.skip rfl rfl rfl ?_
       refine WL.skip rfl rfl rfl ?_
       refine WL.skip rfl rfl rfl ?_
       refine WL.skip rfl rfl rfl ?_
       refine WL.skip rfl rfl rfl ?_
       refine WL.val rfl rfl rfl rfl (r_pickT rfl (ev_t rfl) ev_c) ?_
       refine WL.nil ?_
       refine WX.keep [(1, _), (2, _), (34, _)] ⟨rfl, rfl, rfl, trivial⟩ ?_
       refine WX.next ?_
       refine WC.cond_true rfl (ev_t rfl) ?_
       refine WC.seq ?_
       refine WC.region ?_
       refine WL.val rfl rfl rfl rfl (r_assign rfl ev_c) ?_
       refine WL.nil ?_
       refine WX.keep [(4, _)] ⟨rfl, trivial⟩ ?_
       refine WX.next ?_
       refine WC.ret ?_
       refine WX.thenRet ?_
       refine WX.retE1 rfl rfl ?_
       exact ⟨rfl, hU⟩
    · try simp only [decide_eq_true_eq, decide_eq_false_iff_not, Bool.not_eq_true', Bool.not_eq_false', Bool.not_eq_true, Bool.not_eq_false, Option.isNone_none, Option.isNone_some, Option.isSome_none, Option.isSome_some, ne_eq, Decidable.not_not] at hb1_2
      exfalso
      omega
  | succ d ih =>
    intro w F a b c t ht hd
    replace ht := ht.bound
    obtain ⟨n, v, ks⟩ := t
    obtain ⟨A, k, xs, rfl, rfl, rfl, hr, hl, hb, hv, hk⟩ := ht.open
    have hks : TRs w (fun k => F k ∧ k < w.heap.size) xs ks := ⟨hl, hk⟩
    simp only [inK] at hv
    refine enterRet (vs := [_, _]) (N := 51) Try.func14 rfl rfl rfl ?_
    have hU := Upd.refl No w
    refine WC.keep [(0, _), (1, _)] ⟨rfl, rfl, trivial⟩ ?_
    refine WC.seq ?_
    refine WC.region ?_
    refine WL.cons (SO.alloc rfl rfl rfl rfl (r_boxAgg rfl (ev_t rfl)) ?_)
    intro w1 hu1 hB1 hz1
    have hs1 := hu1.size
    replace hU := hU.transA hu1
    replace hr := hr.updA hu1
    replace hks := hks.updA hu1
    refine WL.val rfl rfl rfl rfl (r_assign rfl ev_c) ?_
    refine WL.nil ?_
    refine WX.keep [(1, _), (2, _)] ⟨rfl, rfl, trivial⟩ ?_
    refine WX.next ?_
    -- cut 1: live [1, 2]
    refine WC.cut (fun E wA => w1 = wA ∧ (ks.length ≤ 5 ∧ (n = [] → 1 ≤ v ∧ v ≤ 1000 ∧ ks.length = 0)) ∧ E = [(1, .int .i64 (((d + 1 : Nat) : Int) - 1)), (2, .pointer (some ⟨w.heap.size, 0, none⟩))]) ?_ ?_
    · refine WC.seq ?_
      refine WC.region ?_
      refine WL.val rfl rfl rfl rfl (r_move rfl (ev_t rfl)) ?_
      refine WL.val rfl rfl rfl rfl (r_lss rfl (ev_t rfl) ev_c) ?_
      refine WL.val rfl rfl rfl rfl (r_move rfl (ev_t rfl)) ?_
      refine WL.cases 8 rfl (fun hb1_2 => ?_) (fun hb1_2 => ?_)
      · try simp only [decide_eq_true_eq, decide_eq_false_iff_not, Bool.not_eq_true', Bool.not_eq_false', Bool.not_eq_true, Bool.not_eq_false, Option.isNone_none, Option.isNone_some, Option.isSome_none, Option.isSome_some, ne_eq, Decidable.not_not] at hb1_2
        exfalso
        omega
      · try (exfalso; first | (simp at hb1_2; done) | (simp only [decide_eq_true_eq, decide_eq_false_iff_not, Bool.not_eq_true', Bool.not_eq_false', Bool.not_eq_true, Bool.not_eq_false] at hb1_2; omega) | omega)
        all_goals
         try simp only [decide_eq_true_eq, decide_eq_false_iff_not, Bool.not_eq_true', Bool.not_eq_false', Bool.not_eq_true, Bool.not_eq_false, Option.isNone_none, Option.isNone_some, Option.isSome_none, Option.isSome_some, ne_eq, Decidable.not_not] at hb1_2
         first | refine WL.val rfl rfl rfl rfl (r_field0 rfl (ev_t rfl) fld_28_2) ?_ | refine WL.val rfl rfl rfl rfl (r_fieldAt rfl (ev_t rfl) fld_28_2) ?_
         refine WL.val rfl rfl rfl rfl (r_load rfl (ev_t rfl) flat_26 (Blk.cell hB1 rfl)) ?_
         refine WL.val rfl rfl rfl rfl (r_lenSlice (ts := #[]) rfl (ev_t rfl) elem_26) ?_
         refine WL.val rfl rfl rfl rfl (r_gtr rfl (ev_t rfl) ev_c) ?_
         refine WL.val rfl rfl rfl rfl (r_pickF rfl (ev_t rfl) (ev_t rfl)) ?_
         refine WL.val rfl rfl rfl rfl (r_move rfl (ev_t rfl)) ?_
         refine WL.cases 14 rfl (fun hb1_8 => ?_) (fun hb1_8 => ?_)
         · try (exfalso; first | (simp at hb1_8; done) | (simp only [decide_eq_true_eq, decide_eq_false_iff_not, Bool.not_eq_true', Bool.not_eq_false', Bool.not_eq_true, Bool.not_eq_false] at hb1_8; omega) | omega)
           all_goals
            try simp only [decide_eq_true_eq, decide_eq_false_iff_not, Bool.not_eq_true', Bool.not_eq_false', Bool.not_eq_true, Bool.not_eq_false, Option.isNone_none, Option.isNone_some, Option.isSome_none, Option.isSome_some, ne_eq, Decidable.not_not] at hb1_8
            refine WL.skip rfl rfl rfl ?_
            refine WL.skip rfl rfl rfl ?_
            refine WL.skip rfl rfl rfl ?_
            refine WL.skip rfl rfl rfl ?_
            refine WL.skip rfl rfl rfl ?_
            refine WL.skip rfl rfl rfl ?_
            refine WL.skip rfl rfl rfl ?_
            refine WL.skip rfl rfl rfl ?_
            refine WL.skip rfl rfl rfl ?_
            refine WL.skip rfl rfl rfl ?_
            refine WL.skip rfl rfl rfl ?_
            refine WL.skip rfl rfl rfl ?_
            refine WL.skip rfl rfl rfl ?_
            refine WL.skip rfl rfl rfl ?_
            refine WL.skip rfl rfl rfl ?_
            refine WL.skip rfl rfl rfl ?_
            refine WL.skip rfl rfl rfl ?_
            refine WL.skip rfl rfl rfl ?_
            refine WL.skip rfl rfl rfl ?_
            refine WL.val rfl rfl rfl rfl (r_pickT rfl (ev_t rfl) ev_c) ?_
            refine WL.nil ?_
            refine WX.keep [(1, _), (2, _), (34, _)] ⟨rfl, rfl, rfl, trivial⟩ ?_
            refine WX.next ?_
            refine WC.cond_true rfl (ev_t rfl) ?_
            refine WC.seq ?_
            refine WC.region ?_
            refine WL.val rfl rfl rfl rfl (r_assign rfl ev_c) ?_
            refine WL.nil ?_
            refine WX.keep [(4, _)] ⟨rfl, trivial⟩ ?_
            refine WX.next ?_
            refine WC.ret ?_
            refine WX.thenRet ?_
            refine WX.retE1 rfl rfl ?_
            refine ⟨?_, hU⟩
            congr 1
            simp only [smallR]
            have hno : ¬ (ks.length ≤ 5 ∧ (n = [] → 1 ≤ v ∧ v ≤ 1000 ∧ ks.length = 0)) := fun h => by
              first
                | omega
                | (have h9 := h.2 hb1_12; omega)
            rw [decide_eq_false hno, Bool.false_and]
         · try (exfalso; first | (simp at hb1_8; done) | (simp only [decide_eq_true_eq, decide_eq_false_iff_not, Bool.not_eq_true', Bool.not_eq_false', Bool.not_eq_true, Bool.not_eq_false] at hb1_8; omega) | omega)
           all_goals
            try simp only [decide_eq_true_eq, decide_eq_false_iff_not, Bool.not_eq_true', Bool.not_eq_false', Bool.not_eq_true, Bool.not_eq_false, Option.isNone_none, Option.isNone_some, Option.isSome_none, Option.isSome_some, ne_eq, Decidable.not_not] at hb1_8
            first | refine WL.val rfl rfl rfl rfl (r_field0 rfl (ev_t rfl) fld_28_0) ?_ | refine WL.val rfl rfl rfl rfl (r_fieldAt rfl (ev_t rfl) fld_28_0) ?_
            refine WL.val rfl rfl rfl rfl (r_load rfl (ev_t rfl) flat_9 (Blk.cell hB1 rfl)) ?_
            refine WL.val rfl rfl rfl rfl (r_eqlStrL rfl (ev_t rfl) ev_c) ?_
            refine WL.val rfl rfl rfl rfl (r_move rfl (ev_t rfl)) ?_
            refine WL.cases 18 rfl (fun hb1_12 => ?_) (fun hb1_12 => ?_)
            · try (exfalso; first | (simp at hb1_12; done) | (simp only [decide_eq_true_eq, decide_eq_false_iff_not, Bool.not_eq_true', Bool.not_eq_false', Bool.not_eq_true, Bool.not_eq_false] at hb1_12; omega) | omega)
              all_goals
               try simp only [decide_eq_true_eq, decide_eq_false_iff_not, Bool.not_eq_true', Bool.not_eq_false', Bool.not_eq_true, Bool.not_eq_false, Option.isNone_none, Option.isNone_some, Option.isSome_none, Option.isSome_some, ne_eq, Decidable.not_not] at hb1_12
               first | refine WL.val rfl rfl rfl rfl (r_field0 rfl (ev_t rfl) fld_28_1) ?_ | refine WL.val rfl rfl rfl rfl (r_fieldAt rfl (ev_t rfl) fld_28_1) ?_
               refine WL.val rfl rfl rfl rfl (r_load rfl (ev_t rfl) flat_3 (Blk.cell hB1 rfl)) ?_
               refine WL.val rfl rfl rfl rfl (r_lss rfl (ev_t rfl) ev_c) ?_
               refine WL.val rfl rfl rfl rfl (r_move rfl (ev_t rfl)) ?_
               refine WL.cases 22 rfl (fun hb1_16 => ?_) (fun hb1_16 => ?_)
               · try (exfalso; first | (simp at hb1_16; done) | (simp only [decide_eq_true_eq, decide_eq_false_iff_not, Bool.not_eq_true', Bool.not_eq_false', Bool.not_eq_true, Bool.not_eq_false] at hb1_16; omega) | omega)
                 all_goals
                  try simp only [decide_eq_true_eq, decide_eq_false_iff_not, Bool.not_eq_true', Bool.not_eq_false', Bool.not_eq_true, Bool.not_eq_false, Option.isNone_none, Option.isNone_some, Option.isSome_none, Option.isSome_some, ne_eq, Decidable.not_not] at hb1_16
                  refine WL.skip rfl rfl rfl ?_
                  refine WL.skip rfl rfl rfl ?_
                  refine WL.skip rfl rfl rfl ?_
                  refine WL.val rfl rfl rfl rfl (r_pickT rfl (ev_t rfl) ev_c) ?_
                  refine WL.val rfl rfl rfl rfl (r_move rfl (ev_t rfl)) ?_
                  refine WL.skip rfl rfl rfl ?_
                  refine WL.skip rfl rfl rfl ?_
                  refine WL.skip rfl rfl rfl ?_
                  refine WL.skip rfl rfl rfl ?_
                  refine WL.val rfl rfl rfl rfl (r_pickT rfl (ev_t rfl) ev_c) ?_
                  refine WL.val rfl rfl rfl rfl (r_pickT rfl (ev_t rfl) (ev_t rfl)) ?_
                  refine WL.val rfl rfl rfl rfl (r_pickF rfl (ev_t rfl) (ev_t rfl)) ?_
                  refine WL.nil ?_
                  refine WX.keep [(1, _), (2, _), (34, _)] ⟨rfl, rfl, rfl, trivial⟩ ?_
                  refine WX.next ?_
                  refine WC.cond_true rfl (ev_t rfl) ?_
                  refine WC.seq ?_
                  refine WC.region ?_
                  refine WL.val rfl rfl rfl rfl (r_assign rfl ev_c) ?_
                  refine WL.nil ?_
                  refine WX.keep [(4, _)] ⟨rfl, trivial⟩ ?_
                  refine WX.next ?_
                  refine WC.ret ?_
                  refine WX.thenRet ?_
                  refine WX.retE1 rfl rfl ?_
                  refine ⟨?_, hU⟩
                  congr 1
                  simp only [smallR]
                  have hno : ¬ (ks.length ≤ 5 ∧ (n = [] → 1 ≤ v ∧ v ≤ 1000 ∧ ks.length = 0)) := fun h => by
                    first
                      | omega
                      | (have h9 := h.2 hb1_12; omega)
                  rw [decide_eq_false hno, Bool.false_and]
               · try (exfalso; first | (simp at hb1_16; done) | (simp only [decide_eq_true_eq, decide_eq_false_iff_not, Bool.not_eq_true', Bool.not_eq_false', Bool.not_eq_true, Bool.not_eq_false] at hb1_16; omega) | omega)
                 all_goals
                  try simp only [decide_eq_true_eq, decide_eq_false_iff_not, Bool.not_eq_true', Bool.not_eq_false', Bool.not_eq_true, Bool.not_eq_false, Option.isNone_none, Option.isNone_some, Option.isSome_none, Option.isSome_some, ne_eq, Decidable.not_not] at hb1_16
                  first | refine WL.val rfl rfl rfl rfl (r_field0 rfl (ev_t rfl) fld_28_1) ?_ | refine WL.val rfl rfl rfl rfl (r_fieldAt rfl (ev_t rfl) fld_28_1) ?_
                  refine WL.val rfl rfl rfl rfl (r_load rfl (ev_t rfl) flat_3 (Blk.cell hB1 rfl)) ?_
                  refine WL.val rfl rfl rfl rfl (r_gtr rfl (ev_t rfl) ev_c) ?_
                  refine WL.val rfl rfl rfl rfl (r_pickF rfl (ev_t rfl) (ev_t rfl)) ?_
                  refine WL.val rfl rfl rfl rfl (r_move rfl (ev_t rfl)) ?_
                  refine WL.cases 27 rfl (fun hb1_21 => ?_) (fun hb1_21 => ?_)
                  · try (exfalso; first | (simp at hb1_21; done) | (simp only [decide_eq_true_eq, decide_eq_false_iff_not, Bool.not_eq_true', Bool.not_eq_false', Bool.not_eq_true, Bool.not_eq_false] at hb1_21; omega) | omega)
                    all_goals
                     try simp only [decide_eq_true_eq, decide_eq_false_iff_not, Bool.not_eq_true', Bool.not_eq_false', Bool.not_eq_true, Bool.not_eq_false, Option.isNone_none, Option.isNone_some, Option.isSome_none, Option.isSome_some, ne_eq, Decidable.not_not] at hb1_21
                     refine WL.skip rfl rfl rfl ?_
                     refine WL.skip rfl rfl rfl ?_
                     refine WL.skip rfl rfl rfl ?_
                     refine WL.skip rfl rfl rfl ?_
                     refine WL.val rfl rfl rfl rfl (r_pickT rfl (ev_t rfl) ev_c) ?_
                     refine WL.val rfl rfl rfl rfl (r_pickT rfl (ev_t rfl) (ev_t rfl)) ?_
                     refine WL.val rfl rfl rfl rfl (r_pickF rfl (ev_t rfl) (ev_t rfl)) ?_
                     refine WL.nil ?_
                     refine WX.keep [(1, _), (2, _), (34, _)] ⟨rfl, rfl, rfl, trivial⟩ ?_
                     refine WX.next ?_
                     refine WC.cond_true rfl (ev_t rfl) ?_
                     refine WC.seq ?_
                     refine WC.region ?_
                     refine WL.val rfl rfl rfl rfl (r_assign rfl ev_c) ?_
                     refine WL.nil ?_
                     refine WX.keep [(4, _)] ⟨rfl, trivial⟩ ?_
                     refine WX.next ?_
                     refine WC.ret ?_
                     refine WX.thenRet ?_
                     refine WX.retE1 rfl rfl ?_
                     refine ⟨?_, hU⟩
                     congr 1
                     simp only [smallR]
                     have hno : ¬ (ks.length ≤ 5 ∧ (n = [] → 1 ≤ v ∧ v ≤ 1000 ∧ ks.length = 0)) := fun h => by
                       first
                         | omega
                         | (have h9 := h.2 hb1_12; omega)
                     rw [decide_eq_false hno, Bool.false_and]
                  · try (exfalso; first | (simp at hb1_21; done) | (simp only [decide_eq_true_eq, decide_eq_false_iff_not, Bool.not_eq_true', Bool.not_eq_false', Bool.not_eq_true, Bool.not_eq_false] at hb1_21; omega) | omega)
                    all_goals
                     try simp only [decide_eq_true_eq, decide_eq_false_iff_not, Bool.not_eq_true', Bool.not_eq_false', Bool.not_eq_true, Bool.not_eq_false, Option.isNone_none, Option.isNone_some, Option.isSome_none, Option.isSome_some, ne_eq, Decidable.not_not] at hb1_21
                     first | refine WL.val rfl rfl rfl rfl (r_field0 rfl (ev_t rfl) fld_28_2) ?_ | refine WL.val rfl rfl rfl rfl (r_fieldAt rfl (ev_t rfl) fld_28_2) ?_
                     refine WL.val rfl rfl rfl rfl (r_load rfl (ev_t rfl) flat_26 (Blk.cell hB1 rfl)) ?_
                     refine WL.val rfl rfl rfl rfl (r_lenSlice (ts := #[]) rfl (ev_t rfl) elem_26) ?_
                     refine WL.val rfl rfl rfl rfl (r_gtr rfl (ev_t rfl) ev_c) ?_
                     refine WL.val rfl rfl rfl rfl (r_pickF rfl (ev_t rfl) (ev_t rfl)) ?_
                     refine WL.val rfl rfl rfl rfl (r_pickT rfl (ev_t rfl) (ev_t rfl)) ?_
                     refine WL.val rfl rfl rfl rfl (r_pickF rfl (ev_t rfl) (ev_t rfl)) ?_
                     refine WL.nil ?_
                     refine WX.keep [(1, _), (2, _), (34, _)] ⟨rfl, rfl, rfl, trivial⟩ ?_
                     refine WX.next ?_
                     refine WC.cond rfl (ev_t rfl) (fun hc1 => ?_) (fun hc1 => ?_)
                     · try (exfalso; first | (simp at hc1; done) | (simp only [decide_eq_true_eq, decide_eq_false_iff_not, Bool.not_eq_true', Bool.not_eq_false', Bool.not_eq_true, Bool.not_eq_false] at hc1; omega) | omega)
                       all_goals
                        try simp only [decide_eq_true_eq, decide_eq_false_iff_not, Bool.not_eq_true', Bool.not_eq_false', Bool.not_eq_true, Bool.not_eq_false, Option.isNone_none, Option.isNone_some, Option.isSome_none, Option.isSome_some, ne_eq, Decidable.not_not] at hc1
                        refine WC.seq ?_
                        refine WC.region ?_
                        refine WL.val rfl rfl rfl rfl (r_assign rfl ev_c) ?_
                        refine WL.nil ?_
                        refine WX.keep [(4, _)] ⟨rfl, trivial⟩ ?_
                        refine WX.next ?_
                        refine WC.ret ?_
                        refine WX.thenRet ?_
                        refine WX.retE1 rfl rfl ?_
                        refine ⟨?_, hU⟩
                        congr 1
                        simp only [smallR]
                        have hno : ¬ (ks.length ≤ 5 ∧ (n = [] → 1 ≤ v ∧ v ≤ 1000 ∧ ks.length = 0)) := fun h => by
                          first
                            | omega
                            | (have h9 := h.2 hb1_12; omega)
                        rw [decide_eq_false hno, Bool.false_and]
                     · try (exfalso; first | (simp at hc1; done) | (simp only [decide_eq_true_eq, decide_eq_false_iff_not, Bool.not_eq_true', Bool.not_eq_false', Bool.not_eq_true, Bool.not_eq_false] at hc1; omega) | omega)
                       all_goals
                        try simp only [decide_eq_true_eq, decide_eq_false_iff_not, Bool.not_eq_true', Bool.not_eq_false', Bool.not_eq_true, Bool.not_eq_false, Option.isNone_none, Option.isNone_some, Option.isSome_none, Option.isSome_some, ne_eq, Decidable.not_not] at hc1
                        refine WC.skip ?_
                        refine WX.meet [(1, _), (2, _)] ⟨rfl, rfl, trivial⟩ ?_
                        refine ⟨rfl, ⟨by omega, fun h => ?_⟩, rfl⟩
                        first
                          | exact absurd h hb1_12
                          | omega
            · try (exfalso; first | (simp at hb1_12; done) | (simp only [decide_eq_true_eq, decide_eq_false_iff_not, Bool.not_eq_true', Bool.not_eq_false', Bool.not_eq_true, Bool.not_eq_false] at hb1_12; omega) | omega)
              all_goals
               try simp only [decide_eq_true_eq, decide_eq_false_iff_not, Bool.not_eq_true', Bool.not_eq_false', Bool.not_eq_true, Bool.not_eq_false, Option.isNone_none, Option.isNone_some, Option.isSome_none, Option.isSome_some, ne_eq, Decidable.not_not] at hb1_12
               refine WL.skip rfl rfl rfl ?_
               refine WL.skip rfl rfl rfl ?_
               refine WL.skip rfl rfl rfl ?_
               refine WL.skip rfl rfl rfl ?_
               refine WL.skip rfl rfl rfl ?_
               refine WL.skip rfl rfl rfl ?_
               refine WL.skip rfl rfl rfl ?_
               refine WL.skip rfl rfl rfl ?_
               refine WL.skip rfl rfl rfl ?_
               refine WL.skip rfl rfl rfl ?_
               refine WL.skip rfl rfl rfl ?_
               refine WL.skip rfl rfl rfl ?_
               refine WL.skip rfl rfl rfl ?_
               refine WL.skip rfl rfl rfl ?_
               refine WL.val rfl rfl rfl rfl (r_pickF rfl (ev_t rfl) ev_c) ?_
               refine WL.val rfl rfl rfl rfl (r_pickF rfl (ev_t rfl) (ev_t rfl)) ?_
               refine WL.nil ?_
               refine WX.keep [(1, _), (2, _), (34, _)] ⟨rfl, rfl, rfl, trivial⟩ ?_
               refine WX.next ?_
               refine WC.cond_false rfl (ev_t rfl) ?_
               refine WC.skip ?_
               refine WX.meet [(1, _), (2, _)] ⟨rfl, rfl, trivial⟩ ?_
               refine ⟨rfl, ⟨by omega, fun h => ?_⟩, rfl⟩
               first
                 | exact absurd h hb1_12
                 | omega
    · rintro E wA ⟨rfl, htop, rfl⟩
      refine WC.seq ?_
      refine WC.seq ?_
      refine WC.region ?_
      refine WL.val rfl rfl rfl rfl (r_assign rfl ev_c) ?_
      refine WL.nil ?_
      refine WX.keep [(1, _), (2, _), (5, _)] ⟨rfl, rfl, rfl, trivial⟩ ?_
      refine WX.next ?_
      refine WC.block ?_
      -- loop 1: live [1, 2, 5]
      refine WC.keep [(1, _), (2, _), (5, _)] ⟨rfl, rfl, rfl, trivial⟩ ?_
      refine WC.loop (fun q E w' => ∃ (i : Nat), i ≤ ks.length ∧ q = ks.length - i ∧ Upd No w w' ∧ Blk w' w.heap.size #[.string ⟨n.toArray⟩, .int .i64 v, .slice A ks.length k] typ ∧ Rd w' (fun k => F k ∧ k < w.heap.size) (.slice A ks.length k) ks.length 3 (xs.flatMap c3) ∧ TRs w' (fun k => F k ∧ k < w.heap.size) xs ks ∧ (ks.take i).all (smallR d) = true ∧   E = [(1, .int .i64 (((d + 1 : Nat) : Int) - 1)), (2, .pointer (some ⟨w.heap.size, 0, none⟩)), (5, .int .i64 (i : Int))]) (ks.length) ?_ ?_
      · exact ⟨0, by omega, by omega, hU, hB1, hr, hks, rfl, rfl⟩
      · clear hU hB1 hr hks
        rintro q E w' ⟨i, hi, rfl, hU, hB1, hr, hks, hall, rfl⟩
        refine WC.seq ?_
        refine WC.seq ?_
        refine WC.region ?_
        refine WL.val rfl rfl rfl rfl (r_move rfl (ev_t rfl)) ?_
        first | refine WL.val rfl rfl rfl rfl (r_field0 rfl (ev_t rfl) fld_28_2) ?_ | refine WL.val rfl rfl rfl rfl (r_fieldAt rfl (ev_t rfl) fld_28_2) ?_
        refine WL.val rfl rfl rfl rfl (r_load rfl (ev_t rfl) flat_26 (Blk.cell hB1 rfl)) ?_
        refine WL.val rfl rfl rfl rfl (r_lenSlice (ts := #[]) rfl (ev_t rfl) elem_26) ?_
        refine WL.val rfl rfl rfl rfl (r_lss rfl (ev_t rfl) (ev_t rfl)) ?_
        refine WL.nil ?_
        refine WX.keep [(1, _), (2, _), (5, _), (39, _)] ⟨rfl, rfl, rfl, rfl, trivial⟩ ?_
        refine WX.next ?_
        refine WC.cond rfl (ev_t rfl) (fun hc4 => ?_) (fun hc4 => ?_)
        · try (exfalso; first | (simp at hc4; done) | (simp only [decide_eq_true_eq, decide_eq_false_iff_not, Bool.not_eq_true', Bool.not_eq_false', Bool.not_eq_true, Bool.not_eq_false] at hc4; omega) | omega)
          all_goals
           try simp only [decide_eq_true_eq, decide_eq_false_iff_not, Bool.not_eq_true', Bool.not_eq_false', Bool.not_eq_true, Bool.not_eq_false, Option.isNone_none, Option.isNone_some, Option.isSome_none, Option.isSome_some, ne_eq, Decidable.not_not] at hc4
           have hi' : i < ks.length := by omega
           obtain ⟨b0, off, rfl, _⟩ := hr.open (by omega)
           have hlx : i < xs.length := by have := hks.1; omega
           have hxi : xs[i]? = some xs[i] := List.getElem?_eq_getElem hlx
           have hki : ks[i]? = some ks[i] := List.getElem?_eq_getElem hi'
           have htk := hks.2 i _ _ hxi hki
           generalize xs[i] = ck at *
           generalize ks[i] = kk at *
           obtain ⟨ca, cb, cc⟩ := ck
           have htake := all_take_succ (p := smallR d) hki
           refine WC.skip ?_
           refine WX.next ?_
           refine WC.seq ?_
           refine WC.block ?_
           refine WC.seq ?_
           refine WC.region ?_
           first | refine WL.val rfl rfl rfl rfl (r_field0 rfl (ev_t rfl) fld_28_2) ?_ | refine WL.val rfl rfl rfl rfl (r_fieldAt rfl (ev_t rfl) fld_28_2) ?_
           refine WL.val rfl rfl rfl rfl (r_load rfl (ev_t rfl) flat_26 (Blk.cell hB1 rfl)) ?_
           refine WL.val rfl rfl rfl rfl (r_move rfl (ev_t rfl)) ?_
           refine WL.val rfl rfl rfl rfl (r_indexAddr rfl (ev_t rfl) (ev_t rfl) elem_26 size_28 (by omega) (by omega)) ?_
           refine WL.val rfl rfl rfl rfl (r_loadAgg (vs := [_, _, _]) rfl (ev_t rfl) agg_28 size_28 (kid_cells hr hxi rfl)) ?_
           refine WL.val rfl rfl rfl rfl (r_move rfl (ev_t rfl)) ?_
           first | refine WL.val rfl rfl rfl rfl (r_subN rfl (ev_t rfl) ev_c (by simp only [inK]; omega)) ?_ | refine WL.val rfl rfl rfl rfl (r_sub rfl (ev_t rfl) ev_c) ?_
           rw [show (((d + 1 : Nat) : Int) - 1 - 1) = (d : Int) - 1 by omega]
           refine WL.cons (SO.call (ih _ _ _ _ _ kk htk (by omega)) rfl body_14 ⟨(ev_t rfl), (ev_t rfl), trivial⟩ rfl rfl rfl rfl ?_)
           rintro v w2 ⟨rfl, hu2⟩
           have hs2 := hu2.size
           replace hU := hU.transA hu2
           replace hB1 := hB1.updA hu2
           replace hr := hr.updA hu2
           replace hks := hks.updA hu2
           refine WL.val rfl rfl rfl rfl (r_not rfl (ev_t rfl)) ?_
           refine WL.nil ?_
           refine WX.keep [(1, _), (2, _), (5, _), (50, _)] ⟨rfl, rfl, rfl, rfl, trivial⟩ ?_
           refine WX.next ?_
           refine WC.cond rfl (ev_t rfl) (fun hc6 => ?_) (fun hc6 => ?_)
           · try (exfalso; first | (simp at hc6; done) | (simp only [decide_eq_true_eq, decide_eq_false_iff_not, Bool.not_eq_true', Bool.not_eq_false', Bool.not_eq_true, Bool.not_eq_false] at hc6; omega) | omega)
             all_goals
              try simp only [decide_eq_true_eq, decide_eq_false_iff_not, Bool.not_eq_true', Bool.not_eq_false', Bool.not_eq_true, Bool.not_eq_false, Option.isNone_none, Option.isNone_some, Option.isSome_none, Option.isSome_some, ne_eq, Decidable.not_not] at hc6
              refine WC.seq ?_
              refine WC.region ?_
              refine WL.val rfl rfl rfl rfl (r_assign rfl ev_c) ?_
              refine WL.nil ?_
              refine WX.keep [(4, _)] ⟨rfl, trivial⟩ ?_
              refine WX.next ?_
              refine WC.ret ?_
              refine WX.blockRet ?_
              refine WX.thenRet ?_
              refine WX.thenRet ?_
              refine WX.blockRet ?_
              refine WX.thenRet ?_
              refine WX.retE1 rfl rfl ?_
              refine ⟨?_, hU⟩
              congr 1
              simp only [smallR]
              rw [all_false_of hki (by simpa using hc6)]
              simp
           · try (exfalso; first | (simp at hc6; done) | (simp only [decide_eq_true_eq, decide_eq_false_iff_not, Bool.not_eq_true', Bool.not_eq_false', Bool.not_eq_true, Bool.not_eq_false] at hc6; omega) | omega)
             all_goals
              try simp only [decide_eq_true_eq, decide_eq_false_iff_not, Bool.not_eq_true', Bool.not_eq_false', Bool.not_eq_true, Bool.not_eq_false, Option.isNone_none, Option.isNone_some, Option.isSome_none, Option.isSome_some, ne_eq, Decidable.not_not] at hc6
              refine WC.skip ?_
              refine WX.blockNormal ?_
              refine WX.next ?_
              refine WC.region ?_
              refine WL.val rfl rfl rfl rfl (r_move rfl (ev_t rfl)) ?_
              first | refine WL.val rfl rfl rfl rfl (r_addN rfl (ev_t rfl) ev_c (by simp only [inK]; omega)) ?_ | refine WL.val rfl rfl rfl rfl (r_add rfl (ev_t rfl) ev_c) ?_
              refine WL.val rfl rfl rfl rfl (r_assign rfl (ev_t rfl)) ?_
              refine WL.nil ?_
              refine WX.keep [(1, _), (2, _), (5, _)] ⟨rfl, rfl, rfl, trivial⟩ ?_
              refine WX.meet [(1, _), (2, _), (5, _)] ⟨rfl, rfl, rfl, trivial⟩ ?_
              exact ⟨ks.length - (i + 1), by omega, i + 1, by omega, rfl, hU, hB1, hr, hks, by rw [htake, hall]; simpa using hc6, by simp⟩
        · try (exfalso; first | (simp at hc4; done) | (simp only [decide_eq_true_eq, decide_eq_false_iff_not, Bool.not_eq_true', Bool.not_eq_false', Bool.not_eq_true, Bool.not_eq_false] at hc4; omega) | omega)
          all_goals
           try simp only [decide_eq_true_eq, decide_eq_false_iff_not, Bool.not_eq_true', Bool.not_eq_false', Bool.not_eq_true, Bool.not_eq_false, Option.isNone_none, Option.isNone_some, Option.isSome_none, Option.isSome_some, ne_eq, Decidable.not_not] at hc4
           refine WC.exit ?_
           refine WX.thenExit ?_
           refine WX.thenExit ?_
           refine WX.blockHere ?_
           refine WX.next ?_
           refine WC.seq ?_
           refine WC.region ?_
           refine WL.val rfl rfl rfl rfl (r_assign rfl ev_c) ?_
           refine WL.nil ?_
           refine WX.keep [(4, _)] ⟨rfl, trivial⟩ ?_
           refine WX.next ?_
           refine WC.ret ?_
           refine WX.retE1 rfl rfl ?_
           refine ⟨?_, hU⟩
           have h0 : ks.take i = ks := List.take_of_length_le (by omega)
           rw [h0] at hall
           congr 1
           simp only [smallR, hall, Bool.and_true]
           exact (decide_eq_true htop).symm
end Go.Proofs.Ytncakfcafkfmfaa
