/-
  types: Contains; Free.
-/
import Derived.Test.YtncakfcafkfmfaaTyc
namespace Go.Proofs.Ytncakfcafkfmfaa
open Go
set_option linter.unusedSimpArgs false
set_option linter.unusedVariables false

def I6 (n : Int) : Value := .int .i64 n
theorem I6_one (l : List Int) : ∀ u ∈ l.map I6, u.oneCell' = true := fun u hu => by
  obtain ⟨c, _, rfl⟩ := List.mem_map.1 hu
  rfl
theorem sindex_ok {w : World} {F : Nat → Prop} {A : Option Addr} {c : Nat} {l : List Int} {x : Int} (hr : Rd w F (.slice A l.length c) l.length 1 (l.map I6)) :
    Ret Try.prog 43 #[.slice A l.length c, .int .i64 x] w fun v w' => ∃ i : Int, v = .int .i64 i ∧ w = w' ∧ (i < 0 → x ∉ l) ∧ (0 ≤ i → l[i.toNat]? = some x ∧ ∀ j, j < i.toNat → l[j]? ≠ some x) := by
  have hm := hr.le
  refine enterRet (vs := [_, _]) (N := 19) Try.func43 rfl rfl rfl ?_
  refine WC.keep [(0, _), (1, _)] ⟨rfl, rfl, trivial⟩ ?_
  refine WC.seq ?_
  refine WC.region ?_
  refine WL.val rfl rfl rfl rfl (r_assign rfl ev_c) ?_
  refine WL.nil ?_
  refine WX.keep [(0, _), (1, _)] ⟨rfl, rfl, trivial⟩ ?_
  refine WX.next ?_
  refine WC.seq ?_
  refine WC.seq ?_
  refine WC.region ?_
  refine WL.val rfl rfl rfl rfl (r_move rfl (ev_t rfl)) ?_
  refine WL.val rfl rfl rfl rfl (r_lenSlice (ts := #[]) rfl (ev_t rfl) elem_33) ?_
  refine WL.val rfl rfl rfl rfl (r_move rfl ev_c) ?_
  refine WL.nil ?_
  refine WX.keep [(0, _), (1, _), (7, _), (8, _)] ⟨rfl, rfl, rfl, rfl, trivial⟩ ?_
  refine WX.next ?_
  refine WC.block ?_
  -- loop 1: live [0, 1, 7, 8]
  refine WC.keep [(0, _), (1, _), (7, _), (8, _)] ⟨rfl, rfl, rfl, rfl, trivial⟩ ?_
  refine WC.loop (fun q E w' => ∃ (i : Nat), w = w' ∧ i ≤ l.length ∧ q = l.length - i ∧ (∀ j, j < i → l[j]? ≠ some x) ∧ E = [(0, .slice A l.length c), (1, .int .i64 x), (7, .int .i64 (l.length : Int)), (8, .int .i64 (i : Int))]) (l.length) ?_ ?_
  · exact ⟨0, rfl, by omega, by omega, fun j h => by omega, rfl⟩
  · rintro q E w' ⟨i, rfl, hi, rfl, hn, rfl⟩
    refine WC.seq ?_
    refine WC.region ?_
    refine WL.val rfl rfl rfl rfl (r_lss rfl (ev_t rfl) (ev_t rfl)) ?_
    refine WL.nil ?_
    refine WX.keep [(0, _), (1, _), (7, _), (8, _), (9, _)] ⟨rfl, rfl, rfl, rfl, rfl, trivial⟩ ?_
    refine WX.next ?_
    refine WC.seq ?_
    refine WC.cond rfl (ev_t rfl) (fun hc2 => ?_) (fun hc2 => ?_)
    · try (exfalso; first | (simp at hc2; done) | (simp only [decide_eq_true_eq, decide_eq_false_iff_not, Bool.not_eq_true', Bool.not_eq_false', Bool.not_eq_true, Bool.not_eq_false] at hc2; omega) | omega)
      all_goals
       try simp only [decide_eq_true_eq, decide_eq_false_iff_not, Bool.not_eq_true', Bool.not_eq_false', Bool.not_eq_true, Bool.not_eq_false, Option.isNone_none, Option.isNone_some, Option.isSome_none, Option.isSome_some, ne_eq, Decidable.not_not] at hc2
       have hi' : i < l.length := by omega
       obtain ⟨b0, off, rfl, _⟩ := hr.open (by omega)
       have hxi : l[i]? = some l[i] := List.getElem?_eq_getElem hi'
       generalize l[i] = y at *
       refine WC.skip ?_
       refine WX.next ?_
       refine WC.seq ?_
       refine WC.block ?_
       refine WC.seq ?_
       refine WC.region ?_
       refine WL.val rfl rfl rfl rfl (r_move rfl (ev_t rfl)) ?_
       refine WL.val rfl rfl rfl rfl (r_assign rfl (ev_t rfl)) ?_
       refine WL.nil ?_
       refine WX.keep [(0, _), (1, _), (5, _), (7, _), (8, _)] ⟨rfl, rfl, rfl, rfl, rfl, trivial⟩ ?_
       refine WX.next ?_
       refine WC.seq ?_
       refine WC.region ?_
       refine WL.val rfl rfl rfl rfl (r_move rfl (ev_t rfl)) ?_
       refine WL.val rfl rfl rfl rfl (r_move rfl (ev_t rfl)) ?_
       refine WL.val rfl rfl rfl rfl (r_move rfl (ev_t rfl)) ?_
       refine WL.val rfl rfl rfl rfl (r_indexAddr rfl (ev_t rfl) (ev_t rfl) elem_33 size_3 (by omega) (by omega)) ?_
       refine WL.val rfl rfl rfl rfl (r_load rfl (ev_t rfl) flat_3 (hr.cell (j := i) (u := I6 y) (by omega) (by rw [List.getElem?_map, hxi]; rfl))) ?_
       refine WL.val rfl rfl rfl rfl (r_eql rfl (ev_t rfl) (ev_t rfl)) ?_
       refine WL.nil ?_
       refine WX.keep [(0, _), (1, _), (5, _), (7, _), (8, _), (16, _)] ⟨rfl, rfl, rfl, rfl, rfl, rfl, trivial⟩ ?_
       refine WX.next ?_
       refine WC.cond rfl (ev_t rfl) (fun hc4 => ?_) (fun hc4 => ?_)
       · try (exfalso; first | (simp at hc4; done) | (simp only [decide_eq_true_eq, decide_eq_false_iff_not, Bool.not_eq_true', Bool.not_eq_false', Bool.not_eq_true, Bool.not_eq_false] at hc4; omega) | omega)
         all_goals
          try simp only [decide_eq_true_eq, decide_eq_false_iff_not, Bool.not_eq_true', Bool.not_eq_false', Bool.not_eq_true, Bool.not_eq_false, Option.isNone_none, Option.isNone_some, Option.isSome_none, Option.isSome_some, ne_eq, Decidable.not_not] at hc4
          refine WC.seq ?_
          refine WC.region ?_
          refine WL.val rfl rfl rfl rfl (r_move rfl (ev_t rfl)) ?_
          refine WL.val rfl rfl rfl rfl (r_assign rfl (ev_t rfl)) ?_
          refine WL.nil ?_
          refine WX.keep [(4, _)] ⟨rfl, trivial⟩ ?_
          refine WX.next ?_
          refine WC.ret ?_
          refine WX.blockRet ?_
          refine WX.thenRet ?_
          refine WX.thenRet ?_
          refine WX.blockRet ?_
          refine WX.thenRet ?_
          refine WX.retE1 rfl rfl ?_
          exact ⟨_, rfl, rfl, fun h => by omega, fun _ => ⟨by simpa [hc4] using hxi, fun j hj => hn j (by omega)⟩⟩
       · try (exfalso; first | (simp at hc4; done) | (simp only [decide_eq_true_eq, decide_eq_false_iff_not, Bool.not_eq_true', Bool.not_eq_false', Bool.not_eq_true, Bool.not_eq_false] at hc4; omega) | omega)
         all_goals
          try simp only [decide_eq_true_eq, decide_eq_false_iff_not, Bool.not_eq_true', Bool.not_eq_false', Bool.not_eq_true, Bool.not_eq_false, Option.isNone_none, Option.isNone_some, Option.isSome_none, Option.isSome_some, ne_eq, Decidable.not_not] at hc4
          refine WC.skip ?_
          refine WX.blockNormal ?_
          refine WX.next ?_
          refine WC.region ?_
          first | refine WL.val rfl rfl rfl rfl (r_addN rfl (ev_t rfl) ev_c (by simp only [inK]; omega)) ?_ | refine WL.val rfl rfl rfl rfl (r_add rfl (ev_t rfl) ev_c) ?_
          refine WL.val rfl rfl rfl rfl (r_move rfl (ev_t rfl)) ?_
          refine WL.nil ?_
          refine WX.keep [(0, _), (1, _), (7, _), (8, _)] ⟨rfl, rfl, rfl, rfl, trivial⟩ ?_
          refine WX.meet [(0, _), (1, _), (7, _), (8, _)] ⟨rfl, rfl, rfl, rfl, trivial⟩ ?_
          refine ⟨l.length - (i + 1), by omega, i + 1, rfl, by omega, rfl, fun j hj => ?_, rfl⟩
          rcases Nat.lt_or_ge j i with h | h
          · exact hn j h
          · obtain rfl : j = i := by omega
            rw [hxi]
            intro e
            injection e with e
            exact hc4 e.symm
    · try (exfalso; first | (simp at hc2; done) | (simp only [decide_eq_true_eq, decide_eq_false_iff_not, Bool.not_eq_true', Bool.not_eq_false', Bool.not_eq_true, Bool.not_eq_false] at hc2; omega) | omega)
      all_goals
       try simp only [decide_eq_true_eq, decide_eq_false_iff_not, Bool.not_eq_true', Bool.not_eq_false', Bool.not_eq_true, Bool.not_eq_false, Option.isNone_none, Option.isNone_some, Option.isSome_none, Option.isSome_some, ne_eq, Decidable.not_not] at hc2
       refine WC.exit ?_
       refine WX.thenExit ?_
       refine WX.thenExit ?_
       refine WX.blockHere ?_
       refine WX.next ?_
       refine WC.seq ?_
       refine WC.region ?_
       refine WL.val rfl rfl rfl rfl (r_assign rfl ev_c) ?_
       refine WL.nil ?_
       refine WX.keep [(4, _)] ⟨rfl, trivial⟩ ?_
       refine WX.next ?_
       refine WC.ret ?_
       refine WX.retE1 rfl rfl ?_
       refine ⟨_, rfl, rfl, fun _ hx => ?_, fun h => by omega⟩
       obtain ⟨j, hj, e⟩ := List.getElem_of_mem hx
       exact hn j (by omega) (by rw [List.getElem?_eq_getElem hj, e])
theorem contains_ok {w : World} {F : Nat → Prop} {A : Option Addr} {c : Nat} {l : List Int} {x : Int} (hr : Rd w F (.slice A l.length c) l.length 1 (l.map I6)) :
    Ret Try.prog 32 #[.slice A l.length c, .int .i64 x] w fun v w' => v = .bool (decide (x ∈ l)) ∧ w = w' := by
  refine enterRet (vs := [_, _]) (N := 9) Try.func32 rfl rfl rfl ?_
  refine WC.keep [(0, _), (1, _)] ⟨rfl, rfl, trivial⟩ ?_
  refine WC.seq ?_
  refine WC.region ?_
  refine WL.val rfl rfl rfl rfl (r_assign rfl ev_c) ?_
  refine WL.nil ?_
  refine WX.keep [(0, _), (1, _)] ⟨rfl, rfl, trivial⟩ ?_
  refine WX.next ?_
  refine WC.seq ?_
  refine WC.region ?_
  refine WL.val rfl rfl rfl rfl (r_move rfl (ev_t rfl)) ?_
  refine WL.val rfl rfl rfl rfl (r_move rfl (ev_t rfl)) ?_
  refine WL.cons (SO.call (sindex_ok hr) rfl body_43 ⟨(ev_t rfl), (ev_t rfl), trivial⟩ rfl rfl rfl rfl ?_)
  rintro v w1 ⟨i, rfl, rfl, h1, h2⟩
  refine WL.val rfl rfl rfl rfl (r_geq rfl (ev_t rfl) ev_c) ?_
  refine WL.val rfl rfl rfl rfl (r_assign rfl (ev_t rfl)) ?_
  refine WL.nil ?_
  refine WX.keep [(4, _)] ⟨rfl, trivial⟩ ?_
  refine WX.next ?_
  refine WC.ret ?_
  refine WX.retE1 rfl rfl ?_
  refine ⟨?_, rfl⟩
  congr 1
  rw [decide_eq_decide]
  constructor
  · intro h
    exact List.mem_of_getElem? (h2 h).1
  · intro h
    rcases Int.lt_or_le i 0 with h3 | h3
    · exact absurd h (h1 h3)
    · exact h3

/-! ### Free -/
def seenE (s : List Int) : List (Int × Value) := s.map fun x => (x, .bool true)
theorem look_seenE (s : List Int) (x : Int) : lookA (seenE s) x = if x ∈ s then some (.bool true) else none := by
  induction s with
  | nil => rfl
  | cons a s ih =>
    simp only [seenE, List.map_cons, lookA]
    by_cases h : a = x
    · subst h; simp
    · have h' : ¬ x = a := fun e => h e.symm
      simp only [h, if_false, List.mem_cons, h', false_or]
      exact ih
theorem seen_val (s : List Int) (x : Int) : (lookA (seenE s) x).getD (.bool false) = .bool (decide (x ∈ s)) := by
  rw [look_seenE]
  by_cases h : x ∈ s <;> simp [h]
/-- what changes: the map, the slice's variable, and all from B on -/
def Sfr (B ms bo : Nat) : Nat → Prop := fun k => k = ms ∨ k = bo ∨ B ≤ k
structure FrM (w : World) (G : Nat → Prop) (ms bo : Nat) (s : FrS) : Prop where
  mp : MapB w ms ((seenE s.2).map fun p => (.int .i64 p.1, p.2))
  out : ∃ A c, Blk w bo #[.slice A s.1.length c] 33 ∧ Own w G 3 1 (.slice A s.1.length c) s.1.length (s.1.map I6)
/-- what changes: the map, the slice's variable, and its row -/
def SG (G : Nat → Prop) (ms bo : Nat) : Nat → Prop := fun k => k = ms ∨ k = bo ∨ G k
/-- what the closure looks at -/
structure FrC (w : World) (F : Nat → Prop) (p m1 m2 : Nat) (σ : Sg) (D : Dn) (nn : Int) (xs : List C3) (B bs bp bw ms bo : Nat) : Prop where
  isS : IsS w F p m1 m2 σ D nn xs
  sv : Blk w bs #[.map (some ms)] 72
  pv : Blk w bp #[.pointer (some ⟨p, 0, none⟩)] 23
  wv : Blk w bw #[.func (.func 46) #[] #[.pointer (some ⟨bs, 0, none⟩), .pointer (some ⟨bp, 0, none⟩), .pointer (some ⟨bw, 0, none⟩), .pointer (some ⟨bo, 0, none⟩)]] 73
  fix : ∀ k, (Mut p m1 m2 k ∨ F k ∨ k = bs ∨ k = bp ∨ k = bw) → k < B ∧ k ≠ ms ∧ k ≠ bo
  b : ms < B ∧ bo < B ∧ B ≤ w.heap.size ∧ ms ≠ bo
section
variable {w w' : World} {F S : Nat → Prop} {p m1 m2 : Nat} {σ : Sg} {D : Dn} {nn : Int} {xs : List C3} {B bs bp bw ms bo : Nat}
theorem FrC.out (h : FrC w F p m1 m2 σ D nn xs B bs bp bw ms bo) {k : Nat} (hk : Mut p m1 m2 k ∨ F k ∨ k = bs ∨ k = bp ∨ k = bw) : ¬ Sfr B ms bo k := fun hS => by
  have := h.fix k hk
  rcases hS with hS | hS | hS
  · exact this.2.1 hS
  · exact this.2.2 hS
  · omega
theorem FrC.upd (h : FrC w F p m1 m2 σ D nn xs B bs bp bw ms bo) (hu : Upd S w w') (hS : ∀ k, S k → k < w.heap.size → Sfr B ms bo k) : FrC w' F p m1 m2 σ D nn xs B bs bp bw ms bo := by
  have key : ∀ k, (Mut p m1 m2 k ∨ F k ∨ k = bs ∨ k = bp ∨ k = bw) → k < w.heap.size → ¬ S k := fun k hk hl hs => h.out hk (hS k hs hl)
  exact ⟨h.isS.upd hu fun k hk hl => key k (by rcases hk with hk | hk; exact .inl hk; exact .inr (.inl hk)) hl, h.sv.upd hu (key _ (by simp) h.sv.lt), h.pv.upd hu (key _ (by simp) h.pv.lt), h.wv.upd hu (key _ (by simp) h.wv.lt), h.fix, ⟨h.b.1, h.b.2.1, Nat.le_trans h.b.2.2.1 hu.size, h.b.2.2.2⟩⟩
theorem FrC.tv (h : FrC w F p m1 m2 σ D nn xs B bs bp bw ms bo) {n : Nat} (hS : ∀ k, S k → Sfr B ms bo k) : ∀ k, F k → k < n → ¬ S k := fun k hk hl hs => h.out (.inr (.inl hk)) (hS k hs)
theorem FrM.upd {G : Nat → Prop} {s : FrS} (h : FrM w G ms bo s) (hu : Upd S w w') (hS : ∀ k, S k → k < w.heap.size → k ≠ ms ∧ k ≠ bo ∧ ¬ G k) : FrM w' G ms bo s := by
  obtain ⟨A, c, hb, ho⟩ := h.out
  exact ⟨h.mp.upd hu (fun hs => (hS _ hs h.mp.lt).1 rfl), A, c, hb.upd hu (fun hs => (hS _ hs hb.lt).2.1 rfl), ho.upd hu fun k hk hl hs => (hS k hs hl).2.2 hk⟩
end
theorem FrM.mono {w : World} {G G' : Nat → Prop} {ms bo : Nat} {s : FrS} (h : FrM w G ms bo s) (hl : ∀ k, G k → G' k) : FrM w G' ms bo s := by
  obtain ⟨A, c, hb, ho⟩ := h.out
  exact ⟨h.mp, A, c, hb, ho.mono hl⟩
theorem seenE_snoc (s : List Int) (x : Int) : seenE (s ++ [x]) = seenE s ++ [(x, .bool true)] := by simp [seenE]
theorem FrM.mk2 {w : World} {G : Nat → Prop} {ms bo c : Nat} {A : Option Addr} {l s : List Int} {x : Int} (h1 : MapB w ms ((seenE (s ++ [x])).map fun p => (.int .i64 p.1, p.2))) (h2 : Blk w bo #[.slice A (l.length + 1) c] 33) (h3 : Own w G 3 1 (.slice A (l.length + 1) c) (l.length + 1) (l.map I6 ++ [Value.int .i64 x])) : FrM w G ms bo (l ++ [x], s ++ [x]) := by
  refine ⟨h1, A, c, ?_, ?_⟩
  · simpa using h2
  · simpa [I6] using h3
theorem frF_mono {σ : Sg} : ∀ {n : Nat} {t : Ty} {s s' : FrS}, frF σ n t s = some s' → s.1.length ≤ s'.1.length
  | 0, t, s, s', h => by simp [frF] at h
  | n + 1, .v x, s, s', h => by
    simp only [frF] at h
    split at h
    · injection h with h; subst h; exact Nat.le_refl _
    · split at h
      · injection h with h; subst h; simp
      · have := frF_mono (n := n) h
        simpa using this
  | n + 1, .c f ks, s, s', h => by
    simp only [frF] at h
    have key : ∀ (ks : List Ty) (s : FrS), frL (frF σ n) ks s = some s' → s.1.length ≤ s'.1.length := by
      intro ks
      induction ks with
      | nil => intro s h; simp only [frL] at h; injection h with h; subst h; exact Nat.le_refl _
      | cons k ks ih =>
        intro s h
        simp only [frL] at h
        cases h1 : frF σ n k s with
        | none => rw [h1] at h; cases h
        | some s1 =>
          rw [h1] at h
          exact Nat.le_trans (frF_mono (n := n) h1) (ih s1 h)
    exact key ks s h
theorem frL_mono {σ : Sg} {n : Nat} {ks : List Ty} {s s' : FrS} (h : frL (frF σ n) ks s = some s') : s.1.length ≤ s'.1.length := frF_mono (n := n + 1) (t := .c ⟨[0], by simp⟩ ks) h
end Go.Proofs.Ytncakfcafkfmfaa
