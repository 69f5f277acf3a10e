/-
  types: the reference's substitution in memory; Head, Size; the package's Size.
-/
import Derived.Test.YtncakfcafkfmfaaTyl
namespace Go.Proofs.Ytncakfcafkfmfaa
open Go
set_option linter.unusedSimpArgs false
set_option linter.unusedVariables false

theorem get_ex {α : Type} {l : List α} {i : Nat} (h : i < l.length) : ∃ a, l[i]? = some a := ⟨_, List.getElem?_eq_getElem h⟩
theorem look_at : ∀ {σ : Sg} {i : Nat} {x : Int} {u : Ty}, (σ.map (·.1))[i]? = some x → (∀ j, j < i → (σ.map (·.1))[j]? ≠ some x) → (σ.map (·.2))[i]? = some u → look σ x = some u
  | [], i, x, u, h, _, _ => by simp at h
  | (k, t) :: σ, 0, x, u, h, _, h2 => by
    simp at h h2
    subst h h2
    simp [look]
  | (k, t) :: σ, i + 1, x, u, h, hn, h2 => by
    have hk : ¬ k = x := fun e => hn 0 (by omega) (by simp [e])
    simp only [look, hk, if_false]
    exact look_at (i := i) (by simpa using h) (fun j hj => by have := hn (j + 1) (by omega); simpa using this) (by simpa using h2)
theorem look_no : ∀ {σ : Sg} {x : Int}, (∀ j, j < σ.length → (σ.map (·.1))[j]? ≠ some x) → look σ x = none
  | [], x, _ => rfl
  | (k, t) :: σ, x, hn => by
    have hk : ¬ k = x := fun e => hn 0 (by simp) (by simp [e])
    simp only [look, hk, if_false]
    exact look_no fun j hj => by have := hn (j + 1) (by simp; omega); simpa using this

def pr2 (p : Int × Int) : List Value := [.int .i64 p.1, .int .i64 p.2]
theorem pr2_len (p : Int × Int) : (pr2 p).length = 2 := rfl
/-- the reference's substitution in memory -/
structure IsRf (w : World) (F Gv Go Gd : Nat → Prop) (p : Nat) (σ : Sg) (D : Dn) (nn : Int) (xs : List C3) (Av Ao Ad : Option Addr) (cv co cd : Nat) : Prop where
  hd : Blk w p #[.int .i64 nn, .slice Av σ.length cv, .slice Ao σ.length co, .slice Ad D.length cd] 46
  vs : Own w Gv 3 1 (.slice Av σ.length cv) σ.length ((σ.map (·.1)).map I6)
  of_ : Own w Go typ 3 (.slice Ao σ.length co) σ.length (xs.flatMap c3)
  dn : Own w Gd 60 2 (.slice Ad D.length cd) D.length (D.flatMap pr2)
  tv : TVs w F xs (σ.map (·.2))
  le : σ.length ≤ 1000000000 ∧ D.length ≤ 1000000000
section
variable {w w' : World} {F F' Gv Go Gd S : Nat → Prop} {p : Nat} {σ : Sg} {D : Dn} {nn : Int} {xs : List C3} {Av Ao Ad : Option Addr} {cv co cd : Nat}
theorem IsRf.upd (h : IsRf w F Gv Go Gd p σ D nn xs Av Ao Ad cv co cd) (hu : Upd S w w') (hp : ¬ S p) (hn : ∀ k, F k ∨ Gv k ∨ Go k ∨ Gd k → k < w.heap.size → ¬ S k) : IsRf w' F Gv Go Gd p σ D nn xs Av Ao Ad cv co cd :=
  ⟨h.hd.upd hu hp, h.vs.upd hu fun k hk => hn k (.inr (.inl hk)), h.of_.upd hu fun k hk => hn k (.inr (.inr (.inl hk))), h.dn.upd hu fun k hk => hn k (.inr (.inr (.inr hk))), h.tv.upd hu fun k hk => hn k (.inl hk), h.le⟩
theorem IsRf.updN (h : IsRf w F Gv Go Gd p σ D nn xs Av Ao Ad cv co cd) (hu : Upd No w w') : IsRf w' F Gv Go Gd p σ D nn xs Av Ao Ad cv co cd := h.upd hu (fun h => h) fun _ _ _ h => h
theorem IsRf.mono (h : IsRf w F Gv Go Gd p σ D nn xs Av Ao Ad cv co cd) (hF : ∀ k, F k → F' k) : IsRf w F' Gv Go Gd p σ D nn xs Av Ao Ad cv co cd := { h with tv := h.tv.mono hF }
theorem IsRf.bound (h : IsRf w F Gv Go Gd p σ D nn xs Av Ao Ad cv co cd) : IsRf w (fun k => F k ∧ k < w.heap.size) Gv Go Gd p σ D nn xs Av Ao Ad cv co cd := { h with tv := h.tv.bound }
theorem IsRf.tlen (h : IsRf w F Gv Go Gd p σ D nn xs Av Ao Ad cv co cd) : xs.length = σ.length := by have := h.tv.1; simpa using this
end

set_option maxHeartbeats 2000000 in
theorem rhead_ok {Gv Go Gd : Nat → Prop} {p : Nat} {σ : Sg} {D : Dn} {nn : Int} {xs : List C3} {Av Ao Ad : Option Addr} {cv co cd : Nat} : ∀ (n : Nat) (F : Nat → Prop) (w : World) (a b c : Value) (t h : Ty), IsRf w F Gv Go Gd p σ D nn xs Av Ao Ad cv co cd → TV w F (a, b, c) t → hdF σ n t = some h →
    Ret Try.prog 34 #[.pointer (some ⟨p, 0, none⟩), .agg #[a, b, c]] w fun v w' => ∃ a' b' c', v = .agg #[a', b', c'] ∧ TV w' F (a', b', c') h ∧ Upd No w w' := by
  intro n
  induction n with
  | zero =>
    intro F w a b c t h hI ht hh
    replace hI := hI.bound
    replace ht := ht.bound
    have hhd := hI.hd
    have hrv := hI.vs.rd (by have := hI.le; omega)
    obtain ⟨m, A0, k0, xk, rfl, rfl, rfl, hm, hr, hl, hb, hk⟩ := ht.open
    refine enterRet (vs := [_, _]) (N := 40) Try.func34 rfl rfl rfl ?_
    have hU := Upd.refl No w
    refine WC.keep [(0, _), (1, _)] ⟨rfl, rfl, trivial⟩ ?_
    refine WC.seq ?_
    refine WC.region ?_
    refine WL.cons (SO.alloc rfl rfl rfl rfl (r_boxAgg rfl (ev_t rfl)) ?_)
    intro w1 hu1 hB1 hz1
    have hs1 := hu1.size
    replace hU := hU.transA hu1
    refine WL.cons (SO.alloc rfl rfl rfl rfl (r_alloc rfl zero_28) ?_)
    intro w2 hu2 hB2 hz2
    have hs2 := hu2.size
    replace hU := hU.transA hu2
    replace hB1 := hB1.updA hu2
    refine WL.nil ?_
    refine WX.keep [(0, _), (3, _), (4, _)] ⟨rfl, rfl, rfl, trivial⟩ ?_
    refine WX.next ?_
    refine WC.seq ?_
    refine WC.seq ?_
    refine WC.region ?_
    refine WL.val rfl rfl rfl rfl (r_assign rfl ev_c) ?_
    refine WL.nil ?_
    refine WX.keep [(0, _), (3, _), (4, _), (5, _)] ⟨rfl, rfl, rfl, rfl, trivial⟩ ?_
    refine WX.next ?_
    refine WC.block ?_
    -- loop 1: live [0, 3, 4, 5]
    refine WC.keep [(0, _), (3, _), (4, _), (5, _)] ⟨rfl, rfl, rfl, rfl, trivial⟩ ?_
    refine WC.loop (fun q E w' => ∃ (i : Nat), i ≤ σ.length ∧ q = σ.length - i ∧ Upd No w w' ∧ w.heap.size + 2 ≤ w'.heap.size ∧ Blk w' w.heap.size #[.string ⟨t.nm.toArray⟩, .int .i64 m, .slice A0 t.kids.length k0] typ ∧ Blk w' w1.heap.size #[.string ⟨#[]⟩, .int .i64 0, .slice none 0 0] typ ∧ (∀ x, t = .v x → ∀ j, j < i → (σ.map (·.1))[j]? ≠ some x) ∧   E = [(0, .pointer (some ⟨p, 0, none⟩)), (3, .pointer (some ⟨w.heap.size, 0, none⟩)), (4, .pointer (some ⟨w1.heap.size, 0, none⟩)), (5, .int .i64 (i : Int))]) (σ.length) ?_ ?_
    · exact ⟨0, by omega, by omega, hU, by omega, hB1, hB2, fun x _ j h => by omega, rfl⟩
    · clear hU hB1 hB2
      rintro q E w' ⟨i, hi, rfl, hU, hws, hB1, hB2, hno, rfl⟩
      have hle := hI.le
      refine WC.seq ?_
      refine WC.seq ?_
      refine WC.region ?_
      refine WL.val rfl rfl rfl rfl (r_move rfl (ev_t rfl)) ?_
      refine WL.val rfl rfl rfl rfl (r_move rfl (ev_t rfl)) ?_
      refine WL.val rfl rfl rfl rfl (r_nilCheck rfl (ev_t rfl)) ?_
      first | refine WL.val rfl rfl rfl rfl (r_field0 rfl (ev_t rfl) fld_46_1) ?_ | refine WL.val rfl rfl rfl rfl (r_fieldAt rfl (ev_t rfl) fld_46_1) ?_
      refine WL.val rfl rfl rfl rfl (r_load rfl (ev_t rfl) flat_33 (Blk.cell (hhd.upd hU (fun h => h)) rfl)) ?_
      refine WL.val rfl rfl rfl rfl (r_lenSlice (ts := #[]) rfl (ev_t rfl) elem_33) ?_
      refine WL.val rfl rfl rfl rfl (r_lss rfl (ev_t rfl) (ev_t rfl)) ?_
      refine WL.nil ?_
      refine WX.keep [(0, _), (3, _), (4, _), (5, _), (12, _)] ⟨rfl, rfl, rfl, rfl, rfl, trivial⟩ ?_
      refine WX.next ?_
      refine WC.cond rfl (ev_t rfl) (fun hc2 => ?_) (fun hc2 => ?_)
      · try (exfalso; first | (simp at hc2; done) | (simp only [decide_eq_true_eq, decide_eq_false_iff_not, Bool.not_eq_true', Bool.not_eq_false', Bool.not_eq_true, Bool.not_eq_false] at hc2; omega) | omega)
        all_goals
         try simp only [decide_eq_true_eq, decide_eq_false_iff_not, Bool.not_eq_true', Bool.not_eq_false', Bool.not_eq_true, Bool.not_eq_false, Option.isNone_none, Option.isNone_some, Option.isSome_none, Option.isSome_some, ne_eq, Decidable.not_not] at hc2
         have hi' : i < σ.length := by omega
         obtain ⟨bv0, offv, hAv, _⟩ := (show Rd w Gv (.slice Av σ.length cv) σ.length 1 ((σ.map (·.1)).map I6) from hrv).open (by omega)
         subst hAv
         obtain ⟨ki, hki⟩ := get_ex (l := σ.map (·.1)) (i := i) (by simpa using hi')
         refine WC.skip ?_
         refine WX.next ?_
         refine WC.seq ?_
         refine WC.block ?_
         refine WC.seq ?_
         refine WC.draws' (fun u0_ u1_ => Upd No u0_ u1_) (fun j => [0, 1, 0, 0, 0, 0, 0, 0, 0, 0, 0, 0, 1, 0, 0].getD j 0) (.calm 0 (.one 1 (.calm 2 (.calm 3 (.calm 4 (.calm 5 (.calm 6 (.calm 8 (.calm 11 (.held 7 (.calm 9 (.held 10 (.one 12 (.calm 13 (.calm 14 (.done)))))))))))))))) mixed (by kernel_rfl) (by repeat (first | with_reducible exact Deaf.body | with_reducible apply Deaf.then | with_reducible apply Deaf.block)) ?_
         intro w3 hu3
         have hz3 := congrArg Array.size hu3.2.2.2
         replace hu3 := Upd.of_draw hu3
         have hs3 := hu3.size
         replace hU := hU.transA hu3
         replace hB1 := hB1.updA hu3
         replace hB2 := hB2.upd hu3 (by first | exact (fun h => h) | (simp only [At]; omega))
         have hS4 := Upd.refl No w3
         first | refine WN.calm _ rfl rfl rfl rfl rfl (fun _ => r_field0 rfl (ev_t rfl) fld_28_0) ?_ | refine WN.calm _ rfl rfl rfl rfl rfl (fun _ => r_fieldAt rfl (ev_t rfl) fld_28_0) ?_
         refine WN.step _ rfl (SO.val rfl rfl rfl rfl (r_load rfl (ev_t rfl) flat_9 (Blk.cell hB1 rfl)) ?_)
         refine ⟨hS4, ?_⟩
         refine WN.calm _ rfl rfl rfl rfl rfl (fun _ => r_eqlStrL rfl (ev_t rfl) ev_c) ?_
         refine WN.calm _ rfl rfl rfl rfl rfl (fun _ => r_move rfl (ev_t rfl)) ?_
         refine WN.cases 18 rfl (fun hb4_3 => ?_) (fun hb4_3 => ?_)
         · try (exfalso; first | (simp at hb4_3; done) | (simp only [decide_eq_true_eq, decide_eq_false_iff_not, Bool.not_eq_true', Bool.not_eq_false', Bool.not_eq_true, Bool.not_eq_false] at hb4_3; omega) | omega)
           all_goals
            try simp only [decide_eq_true_eq, decide_eq_false_iff_not, Bool.not_eq_true', Bool.not_eq_false', Bool.not_eq_true, Bool.not_eq_false, Option.isNone_none, Option.isNone_some, Option.isSome_none, Option.isSome_some, ne_eq, Decidable.not_not] at hb4_3
            obtain ⟨x, rfl⟩ := Ty.nm_nil.1 hb4_3
            obtain rfl := (hm x rfl).symm
            refine WN.calm _ rfl rfl rfl rfl rfl (fun _ => r_move rfl (ev_t rfl)) ?_
            refine WN.calm _ rfl rfl rfl rfl rfl (fun _ => r_nilCheck rfl (ev_t rfl)) ?_
            first | refine WN.calm _ rfl rfl rfl rfl rfl (fun _ => r_field0 rfl (ev_t rfl) fld_46_1) ?_ | refine WN.calm _ rfl rfl rfl rfl rfl (fun _ => r_fieldAt rfl (ev_t rfl) fld_46_1) ?_
            refine WN.calm _ rfl rfl rfl rfl rfl (fun _ => r_move rfl (ev_t rfl)) ?_
            first | refine WN.calm _ rfl rfl rfl rfl rfl (fun _ => r_field0 rfl (ev_t rfl) fld_28_1) ?_ | refine WN.calm _ rfl rfl rfl rfl rfl (fun _ => r_fieldAt rfl (ev_t rfl) fld_28_1) ?_
            refine WN.held _ rfl rfl rfl rfl rfl hS4 (fun w' hS => r_load rfl (ev_t rfl) flat_33 (Blk.cell ((hhd.upd hU (fun h => h)).upd hS (fun h => h)) rfl)) ?_
            refine WN.calm _ rfl rfl rfl rfl rfl (fun _ => r_indexAddr rfl (ev_t rfl) (ev_t rfl) elem_33 size_3 (by omega) (by omega)) ?_
            refine WN.held _ rfl rfl rfl rfl rfl hS4 (fun w' hS => r_load rfl (ev_t rfl) flat_3 (Rd.cell ((hrv.upd hU (fun _ _ _ h => h)).upd hS (fun _ _ _ h => h)) (j := i) (u := I6 ki) (by omega) (by rw [List.getElem?_map, hki]; rfl))) ?_
            refine WN.step _ rfl (SO.val rfl rfl rfl rfl (r_load rfl (ev_t rfl) flat_3 (Blk.cell hB1 rfl)) ?_)
            refine ⟨hS4, ?_⟩
            refine WN.calm _ rfl rfl rfl rfl rfl (fun _ => r_eql rfl (ev_t rfl) (ev_t rfl)) ?_
            refine WN.calm _ rfl rfl rfl rfl rfl (fun _ => r_pickT rfl (ev_t rfl) (ev_t rfl)) ?_
            refine WN.done ?_
            refine WX.keep [(0, _), (3, _), (4, _), (5, _), (29, _)] ⟨rfl, rfl, rfl, rfl, rfl, trivial⟩ ?_
            refine WX.next ?_
            refine WC.cond rfl (ev_t rfl) (fun hc4 => ?_) (fun hc4 => ?_)
            · try simp only [decide_eq_true_eq, decide_eq_false_iff_not, Bool.not_eq_true', Bool.not_eq_false', Bool.not_eq_true, Bool.not_eq_false, Option.isNone_none, Option.isNone_some, Option.isSome_none, Option.isSome_some, ne_eq, Decidable.not_not] at hc4
              exfalso
              obtain rfl : ki = x := by simpa using hc4
              obtain ⟨ui, hui⟩ := get_ex (l := σ.map (·.2)) (i := i) (by simpa using hi')
              have := look_at hki (hno _ rfl) hui
              simp [hdF, this] at hh
            · try (exfalso; first | (simp at hc4; done) | (simp only [decide_eq_true_eq, decide_eq_false_iff_not, Bool.not_eq_true', Bool.not_eq_false', Bool.not_eq_true, Bool.not_eq_false] at hc4; omega) | omega)
              all_goals
               try simp only [decide_eq_true_eq, decide_eq_false_iff_not, Bool.not_eq_true', Bool.not_eq_false', Bool.not_eq_true, Bool.not_eq_false, Option.isNone_none, Option.isNone_some, Option.isSome_none, Option.isSome_some, ne_eq, Decidable.not_not] at hc4
               refine WC.skip ?_
               refine WX.blockNormal ?_
               refine WX.next ?_
               refine WC.region ?_
               refine WL.val rfl rfl rfl rfl (r_move rfl (ev_t rfl)) ?_
               first | refine WL.val rfl rfl rfl rfl (r_addN rfl (ev_t rfl) ev_c (by simp only [inK]; omega)) ?_ | refine WL.val rfl rfl rfl rfl (r_add rfl (ev_t rfl) ev_c) ?_
               refine WL.val rfl rfl rfl rfl (r_assign rfl (ev_t rfl)) ?_
               refine WL.nil ?_
               refine WX.keep [(0, _), (3, _), (4, _), (5, _)] ⟨rfl, rfl, rfl, rfl, trivial⟩ ?_
               refine WX.meet [(0, _), (3, _), (4, _), (5, _)] ⟨rfl, rfl, rfl, rfl, trivial⟩ ?_
               refine ⟨σ.length - (i + 1), by omega, i + 1, by omega, rfl, hU, by omega, hB1, hB2, fun x hx j hj => ?_, by simp⟩
               rcases Nat.lt_or_ge j i with h | h
               · exact hno x hx j h
               · obtain rfl : j = i := by omega
                 rw [hki]
                 intro e
                 injection e with e
                 first
                   | (injection hx with hx; subst hx; exact absurd hc4 (by simp [e]))
                   | (subst hx; exact absurd rfl hb4_3)
         · try (exfalso; first | (simp at hb4_3; done) | (simp only [decide_eq_true_eq, decide_eq_false_iff_not, Bool.not_eq_true', Bool.not_eq_false', Bool.not_eq_true, Bool.not_eq_false] at hb4_3; omega) | omega)
           all_goals
            try simp only [decide_eq_true_eq, decide_eq_false_iff_not, Bool.not_eq_true', Bool.not_eq_false', Bool.not_eq_true, Bool.not_eq_false, Option.isNone_none, Option.isNone_some, Option.isSome_none, Option.isSome_some, ne_eq, Decidable.not_not] at hb4_3
            refine WN.skip _ rfl rfl rfl rfl ?_
            refine WN.skip _ rfl rfl rfl rfl ?_
            refine WN.skip _ rfl rfl rfl rfl ?_
            refine WN.skip _ rfl rfl rfl rfl ?_
            refine WN.skip _ rfl rfl rfl rfl ?_
            refine WN.heldSkip _ rfl rfl rfl rfl hS4 ?_
            refine WN.skip _ rfl rfl rfl rfl ?_
            refine WN.heldSkip _ rfl rfl rfl rfl hS4 ?_
            refine WN.step _ rfl (SO.skip rfl rfl rfl ?_)
            refine ⟨hS4, ?_⟩
            refine WN.skip _ rfl rfl rfl rfl ?_
            refine WN.calm _ rfl rfl rfl rfl rfl (fun _ => r_pickF rfl (ev_t rfl) ev_c) ?_
            refine WN.done ?_
            refine WX.keep [(0, _), (3, _), (4, _), (5, _), (29, _)] ⟨rfl, rfl, rfl, rfl, rfl, trivial⟩ ?_
            refine WX.next ?_
            refine WC.cond_false rfl (ev_t rfl) ?_
            refine WC.skip ?_
            refine WX.blockNormal ?_
            refine WX.next ?_
            refine WC.region ?_
            refine WL.val rfl rfl rfl rfl (r_move rfl (ev_t rfl)) ?_
            first | refine WL.val rfl rfl rfl rfl (r_addN rfl (ev_t rfl) ev_c (by simp only [inK]; omega)) ?_ | refine WL.val rfl rfl rfl rfl (r_add rfl (ev_t rfl) ev_c) ?_
            refine WL.val rfl rfl rfl rfl (r_assign rfl (ev_t rfl)) ?_
            refine WL.nil ?_
            refine WX.keep [(0, _), (3, _), (4, _), (5, _)] ⟨rfl, rfl, rfl, rfl, trivial⟩ ?_
            refine WX.meet [(0, _), (3, _), (4, _), (5, _)] ⟨rfl, rfl, rfl, rfl, trivial⟩ ?_
            refine ⟨σ.length - (i + 1), by omega, i + 1, by omega, rfl, hU, by omega, hB1, hB2, fun x hx j hj => ?_, by simp⟩
            rcases Nat.lt_or_ge j i with h | h
            · exact hno x hx j h
            · obtain rfl : j = i := by omega
              rw [hki]
              intro e
              injection e with e
              first
                | (injection hx with hx; subst hx; exact absurd hc4 (by simp [e]))
                | (subst hx; exact absurd rfl hb4_3)
      · try (exfalso; first | (simp at hc2; done) | (simp only [decide_eq_true_eq, decide_eq_false_iff_not, Bool.not_eq_true', Bool.not_eq_false', Bool.not_eq_true, Bool.not_eq_false] at hc2; omega) | omega)
        all_goals
         try simp only [decide_eq_true_eq, decide_eq_false_iff_not, Bool.not_eq_true', Bool.not_eq_false', Bool.not_eq_true, Bool.not_eq_false, Option.isNone_none, Option.isNone_some, Option.isSome_none, Option.isSome_some, ne_eq, Decidable.not_not] at hc2
         obtain rfl : i = σ.length := by omega
         refine WC.exit ?_
         refine WX.thenExit ?_
         refine WX.thenExit ?_
         refine WX.blockHere ?_
         refine WX.next ?_
         refine WC.seq ?_
         refine WC.region ?_
         refine WL.val rfl rfl rfl rfl (r_loadAgg (vs := [_, _, _]) rfl (ev_t rfl) agg_28 size_28 (Blk.cellsL hB1)) ?_
         refine WL.cons (SO.storeAll (us := [_, _, _]) rfl (ev_t rfl) (ev_t rfl) size_28 hB2 rfl rfl rfl rfl rfl ?_)
         intro w4 hu4 hB2 hz4
         have hs4 := hu4.size
         replace hU := hU.transA hu4
         replace hB1 := hB1.updA hu4
         refine WL.nil ?_
         refine WX.keep [(4, _)] ⟨rfl, trivial⟩ ?_
         refine WX.next ?_
         refine WC.ret ?_
         refine WX.retC (vs := [_, _, _]) rfl rfl agg_28 size_28 (Blk.cellsL hB2) ?_
         have e : h = t := by
           cases t with
           | v x => exact hd_none (look_no (hno x rfl)) hh
           | c f ks => exact hd_con f.2 hh
         subst e
         exact ⟨_, _, _, rfl, (ht.upd hU (fun _ _ _ h => h)).mono fun k hk => hk.1, hU⟩
  | succ n ih =>
    intro F w a b c t h hI ht hh
    replace hI := hI.bound
    replace ht := ht.bound
    have hhd := hI.hd
    have hrv := hI.vs.rd (by have := hI.le; omega)
    have hro := hI.of_.rd (by have := hI.le; omega)
    have htv := hI.tv
    obtain ⟨m, A0, k0, xk, rfl, rfl, rfl, hm, hr, hl, hb, hk⟩ := ht.open
    refine enterRet (vs := [_, _]) (N := 40) Try.func34 rfl rfl rfl ?_
    have hU := Upd.refl No w
    refine WC.keep [(0, _), (1, _)] ⟨rfl, rfl, trivial⟩ ?_
    refine WC.seq ?_
    refine WC.region ?_
    refine WL.cons (SO.alloc rfl rfl rfl rfl (r_boxAgg rfl (ev_t rfl)) ?_)
    intro w1 hu1 hB1 hz1
    have hs1 := hu1.size
    replace hU := hU.transA hu1
    refine WL.cons (SO.alloc rfl rfl rfl rfl (r_alloc rfl zero_28) ?_)
    intro w2 hu2 hB2 hz2
    have hs2 := hu2.size
    replace hU := hU.transA hu2
    replace hB1 := hB1.updA hu2
    refine WL.nil ?_
    refine WX.keep [(0, _), (3, _), (4, _)] ⟨rfl, rfl, rfl, trivial⟩ ?_
    refine WX.next ?_
    refine WC.seq ?_
    refine WC.seq ?_
    refine WC.region ?_
    refine WL.val rfl rfl rfl rfl (r_assign rfl ev_c) ?_
    refine WL.nil ?_
    refine WX.keep [(0, _), (3, _), (4, _), (5, _)] ⟨rfl, rfl, rfl, rfl, trivial⟩ ?_
    refine WX.next ?_
    refine WC.block ?_
    -- loop 1: live [0, 3, 4, 5]
    refine WC.keep [(0, _), (3, _), (4, _), (5, _)] ⟨rfl, rfl, rfl, rfl, trivial⟩ ?_
    refine WC.loop (fun q E w' => ∃ (i : Nat), i ≤ σ.length ∧ q = σ.length - i ∧ Upd No w w' ∧ w.heap.size + 2 ≤ w'.heap.size ∧ Blk w' w.heap.size #[.string ⟨t.nm.toArray⟩, .int .i64 m, .slice A0 t.kids.length k0] typ ∧ Blk w' w1.heap.size #[.string ⟨#[]⟩, .int .i64 0, .slice none 0 0] typ ∧ (∀ x, t = .v x → ∀ j, j < i → (σ.map (·.1))[j]? ≠ some x) ∧   E = [(0, .pointer (some ⟨p, 0, none⟩)), (3, .pointer (some ⟨w.heap.size, 0, none⟩)), (4, .pointer (some ⟨w1.heap.size, 0, none⟩)), (5, .int .i64 (i : Int))]) (σ.length) ?_ ?_
    · exact ⟨0, by omega, by omega, hU, by omega, hB1, hB2, fun x _ j h => by omega, rfl⟩
    · clear hU hB1 hB2
      rintro q E w' ⟨i, hi, rfl, hU, hws, hB1, hB2, hno, rfl⟩
      have hle := hI.le
      refine WC.seq ?_
      refine WC.seq ?_
      refine WC.region ?_
      refine WL.val rfl rfl rfl rfl (r_move rfl (ev_t rfl)) ?_
      refine WL.val rfl rfl rfl rfl (r_move rfl (ev_t rfl)) ?_
      refine WL.val rfl rfl rfl rfl (r_nilCheck rfl (ev_t rfl)) ?_
      first | refine WL.val rfl rfl rfl rfl (r_field0 rfl (ev_t rfl) fld_46_1) ?_ | refine WL.val rfl rfl rfl rfl (r_fieldAt rfl (ev_t rfl) fld_46_1) ?_
      refine WL.val rfl rfl rfl rfl (r_load rfl (ev_t rfl) flat_33 (Blk.cell (hhd.upd hU (fun h => h)) rfl)) ?_
      refine WL.val rfl rfl rfl rfl (r_lenSlice (ts := #[]) rfl (ev_t rfl) elem_33) ?_
      refine WL.val rfl rfl rfl rfl (r_lss rfl (ev_t rfl) (ev_t rfl)) ?_
      refine WL.nil ?_
      refine WX.keep [(0, _), (3, _), (4, _), (5, _), (12, _)] ⟨rfl, rfl, rfl, rfl, rfl, trivial⟩ ?_
      refine WX.next ?_
      refine WC.cond rfl (ev_t rfl) (fun hc2 => ?_) (fun hc2 => ?_)
      · try (exfalso; first | (simp at hc2; done) | (simp only [decide_eq_true_eq, decide_eq_false_iff_not, Bool.not_eq_true', Bool.not_eq_false', Bool.not_eq_true, Bool.not_eq_false] at hc2; omega) | omega)
        all_goals
         try simp only [decide_eq_true_eq, decide_eq_false_iff_not, Bool.not_eq_true', Bool.not_eq_false', Bool.not_eq_true, Bool.not_eq_false, Option.isNone_none, Option.isNone_some, Option.isSome_none, Option.isSome_some, ne_eq, Decidable.not_not] at hc2
         have hi' : i < σ.length := by omega
         obtain ⟨bv0, offv, hAv, _⟩ := (show Rd w Gv (.slice Av σ.length cv) σ.length 1 ((σ.map (·.1)).map I6) from hrv).open (by omega)
         subst hAv
         obtain ⟨ki, hki⟩ := get_ex (l := σ.map (·.1)) (i := i) (by simpa using hi')
         refine WC.skip ?_
         refine WX.next ?_
         refine WC.seq ?_
         refine WC.block ?_
         refine WC.seq ?_
         refine WC.draws' (fun u0_ u1_ => Upd No u0_ u1_) (fun j => [0, 1, 0, 0, 0, 0, 0, 0, 0, 0, 0, 0, 1, 0, 0].getD j 0) (.calm 0 (.one 1 (.calm 2 (.calm 3 (.calm 4 (.calm 5 (.calm 6 (.calm 8 (.calm 11 (.held 7 (.calm 9 (.held 10 (.one 12 (.calm 13 (.calm 14 (.done)))))))))))))))) mixed (by kernel_rfl) (by repeat (first | with_reducible exact Deaf.body | with_reducible apply Deaf.then | with_reducible apply Deaf.block)) ?_
         intro w3 hu3
         have hz3 := congrArg Array.size hu3.2.2.2
         replace hu3 := Upd.of_draw hu3
         have hs3 := hu3.size
         replace hU := hU.transA hu3
         replace hB1 := hB1.updA hu3
         replace hB2 := hB2.upd hu3 (by first | exact (fun h => h) | (simp only [At]; omega))
         have hS4 := Upd.refl No w3
         first | refine WN.calm _ rfl rfl rfl rfl rfl (fun _ => r_field0 rfl (ev_t rfl) fld_28_0) ?_ | refine WN.calm _ rfl rfl rfl rfl rfl (fun _ => r_fieldAt rfl (ev_t rfl) fld_28_0) ?_
         refine WN.step _ rfl (SO.val rfl rfl rfl rfl (r_load rfl (ev_t rfl) flat_9 (Blk.cell hB1 rfl)) ?_)
         refine ⟨hS4, ?_⟩
         refine WN.calm _ rfl rfl rfl rfl rfl (fun _ => r_eqlStrL rfl (ev_t rfl) ev_c) ?_
         refine WN.calm _ rfl rfl rfl rfl rfl (fun _ => r_move rfl (ev_t rfl)) ?_
         refine WN.cases 18 rfl (fun hb4_3 => ?_) (fun hb4_3 => ?_)
         · try (exfalso; first | (simp at hb4_3; done) | (simp only [decide_eq_true_eq, decide_eq_false_iff_not, Bool.not_eq_true', Bool.not_eq_false', Bool.not_eq_true, Bool.not_eq_false] at hb4_3; omega) | omega)
           all_goals
            try simp only [decide_eq_true_eq, decide_eq_false_iff_not, Bool.not_eq_true', Bool.not_eq_false', Bool.not_eq_true, Bool.not_eq_false, Option.isNone_none, Option.isNone_some, Option.isSome_none, Option.isSome_some, ne_eq, Decidable.not_not] at hb4_3
            obtain ⟨x, rfl⟩ := Ty.nm_nil.1 hb4_3
            obtain rfl := (hm x rfl).symm
            refine WN.calm _ rfl rfl rfl rfl rfl (fun _ => r_move rfl (ev_t rfl)) ?_
            refine WN.calm _ rfl rfl rfl rfl rfl (fun _ => r_nilCheck rfl (ev_t rfl)) ?_
            first | refine WN.calm _ rfl rfl rfl rfl rfl (fun _ => r_field0 rfl (ev_t rfl) fld_46_1) ?_ | refine WN.calm _ rfl rfl rfl rfl rfl (fun _ => r_fieldAt rfl (ev_t rfl) fld_46_1) ?_
            refine WN.calm _ rfl rfl rfl rfl rfl (fun _ => r_move rfl (ev_t rfl)) ?_
            first | refine WN.calm _ rfl rfl rfl rfl rfl (fun _ => r_field0 rfl (ev_t rfl) fld_28_1) ?_ | refine WN.calm _ rfl rfl rfl rfl rfl (fun _ => r_fieldAt rfl (ev_t rfl) fld_28_1) ?_
            refine WN.held _ rfl rfl rfl rfl rfl hS4 (fun w' hS => r_load rfl (ev_t rfl) flat_33 (Blk.cell ((hhd.upd hU (fun h => h)).upd hS (fun h => h)) rfl)) ?_
            refine WN.calm _ rfl rfl rfl rfl rfl (fun _ => r_indexAddr rfl (ev_t rfl) (ev_t rfl) elem_33 size_3 (by omega) (by omega)) ?_
            refine WN.held _ rfl rfl rfl rfl rfl hS4 (fun w' hS => r_load rfl (ev_t rfl) flat_3 (Rd.cell ((hrv.upd hU (fun _ _ _ h => h)).upd hS (fun _ _ _ h => h)) (j := i) (u := I6 ki) (by omega) (by rw [List.getElem?_map, hki]; rfl))) ?_
            refine WN.step _ rfl (SO.val rfl rfl rfl rfl (r_load rfl (ev_t rfl) flat_3 (Blk.cell hB1 rfl)) ?_)
            refine ⟨hS4, ?_⟩
            refine WN.calm _ rfl rfl rfl rfl rfl (fun _ => r_eql rfl (ev_t rfl) (ev_t rfl)) ?_
            refine WN.calm _ rfl rfl rfl rfl rfl (fun _ => r_pickT rfl (ev_t rfl) (ev_t rfl)) ?_
            refine WN.done ?_
            refine WX.keep [(0, _), (3, _), (4, _), (5, _), (29, _)] ⟨rfl, rfl, rfl, rfl, rfl, trivial⟩ ?_
            refine WX.next ?_
            refine WC.cond rfl (ev_t rfl) (fun hc4 => ?_) (fun hc4 => ?_)
            · try (exfalso; first | (simp at hc4; done) | (simp only [decide_eq_true_eq, decide_eq_false_iff_not, Bool.not_eq_true', Bool.not_eq_false', Bool.not_eq_true, Bool.not_eq_false] at hc4; omega) | omega)
              all_goals
               try simp only [decide_eq_true_eq, decide_eq_false_iff_not, Bool.not_eq_true', Bool.not_eq_false', Bool.not_eq_true, Bool.not_eq_false, Option.isNone_none, Option.isNone_some, Option.isSome_none, Option.isSome_some, ne_eq, Decidable.not_not] at hc4
               obtain rfl : ki = x := by simpa using hc4
               obtain ⟨bo0, offo, hAo, _⟩ := (show Rd w Go (.slice Ao σ.length co) σ.length 3 (xs.flatMap c3) from hro).open (by omega)
               subst hAo
               obtain ⟨ui, hui⟩ := get_ex (l := σ.map (·.2)) (i := i) (by simpa using hi')
               have hlk := look_at hki (hno _ rfl) hui
               have hxl : i < xs.length := by rw [hI.tlen]; exact hi'
               have hxi : xs[i]? = some xs[i] := List.getElem?_eq_getElem hxl
               have hti := htv.2 i _ _ hxi hui
               generalize xs[i] = ci at *
               obtain ⟨c1, c2, c3'⟩ := ci
               simp only [hdF, hlk] at hh
               refine WC.seq ?_
               refine WC.region ?_
               refine WL.val rfl rfl rfl rfl (r_move rfl (ev_t rfl)) ?_
               refine WL.val rfl rfl rfl rfl (r_move rfl (ev_t rfl)) ?_
               refine WL.val rfl rfl rfl rfl (r_nilCheck rfl (ev_t rfl)) ?_
               first | refine WL.val rfl rfl rfl rfl (r_field0 rfl (ev_t rfl) fld_46_2) ?_ | refine WL.val rfl rfl rfl rfl (r_fieldAt rfl (ev_t rfl) fld_46_2) ?_
               refine WL.val rfl rfl rfl rfl (r_load rfl (ev_t rfl) flat_26 (Blk.cell (hhd.upd hU (fun h => h)) rfl)) ?_
               refine WL.val rfl rfl rfl rfl (r_move rfl (ev_t rfl)) ?_
               refine WL.val rfl rfl rfl rfl (r_indexAddr rfl (ev_t rfl) (ev_t rfl) elem_26 size_28 (by omega) (by omega)) ?_
               refine WL.val rfl rfl rfl rfl (r_loadAgg (vs := [_, _, _]) rfl (ev_t rfl) agg_28 size_28 (kid_cells (hro.upd hU (fun _ _ _ h => h)) hxi rfl)) ?_
               refine WL.cons (SO.call (ih _ _ _ _ _ ui h (hI.updN hU) (hti.upd hU (fun _ _ _ h => h)) hh) rfl body_34 ⟨(ev_t rfl), (ev_t rfl), trivial⟩ rfl rfl rfl rfl ?_)
               rintro v w4 ⟨d1, d2, d3, rfl, hd, hu4⟩
               obtain ⟨md, Ad', kd, xkd, rfl, rfl, rfl, _⟩ := hd.open
               have hs4 := hu4.size
               replace hU := hU.transA hu4
               replace hB1 := hB1.updA hu4
               replace hB2 := hB2.upd hu4 (by first | exact (fun h => h) | (simp only [At]; omega))
               refine WL.cons (SO.storeAll (us := [_, _, _]) rfl (ev_t rfl) (ev_t rfl) size_28 hB2 rfl rfl rfl rfl rfl ?_)
               intro w5 hu5 hB2 hz5
               have hs5 := hu5.size
               replace hU := hU.transA hu5
               replace hB1 := hB1.updA hu5
               replace hd := hd.upd hu5 (fun k hk hl hS => by first | exact (show False from hS).elim | (simp only [At] at hS; omega))
               refine WL.nil ?_
               refine WX.keep [(4, _)] ⟨rfl, trivial⟩ ?_
               refine WX.next ?_
               refine WC.ret ?_
               refine WX.blockRet ?_
               refine WX.thenRet ?_
               refine WX.thenRet ?_
               refine WX.blockRet ?_
               refine WX.thenRet ?_
               refine WX.retC (vs := [_, _, _]) rfl rfl agg_28 size_28 (Blk.cellsL hB2) ?_
               exact ⟨_, _, _, rfl, hd.mono fun k hk => hk.1, hU⟩
            · try (exfalso; first | (simp at hc4; done) | (simp only [decide_eq_true_eq, decide_eq_false_iff_not, Bool.not_eq_true', Bool.not_eq_false', Bool.not_eq_true, Bool.not_eq_false] at hc4; omega) | omega)
              all_goals
               try simp only [decide_eq_true_eq, decide_eq_false_iff_not, Bool.not_eq_true', Bool.not_eq_false', Bool.not_eq_true, Bool.not_eq_false, Option.isNone_none, Option.isNone_some, Option.isSome_none, Option.isSome_some, ne_eq, Decidable.not_not] at hc4
               refine WC.skip ?_
               refine WX.blockNormal ?_
               refine WX.next ?_
               refine WC.region ?_
               refine WL.val rfl rfl rfl rfl (r_move rfl (ev_t rfl)) ?_
               first | refine WL.val rfl rfl rfl rfl (r_addN rfl (ev_t rfl) ev_c (by simp only [inK]; omega)) ?_ | refine WL.val rfl rfl rfl rfl (r_add rfl (ev_t rfl) ev_c) ?_
               refine WL.val rfl rfl rfl rfl (r_assign rfl (ev_t rfl)) ?_
               refine WL.nil ?_
               refine WX.keep [(0, _), (3, _), (4, _), (5, _)] ⟨rfl, rfl, rfl, rfl, trivial⟩ ?_
               refine WX.meet [(0, _), (3, _), (4, _), (5, _)] ⟨rfl, rfl, rfl, rfl, trivial⟩ ?_
               refine ⟨σ.length - (i + 1), by omega, i + 1, by omega, rfl, hU, by omega, hB1, hB2, fun x hx j hj => ?_, by simp⟩
               rcases Nat.lt_or_ge j i with h | h
               · exact hno x hx j h
               · obtain rfl : j = i := by omega
                 rw [hki]
                 intro e
                 injection e with e
                 first
                   | (injection hx with hx; subst hx; exact absurd hc4 (by simp [e]))
                   | (subst hx; exact absurd rfl hb4_3)
         · try (exfalso; first | (simp at hb4_3; done) | (simp only [decide_eq_true_eq, decide_eq_false_iff_not, Bool.not_eq_true', Bool.not_eq_false', Bool.not_eq_true, Bool.not_eq_false] at hb4_3; omega) | omega)
           all_goals
            try simp only [decide_eq_true_eq, decide_eq_false_iff_not, Bool.not_eq_true', Bool.not_eq_false', Bool.not_eq_true, Bool.not_eq_false, Option.isNone_none, Option.isNone_some, Option.isSome_none, Option.isSome_some, ne_eq, Decidable.not_not] at hb4_3
            refine WN.skip _ rfl rfl rfl rfl ?_
            refine WN.skip _ rfl rfl rfl rfl ?_
            refine WN.skip _ rfl rfl rfl rfl ?_
            refine WN.skip _ rfl rfl rfl rfl ?_
            refine WN.skip _ rfl rfl rfl rfl ?_
            refine WN.heldSkip _ rfl rfl rfl rfl hS4 ?_
            refine WN.skip _ rfl rfl rfl rfl ?_
            refine WN.heldSkip _ rfl rfl rfl rfl hS4 ?_
            refine WN.step _ rfl (SO.skip rfl rfl rfl ?_)
            refine ⟨hS4, ?_⟩
            refine WN.skip _ rfl rfl rfl rfl ?_
            refine WN.calm _ rfl rfl rfl rfl rfl (fun _ => r_pickF rfl (ev_t rfl) ev_c) ?_
            refine WN.done ?_
            refine WX.keep [(0, _), (3, _), (4, _), (5, _), (29, _)] ⟨rfl, rfl, rfl, rfl, rfl, trivial⟩ ?_
            refine WX.next ?_
            refine WC.cond_false rfl (ev_t rfl) ?_
            refine WC.skip ?_
            refine WX.blockNormal ?_
            refine WX.next ?_
            refine WC.region ?_
            refine WL.val rfl rfl rfl rfl (r_move rfl (ev_t rfl)) ?_
            first | refine WL.val rfl rfl rfl rfl (r_addN rfl (ev_t rfl) ev_c (by simp only [inK]; omega)) ?_ | refine WL.val rfl rfl rfl rfl (r_add rfl (ev_t rfl) ev_c) ?_
            refine WL.val rfl rfl rfl rfl (r_assign rfl (ev_t rfl)) ?_
            refine WL.nil ?_
            refine WX.keep [(0, _), (3, _), (4, _), (5, _)] ⟨rfl, rfl, rfl, rfl, trivial⟩ ?_
            refine WX.meet [(0, _), (3, _), (4, _), (5, _)] ⟨rfl, rfl, rfl, rfl, trivial⟩ ?_
            refine ⟨σ.length - (i + 1), by omega, i + 1, by omega, rfl, hU, by omega, hB1, hB2, fun x hx j hj => ?_, by simp⟩
            rcases Nat.lt_or_ge j i with h | h
            · exact hno x hx j h
            · obtain rfl : j = i := by omega
              rw [hki]
              intro e
              injection e with e
              first
                | (injection hx with hx; subst hx; exact absurd hc4 (by simp [e]))
                | (subst hx; exact absurd rfl hb4_3)
      · try (exfalso; first | (simp at hc2; done) | (simp only [decide_eq_true_eq, decide_eq_false_iff_not, Bool.not_eq_true', Bool.not_eq_false', Bool.not_eq_true, Bool.not_eq_false] at hc2; omega) | omega)
        all_goals
         try simp only [decide_eq_true_eq, decide_eq_false_iff_not, Bool.not_eq_true', Bool.not_eq_false', Bool.not_eq_true, Bool.not_eq_false, Option.isNone_none, Option.isNone_some, Option.isSome_none, Option.isSome_some, ne_eq, Decidable.not_not] at hc2
         obtain rfl : i = σ.length := by omega
         refine WC.exit ?_
         refine WX.thenExit ?_
         refine WX.thenExit ?_
         refine WX.blockHere ?_
         refine WX.next ?_
         refine WC.seq ?_
         refine WC.region ?_
         refine WL.val rfl rfl rfl rfl (r_loadAgg (vs := [_, _, _]) rfl (ev_t rfl) agg_28 size_28 (Blk.cellsL hB1)) ?_
         refine WL.cons (SO.storeAll (us := [_, _, _]) rfl (ev_t rfl) (ev_t rfl) size_28 hB2 rfl rfl rfl rfl rfl ?_)
         intro w6 hu6 hB2 hz6
         have hs6 := hu6.size
         replace hU := hU.transA hu6
         replace hB1 := hB1.updA hu6
         refine WL.nil ?_
         refine WX.keep [(4, _)] ⟨rfl, trivial⟩ ?_
         refine WX.next ?_
         refine WC.ret ?_
         refine WX.retC (vs := [_, _, _]) rfl rfl agg_28 size_28 (Blk.cellsL hB2) ?_
         have e : h = t := by
           cases t with
           | v x => exact hd_none (look_no (hno x rfl)) hh
           | c f ks => exact hd_con f.2 hh
         subst e
         exact ⟨_, _, _, rfl, (ht.upd hU (fun _ _ _ h => h)).mono fun k hk => hk.1, hU⟩

set_option maxHeartbeats 2000000 in
theorem rsize_ok {Gv Go Gd : Nat → Prop} {p : Nat} {σ : Sg} {D : Dn} {nn : Int} {xs : List C3} {Av Ao Ad : Option Addr} {cv co cd : Nat} (hw : WF σ) : ∀ (N : Nat) (F : Nat → Prop) (w : World) (a b c : Value) (t : Ty) (most : Nat), sz (ext (th σ) t) ≤ N → IsRf w F Gv Go Gd p σ D nn xs Av Ao Ad cv co cd → TV w F (a, b, c) t → 1 ≤ most → most ≤ 1000000000 →
    Ret Try.prog 21 #[.pointer (some ⟨p, 0, none⟩), .agg #[a, b, c], .int .i64 (most : Int)] w fun v w' => v = .int .i64 ((min (sz (ext (th σ) t)) most : Nat) : Int) ∧ Upd No w w' := by
  intro N
  induction N with
  | zero =>
    intro F w a b c t most hN
    have := sz_pos (ext (th σ) t)
    omega
  | succ N ih =>
    intro F w a b c t most hN hI ht h1 h2
    replace hI := hI.bound
    replace ht := ht.bound
    obtain ⟨h, hh⟩ := hw.hd t
    obtain ⟨fu, hfu⟩ := hh.fuel
    have hsz := head_sz hw hh
    obtain ⟨m0, A9, k9, xk9, rfl, rfl, rfl, _⟩ := ht.open
    refine enterRet (vs := [_, _, _]) (N := 37) Try.func21 rfl rfl rfl ?_
    have hU := Upd.refl No w
    refine WC.keep [(0, _), (1, _), (2, _)] ⟨rfl, rfl, rfl, trivial⟩ ?_
    refine WC.seq ?_
    refine WC.region ?_
    refine WL.cons (SO.alloc rfl rfl rfl rfl (r_boxAgg rfl (ev_t rfl)) ?_)
    intro w1 hu1 hB1 hz1
    have hs1 := hu1.size
    replace hU := hU.transA hu1
    refine WL.val rfl rfl rfl rfl (r_assign rfl ev_c) ?_
    refine WL.nil ?_
    refine WX.keep [(0, _), (2, _), (4, _)] ⟨rfl, rfl, rfl, trivial⟩ ?_
    refine WX.next ?_
    refine WC.seq ?_
    refine WC.region ?_
    refine WL.val rfl rfl rfl rfl (r_move rfl (ev_t rfl)) ?_
    refine WL.val rfl rfl rfl rfl (r_loadAgg (vs := [_, _, _]) rfl (ev_t rfl) agg_28 size_28 (Blk.cellsL hB1)) ?_
    refine WL.cons (SO.call (rhead_ok _ _ _ _ _ _ _ _ (hI.updN hU) (ht.upd hU (fun _ _ _ h => h)) (hfu fu (Nat.le_refl _))) rfl body_34 ⟨(ev_t rfl), (ev_t rfl), trivial⟩ rfl rfl rfl rfl ?_)
    rintro v w2 ⟨a', b', c', rfl, hth, hu2⟩
    obtain ⟨m, A0, k0, xk, rfl, rfl, rfl, hm, hr, hl, hb, hk⟩ := hth.open
    have hks : TVs w2 _ xk h.kids := ⟨hl, hk⟩
    have hs2 := hu2.size
    replace hU := hU.transA hu2
    replace hB1 := hB1.updA hu2
    refine WL.cons (SO.storeAll (us := [_, _, _]) rfl (ev_t rfl) (ev_t rfl) size_28 hB1 rfl rfl rfl rfl rfl ?_)
    intro w3 hu3 hB1 hz3
    have hs3 := hu3.size
    replace hU := hU.transA hu3
    replace hr := hr.updA hu3
    replace hks := hks.updA hu3
    refine WL.nil ?_
    refine WX.keep [(0, _), (2, _), (4, _)] ⟨rfl, rfl, rfl, trivial⟩ ?_
    refine WX.next ?_
    refine WC.seq ?_
    refine WC.region ?_
    refine WL.val rfl rfl rfl rfl (r_assign rfl ev_c) ?_
    refine WL.nil ?_
    refine WX.keep [(0, _), (2, _), (4, _), (7, _)] ⟨rfl, rfl, rfl, rfl, trivial⟩ ?_
    refine WX.next ?_
    refine WC.seq ?_
    refine WC.seq ?_
    refine WC.region ?_
    refine WL.val rfl rfl rfl rfl (r_assign rfl ev_c) ?_
    refine WL.nil ?_
    refine WX.keep [(0, _), (2, _), (4, _), (7, _), (8, _)] ⟨rfl, rfl, rfl, rfl, rfl, trivial⟩ ?_
    refine WX.next ?_
    refine WC.block ?_
    -- loop 1: live [0, 2, 4, 7, 8]
    refine WC.keep [(0, _), (2, _), (4, _), (7, _), (8, _)] ⟨rfl, rfl, rfl, rfl, rfl, trivial⟩ ?_
    refine WC.loop (fun q E w' => ∃ (i n : Nat), i ≤ h.kids.length ∧ q = h.kids.length - i ∧ Upd No w w' ∧ Blk w' w.heap.size #[.string ⟨h.nm.toArray⟩, .int .i64 m, .slice A0 h.kids.length k0] typ ∧ Rd w' (fun k => F k ∧ k < w.heap.size) (.slice A0 h.kids.length k0) h.kids.length 3 (xk.flatMap c3) ∧ TVs w' (fun k => F k ∧ k < w.heap.size) xk h.kids ∧ n = min (1 + ((h.kids.take i).map fun k => sz (ext (th σ) k)).sum) most ∧   E = [(0, .pointer (some ⟨p, 0, none⟩)), (2, .int .i64 (most : Int)), (4, .pointer (some ⟨w.heap.size, 0, none⟩)), (7, .int .i64 (n : Int)), (8, .int .i64 (i : Int))]) (h.kids.length) ?_ ?_
    · exact ⟨0, 1, by omega, by omega, hU, hB1, hr, hks, by simp; omega, rfl⟩
    · clear hU hB1 hr hks
      rintro q E w' ⟨i, n, hi, rfl, hU, hB1, hr, hks, hn, rfl⟩
      have hs0 := hU.size
      refine WC.seq ?_
      -- cut r4: live [0, 2, 4, 7, 8, 21]
      refine WC.cut (fun E wA => ∃ bb : Bool, w' = wA ∧ (bb = true ↔ (i < h.kids.length ∧ n < most)) ∧ E = [(0, .pointer (some ⟨p, 0, none⟩)), (2, .int .i64 (most : Int)), (4, .pointer (some ⟨w.heap.size, 0, none⟩)), (7, .int .i64 (n : Int)), (8, .int .i64 (i : Int)), (21, .bool bb)]) ?_ ?_
      · refine WC.region ?_
        refine WL.val rfl rfl rfl rfl (r_move rfl (ev_t rfl)) ?_
        first | refine WL.val rfl rfl rfl rfl (r_field0 rfl (ev_t rfl) fld_28_2) ?_ | refine WL.val rfl rfl rfl rfl (r_fieldAt rfl (ev_t rfl) fld_28_2) ?_
        refine WL.val rfl rfl rfl rfl (r_load rfl (ev_t rfl) flat_26 (Blk.cell hB1 rfl)) ?_
        refine WL.val rfl rfl rfl rfl (r_lenSlice (ts := #[]) rfl (ev_t rfl) elem_26) ?_
        refine WL.val rfl rfl rfl rfl (r_lss rfl (ev_t rfl) (ev_t rfl)) ?_
        refine WL.val rfl rfl rfl rfl (r_move rfl (ev_t rfl)) ?_
        refine WL.cases 17 rfl (fun hb4_5 => ?_) (fun hb4_5 => ?_)
        · try (exfalso; first | (simp at hb4_5; done) | (simp only [decide_eq_true_eq, decide_eq_false_iff_not, Bool.not_eq_true', Bool.not_eq_false', Bool.not_eq_true, Bool.not_eq_false] at hb4_5; omega) | omega)
          all_goals
           try simp only [decide_eq_true_eq, decide_eq_false_iff_not, Bool.not_eq_true', Bool.not_eq_false', Bool.not_eq_true, Bool.not_eq_false, Option.isNone_none, Option.isNone_some, Option.isSome_none, Option.isSome_some, ne_eq, Decidable.not_not] at hb4_5
           refine WL.val rfl rfl rfl rfl (r_move rfl (ev_t rfl)) ?_
           refine WL.val rfl rfl rfl rfl (r_move rfl (ev_t rfl)) ?_
           refine WL.val rfl rfl rfl rfl (r_lss rfl (ev_t rfl) (ev_t rfl)) ?_
           refine WL.val rfl rfl rfl rfl (r_pickT rfl (ev_t rfl) (ev_t rfl)) ?_
           refine WL.nil ?_
           refine WX.keep [(0, _), (2, _), (4, _), (7, _), (8, _), (21, _)] ⟨rfl, rfl, rfl, rfl, rfl, rfl, trivial⟩ ?_
           refine WX.meet [(0, _), (2, _), (4, _), (7, _), (8, _), (21, _)] ⟨rfl, rfl, rfl, rfl, rfl, rfl, trivial⟩ ?_
           refine ⟨_, rfl, ?_, rfl⟩
           first
             | (rw [decide_eq_true_eq]; omega)
             | (exact ⟨fun h => Bool.noConfusion h, fun h => by omega⟩)
        · try (exfalso; first | (simp at hb4_5; done) | (simp only [decide_eq_true_eq, decide_eq_false_iff_not, Bool.not_eq_true', Bool.not_eq_false', Bool.not_eq_true, Bool.not_eq_false] at hb4_5; omega) | omega)
          all_goals
           try simp only [decide_eq_true_eq, decide_eq_false_iff_not, Bool.not_eq_true', Bool.not_eq_false', Bool.not_eq_true, Bool.not_eq_false, Option.isNone_none, Option.isNone_some, Option.isSome_none, Option.isSome_some, ne_eq, Decidable.not_not] at hb4_5
           refine WL.skip rfl rfl rfl ?_
           refine WL.skip rfl rfl rfl ?_
           refine WL.skip rfl rfl rfl ?_
           refine WL.val rfl rfl rfl rfl (r_pickF rfl (ev_t rfl) ev_c) ?_
           refine WL.nil ?_
           refine WX.keep [(0, _), (2, _), (4, _), (7, _), (8, _), (21, _)] ⟨rfl, rfl, rfl, rfl, rfl, rfl, trivial⟩ ?_
           refine WX.meet [(0, _), (2, _), (4, _), (7, _), (8, _), (21, _)] ⟨rfl, rfl, rfl, rfl, rfl, rfl, trivial⟩ ?_
           refine ⟨_, rfl, ?_, rfl⟩
           first
             | (rw [decide_eq_true_eq]; omega)
             | (exact ⟨fun h => Bool.noConfusion h, fun h => by omega⟩)
      · rintro E wA ⟨bb, rfl, hbb, rfl⟩
        refine WC.cond rfl (ev_t rfl) (fun hc4 => ?_) (fun hc4 => ?_)
        · try (exfalso; first | (simp at hc4; done) | (simp only [decide_eq_true_eq, decide_eq_false_iff_not, Bool.not_eq_true', Bool.not_eq_false', Bool.not_eq_true, Bool.not_eq_false] at hc4; omega) | omega)
          all_goals
           try simp only [decide_eq_true_eq, decide_eq_false_iff_not, Bool.not_eq_true', Bool.not_eq_false', Bool.not_eq_true, Bool.not_eq_false, Option.isNone_none, Option.isNone_some, Option.isSome_none, Option.isSome_some, ne_eq, Decidable.not_not] at hc4
           obtain ⟨hi', hnm⟩ := hbb.1 hc4
           obtain ⟨b0, off, rfl, _⟩ := hr.open (by omega)
           have hlx : i < xk.length := by have := hks.1; omega
           have hxi : xk[i]? = some xk[i] := List.getElem?_eq_getElem hlx
           have hki : h.kids[i]? = some h.kids[i] := List.getElem?_eq_getElem hi'
           have htk := hks.2 i _ _ hxi hki
           have hsum := take_sum_succ (f := fun k => sz (ext (th σ) k)) hi'
           have hkl := kid_lt (σ := σ) hi'
           generalize xk[i] = ck at *
           generalize h.kids[i] = kk at *
           obtain ⟨ca, cb, cc⟩ := ck
           refine WC.skip ?_
           refine WX.next ?_
           refine WC.seq ?_
           refine WC.block ?_
           refine WC.region ?_
           refine WL.val rfl rfl rfl rfl (r_move rfl (ev_t rfl)) ?_
           refine WL.val rfl rfl rfl rfl (r_move rfl (ev_t rfl)) ?_
           first | refine WL.val rfl rfl rfl rfl (r_field0 rfl (ev_t rfl) fld_28_2) ?_ | refine WL.val rfl rfl rfl rfl (r_fieldAt rfl (ev_t rfl) fld_28_2) ?_
           refine WL.val rfl rfl rfl rfl (r_load rfl (ev_t rfl) flat_26 (Blk.cell hB1 rfl)) ?_
           refine WL.val rfl rfl rfl rfl (r_move rfl (ev_t rfl)) ?_
           refine WL.val rfl rfl rfl rfl (r_indexAddr rfl (ev_t rfl) (ev_t rfl) elem_26 size_28 (by omega) (by omega)) ?_
           refine WL.val rfl rfl rfl rfl (r_loadAgg (vs := [_, _, _]) rfl (ev_t rfl) agg_28 size_28 (kid_cells hr hxi rfl)) ?_
           refine WL.val rfl rfl rfl rfl (r_move rfl (ev_t rfl)) ?_
           refine WL.val rfl rfl rfl rfl (r_move rfl (ev_t rfl)) ?_
           first | refine WL.val rfl rfl rfl rfl (r_subN rfl (ev_t rfl) (ev_t rfl) (by simp only [inK]; omega)) ?_ | refine WL.val rfl rfl rfl rfl (r_sub rfl (ev_t rfl) (ev_t rfl)) ?_
           rw [show ((most : Int) - (n : Int)) = ((most - n : Nat) : Int) by omega]
           refine WL.cons (SO.call (ih _ _ _ _ _ kk (most - n) (by omega) (hI.updN hU) htk (by omega) (by omega)) rfl body_21 ⟨(ev_t rfl), (ev_t rfl), (ev_t rfl), trivial⟩ rfl rfl rfl rfl ?_)
           rintro v w4 ⟨rfl, hu4⟩
           have hs4 := hu4.size
           replace hU := hU.transA hu4
           replace hr := hr.updA hu4
           replace hks := hks.updA hu4
           replace hB1 := hB1.updA hu4
           first | refine WL.val rfl rfl rfl rfl (r_addN rfl (ev_t rfl) (ev_t rfl) (by simp only [inK]; omega)) ?_ | refine WL.val rfl rfl rfl rfl (r_add rfl (ev_t rfl) (ev_t rfl)) ?_
           refine WL.val rfl rfl rfl rfl (r_assign rfl (ev_t rfl)) ?_
           refine WL.nil ?_
           refine WX.keep [(0, _), (2, _), (4, _), (7, _), (8, _)] ⟨rfl, rfl, rfl, rfl, rfl, trivial⟩ ?_
           refine WX.blockNormal ?_
           refine WX.next ?_
           refine WC.region ?_
           refine WL.val rfl rfl rfl rfl (r_move rfl (ev_t rfl)) ?_
           first | refine WL.val rfl rfl rfl rfl (r_addN rfl (ev_t rfl) ev_c (by simp only [inK]; omega)) ?_ | refine WL.val rfl rfl rfl rfl (r_add rfl (ev_t rfl) ev_c) ?_
           refine WL.val rfl rfl rfl rfl (r_assign rfl (ev_t rfl)) ?_
           refine WL.nil ?_
           refine WX.keep [(0, _), (2, _), (4, _), (7, _), (8, _)] ⟨rfl, rfl, rfl, rfl, rfl, trivial⟩ ?_
           refine WX.meet [(0, _), (2, _), (4, _), (7, _), (8, _)] ⟨rfl, rfl, rfl, rfl, rfl, trivial⟩ ?_
           exact ⟨h.kids.length - (i + 1), by omega, i + 1, n + min (sz (ext (th σ) kk)) (most - n), by omega, rfl, hU, hB1, hr, hks, by rw [hsum]; omega, by simp⟩
        · try (exfalso; first | (simp at hc4; done) | (simp only [decide_eq_true_eq, decide_eq_false_iff_not, Bool.not_eq_true', Bool.not_eq_false', Bool.not_eq_true, Bool.not_eq_false] at hc4; omega) | omega)
          all_goals
           try simp only [decide_eq_true_eq, decide_eq_false_iff_not, Bool.not_eq_true', Bool.not_eq_false', Bool.not_eq_true, Bool.not_eq_false, Option.isNone_none, Option.isNone_some, Option.isSome_none, Option.isSome_some, ne_eq, Decidable.not_not] at hc4
           have hno : ¬ (i < h.kids.length ∧ n < most) := fun h => by rw [hbb.2 h] at hc4; cases hc4
           have hle := take_sum_le (l := h.kids) (f := fun k => sz (ext (th σ) k)) (i := i)
           refine WC.exit ?_
           refine WX.thenExit ?_
           refine WX.thenExit ?_
           refine WX.blockHere ?_
           refine WX.next ?_
           refine WC.seq ?_
           refine WC.region ?_
           refine WL.val rfl rfl rfl rfl (r_move rfl (ev_t rfl)) ?_
           refine WL.val rfl rfl rfl rfl (r_assign rfl (ev_t rfl)) ?_
           refine WL.nil ?_
           refine WX.keep [(6, _)] ⟨rfl, trivial⟩ ?_
           refine WX.next ?_
           refine WC.ret ?_
           refine WX.retE1 rfl rfl ?_
           refine ⟨?_, hU⟩
           rw [hsz]
           congr 2
           by_cases hi' : i < h.kids.length
           · omega
           · have : h.kids.take i = h.kids := List.take_of_length_le (by omega)
             rw [this] at hn
             exact hn
end Go.Proofs.Ytncakfcafkfmfaa
