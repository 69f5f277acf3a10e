/-
  turtle: place.
-/
import Derived.Test.YtjiafgnibhgfbaaFi
import Derived.Test.YtjiafgnibhgfbaaTab
namespace Go.Proofs.Ytjiafgnibhgfbaa
open Go
set_option linter.unusedSimpArgs false
set_option linter.unusedVariables false

/-- a complex number of whole parts -/
def CI (v : Value) (p : Int × Int) : Prop := ∃ a b, v = .complex .f64 a b ∧ FI a p.1 ∧ FI b p.2

theorem place_ok {w : World} {v : Value} {p : Int × Int} (h : CI v p) (h1 : p.1.natAbs < 9007199254740992) (h2 : p.2.natAbs < 9007199254740992) :
    Ret Try.prog 53 #[v] w fun v' w' => v' = .agg #[.int .i64 p.1, .int .i64 p.2] ∧ Upd No w w' := by
  obtain ⟨a, b, rfl, ha, hb⟩ := h
  refine enterRet (vs := [_]) (N := 10) Try.func53 rfl rfl rfl ?_
  have hU := Upd.refl No w
  refine WC.keep [(0, _)] ⟨rfl, trivial⟩ ?_
  refine WC.seq ?_
  -- region 0 turtle.go:38
  refine WC.region ?_
  refine WL.cons (SO.alloc rfl rfl rfl rfl (r_alloc rfl zero_32) ?_)
  intro w1 hu1 hB1 hz1
  have hs1 := hu1.size
  replace hU := hU.trans hu1 (by first | exact (fun _ _ h => h) | exact (fun _ _ h => h.elim) | (intro k hl hk; (try simp only [At, New, Grow, From, No] at hk ⊢); omega))
  refine WL.nil ?_
  refine WX.keep [(0, _), (2, _)] ⟨rfl, rfl, trivial⟩ ?_
  refine WX.next ?_
  refine WC.seq ?_
  -- region 1 turtle.go:38
  refine WC.region ?_
  refine WL.val rfl rfl rfl rfl (r_move rfl (ev_t rfl)) ?_
  refine WL.val rfl rfl rfl rfl (r_realB rfl (ev_t rfl)) ?_
  refine WL.val rfl rfl rfl rfl (r_ftoi rfl (ev_t rfl) (by kernel_rfl) Try.underlying2 ha h1) ?_
  refine WL.val rfl rfl rfl rfl (r_move rfl (ev_t rfl)) ?_
  refine WL.val rfl rfl rfl rfl (r_imagB rfl (ev_t rfl)) ?_
  refine WL.val rfl rfl rfl rfl (r_ftoi rfl (ev_t rfl) (by kernel_rfl) Try.underlying2 hb h2) ?_
  refine WL.val rfl rfl rfl rfl (r_build (cs := #[_, _]) (vs := [(0, _), (1, _)]) rfl ⟨⟨rfl, (ev_t rfl)⟩, ⟨rfl, (ev_t rfl)⟩, trivial⟩ plc_32 zero_32 rfl) ?_
  refine WL.cons (SO.store2 rfl (ev_t rfl) (ev_t rfl) size_32 hB1 rfl rfl rfl rfl rfl rfl ?_)
  intro w2 hu2 hB1 hz2
  have hs2 := hu2.size
  replace hU := hU.trans hu2 (by first | exact (fun _ _ h => h) | exact (fun _ _ h => h.elim) | (intro k hl hk; (try simp only [At, New, Grow, From, No] at hk ⊢); omega))
  refine WL.nil ?_
  refine WX.keep [(2, _)] ⟨rfl, trivial⟩ ?_
  refine WX.next ?_
  refine WC.ret ?_
  refine WX.retC rfl rfl agg_32 rfl (Blk.cells2 hB1) ?_
  exact ⟨rfl, hU⟩

theorem Rd.cells2 {w : World} {F : Nat → Prop} {b off n c i q : Nat} {xs : List Value} {v0 v1 : Value} (hr : Rd w F (.slice (some ⟨b, off, none⟩) n c) n 2 xs) (h0 : xs[i * 2]? = some v0) (h1 : xs[i * 2 + 1]? = some v1) (hq : q = off + i * 2) : CellsAt w ⟨b, q, none⟩ [v0, v1] := fun j v hj => by
  subst hq
  match j, hj with
  | 0, hj =>
    simp at hj
    subst hj
    exact hr.cell (j := i * 2) rfl h0
  | 1, hj =>
    simp at hj
    subst hj
    show w.cell? ⟨b, off + i * 2 + 1, none⟩ = _
    exact hr.cell (j := i * 2 + 1) (by omega) h1
end Go.Proofs.Ytjiafgnibhgfbaa
