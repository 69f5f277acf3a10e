/-
  The reference's Int, Bytes.
-/
import Derived.Test.YtipabhbnljadfaaRfu
namespace Go.Proofs.Ytipabhbnljadfaa
open Go
set_option linter.unusedSimpArgs false
set_option linter.unusedVariables false

theorem refBytes_ok {w : World} {F : Nat → Prop} {v : Value} {n : Nat} {b : List UInt8} (hr : Rd w F v n 1 (b.map U8)) (hb : b.length ≤ 140737488354000) :
    Ret Try.prog 34 #[v] w fun v w' => Own w' (New w w') 5 1 v (encU b.length ++ b).length ((encU b.length ++ b).map U8) ∧ Upd No w w' := by
  obtain ⟨A, c, rfl, hle⟩ := hr.slice_form
  have hn := hr.lenB
  subst hn
  have hx := encU_length b.length
  have hy : blen b.length ≤ 8 := blen_le (by omega)
  replace hr := hr.bound
  refine enterRet (vs := [_]) (N := 11) Try.func34 rfl rfl rfl ?_
  have hU := Upd.refl No w
  refine WC.keep [(0, _)] ⟨rfl, trivial⟩ ?_
  refine WC.seq ?_
  refine WC.region ?_
  refine WL.val rfl rfl rfl rfl (r_assign rfl ev_c) ?_
  refine WL.nil ?_
  refine WX.keep [(0, _)] ⟨rfl, trivial⟩ ?_
  refine WX.next ?_
  refine WC.seq ?_
  refine WC.region ?_
  refine WL.val rfl rfl rfl rfl (r_move rfl (ev_t rfl)) ?_
  refine WL.val rfl rfl rfl rfl (r_lenSlice (ts := #[]) rfl (ev_t rfl) elem_23) ?_
  first | refine WL.val rfl rfl rfl rfl (r_convN rfl (ev_t rfl) some_3 int_27 (by simp only [inK]; omega)) ?_ | refine WL.val rfl rfl rfl rfl (r_conv rfl (ev_t rfl) some_3 int_27) ?_
  refine WL.cons (SO.call (refUint_ok (n := b.length) (by omega)) rfl body_33 ⟨(ev_t rfl), trivial⟩ rfl rfl rfl rfl ?_)
  rintro v w1 ⟨ho, hu1⟩
  have hs1 := hu1.size
  replace hU := hU.transA hu1
  replace hr := hr.updA hu1
  refine WL.val rfl rfl rfl rfl (r_assign rfl (ev_t rfl)) ?_
  refine WL.nil ?_
  refine WX.keep [(0, _), (3, _)] ⟨rfl, rfl, trivial⟩ ?_
  refine WX.next ?_
  refine WC.seq ?_
  refine WC.region ?_
  refine WL.val rfl rfl rfl rfl (r_move rfl (ev_t rfl)) ?_
  refine WL.val rfl rfl rfl rfl (r_move rfl (ev_t rfl)) ?_
  refine WL.cons (SO.append ho hr row_23 (U8_one b) (le_maxLen (by omega)) (by omega) rfl (ev_t rfl) (ev_t rfl) rfl rfl rfl rfl ?_)
  intro v2 w2 ho hu2
  have hs2 := hu2.size
  replace hU := hU.transA hu2
  replace hr := hr.updA hu2
  obtain ⟨A2, c2, rfl, hc2⟩ := Own.form ho
  refine WL.val rfl rfl rfl rfl (r_assign rfl (ev_t rfl)) ?_
  refine WL.nil ?_
  refine WX.keep [(2, _)] ⟨rfl, trivial⟩ ?_
  refine WX.next ?_
  refine WC.ret ?_
  refine WX.retE1 rfl rfl ?_
  rw [← List.map_append] at ho
  refine ⟨?_, hU⟩
  rw [List.length_append]
  exact ho.mono (fun k hk => New.of hk (by omega) (by omega))
end Go.Proofs.Ytipabhbnljadfaa
