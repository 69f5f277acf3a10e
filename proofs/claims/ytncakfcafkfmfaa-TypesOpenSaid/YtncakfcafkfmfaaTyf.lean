/-
  types: Free.
-/
import Derived.Test.YtncakfcafkfmfaaTye
namespace Go.Proofs.Ytncakfcafkfmfaa
open Go
set_option linter.unusedSimpArgs false
set_option linter.unusedVariables false

set_option maxHeartbeats 1000000 in
theorem free_ok {w : World} {F : Nat → Prop} {p m1 m2 n : Nat} {σ : Sg} {D : Dn} {nn : Int} {xs : List C3} {a b c : Value} {t : Ty} {s' : FrS} (hf : frF σ n t ([], []) = some s') (hlen : s'.1.length ≤ 1000000000) (hI : IsS w F p m1 m2 σ D nn xs) (ht : TV w F (a, b, c) t) :
    Ret Try.prog 33 #[.pointer (some ⟨p, 0, none⟩), .agg #[a, b, c]] w fun v w' => ∃ A k, v = .slice A s'.1.length k ∧ Own w' (New w w') 3 1 (.slice A s'.1.length k) s'.1.length (s'.1.map I6) ∧ Upd No w w' := by
  replace hI := hI.bound
  replace ht := ht.bound
  have hlt := hI.lt
  obtain ⟨m0, A9, k9, xk9, rfl, rfl, rfl, _⟩ := ht.open
  refine enterRet (vs := [_, _]) (N := 14) Try.func33 rfl rfl rfl ?_
  have hU := Upd.refl No w
  refine WC.keep [(0, _), (1, _)] ⟨rfl, rfl, trivial⟩ ?_
  refine WC.seq ?_
  refine WC.region ?_
  refine WL.cons (SO.alloc rfl rfl rfl rfl (r_box1 rfl (ev_t rfl) rfl) ?_)
  intro w1 hu1 hB1 hz1
  have hs1 := hu1.size
  replace hU := hU.trans hu1 (by first | exact (fun _ _ h => h) | exact (fun _ _ h => h.elim) | (intro k hl hk; (try simp only [At, New, Grow, From, No] at hk ⊢); omega) | (intro k hl hk; rcases hk with hk | hk | hk; omega; omega; exact hk.elim))
  refine WL.cons (SO.alloc rfl rfl rfl rfl (r_boxAgg rfl (ev_t rfl)) ?_)
  intro w2 hu2 hB2 hz2
  have hs2 := hu2.size
  replace hU := hU.trans hu2 (by first | exact (fun _ _ h => h) | exact (fun _ _ h => h.elim) | (intro k hl hk; (try simp only [At, New, Grow, From, No] at hk ⊢); omega) | (intro k hl hk; rcases hk with hk | hk | hk; omega; omega; exact hk.elim))
  replace hB1 := hB1.updA hu2
  refine WL.val rfl rfl rfl rfl (r_assign rfl ev_c) ?_
  refine WL.nil ?_
  refine WX.keep [(2, _), (3, _)] ⟨rfl, rfl, trivial⟩ ?_
  refine WX.next ?_
  refine WC.seq ?_
  refine WC.region ?_
  refine WL.cons (SO.alloc rfl rfl rfl rfl (r_alloc rfl zero_33) ?_)
  intro w3 hu3 hB3 hz3
  have hs3 := hu3.size
  replace hU := hU.trans hu3 (by first | exact (fun _ _ h => h) | exact (fun _ _ h => h.elim) | (intro k hl hk; (try simp only [At, New, Grow, From, No] at hk ⊢); omega) | (intro k hl hk; rcases hk with hk | hk | hk; omega; omega; exact hk.elim))
  replace hB1 := hB1.updA hu3
  replace hB2 := hB2.updA hu3
  refine WL.nil ?_
  refine WX.keep [(2, _), (3, _), (5, _)] ⟨rfl, rfl, rfl, trivial⟩ ?_
  refine WX.next ?_
  refine WC.seq ?_
  refine WC.region ?_
  refine WL.cons (SO.makeMap rfl rfl rfl rfl rfl ?_)
  intro w4 hu4 hB4 hz4
  have hs4 := hu4.size
  replace hU := hU.trans hu4 (by first | exact (fun _ _ h => h) | exact (fun _ _ h => h.elim) | (intro k hl hk; (try simp only [At, New, Grow, From, No] at hk ⊢); omega) | (intro k hl hk; rcases hk with hk | hk | hk; omega; omega; exact hk.elim))
  replace hB1 := hB1.updA hu4
  replace hB2 := hB2.updA hu4
  replace hB3 := hB3.updA hu4
  refine WL.cons (SO.alloc rfl rfl rfl rfl (r_alloc rfl zero_72) ?_)
  intro w5 hu5 hB5 hz5
  have hs5 := hu5.size
  replace hU := hU.trans hu5 (by first | exact (fun _ _ h => h) | exact (fun _ _ h => h.elim) | (intro k hl hk; (try simp only [At, New, Grow, From, No] at hk ⊢); omega) | (intro k hl hk; rcases hk with hk | hk | hk; omega; omega; exact hk.elim))
  replace hB1 := hB1.updA hu5
  replace hB2 := hB2.updA hu5
  replace hB3 := hB3.updA hu5
  replace hB4 := hB4.updA hu5
  refine WL.cons (SO.store rfl (ev_t rfl) (ev_t rfl) size_72 hB5 rfl rfl rfl rfl rfl ?_)
  intro w6 hu6 hB5 hz6
  have hs6 := hu6.size
  replace hU := hU.trans hu6 (by first | exact (fun _ _ h => h) | exact (fun _ _ h => h.elim) | (intro k hl hk; (try simp only [At, New, Grow, From, No] at hk ⊢); omega) | (intro k hl hk; rcases hk with hk | hk | hk; omega; omega; exact hk.elim))
  replace hB1 := hB1.updA hu6
  replace hB2 := hB2.updA hu6
  replace hB3 := hB3.updA hu6
  replace hB4 := hB4.updA hu6
  refine WL.nil ?_
  refine WX.keep [(2, _), (3, _), (5, _), (6, _)] ⟨rfl, rfl, rfl, rfl, trivial⟩ ?_
  refine WX.next ?_
  refine WC.seq ?_
  refine WC.region ?_
  refine WL.cons (SO.alloc rfl rfl rfl rfl (r_alloc rfl zero_73) ?_)
  intro w7 hu7 hB7 hz7
  have hs7 := hu7.size
  replace hU := hU.trans hu7 (by first | exact (fun _ _ h => h) | exact (fun _ _ h => h.elim) | (intro k hl hk; (try simp only [At, New, Grow, From, No] at hk ⊢); omega) | (intro k hl hk; rcases hk with hk | hk | hk; omega; omega; exact hk.elim))
  replace hB1 := hB1.updA hu7
  replace hB2 := hB2.updA hu7
  replace hB3 := hB3.updA hu7
  replace hB4 := hB4.updA hu7
  replace hB5 := hB5.updA hu7
  refine WL.nil ?_
  refine WX.keep [(2, _), (3, _), (5, _), (6, _), (7, _)] ⟨rfl, rfl, rfl, rfl, rfl, trivial⟩ ?_
  refine WX.next ?_
  refine WC.seq ?_
  refine WC.region ?_
  refine WL.val rfl rfl rfl rfl (r_makeFunc (vs := []) (us := [_, _, _, _]) rfl trivial ⟨(ev_t rfl), (ev_t rfl), (ev_t rfl), (ev_t rfl), trivial⟩) ?_
  refine WL.cons (SO.store rfl (ev_t rfl) (ev_t rfl) size_73 hB7 rfl rfl rfl rfl rfl ?_)
  intro w8 hu8 hB7 hz8
  have hs8 := hu8.size
  replace hU := hU.trans hu8 (by first | exact (fun _ _ h => h) | exact (fun _ _ h => h.elim) | (intro k hl hk; (try simp only [At, New, Grow, From, No] at hk ⊢); omega) | (intro k hl hk; rcases hk with hk | hk | hk; omega; omega; exact hk.elim))
  replace hB1 := hB1.updA hu8
  replace hB2 := hB2.updA hu8
  replace hB3 := hB3.updA hu8
  replace hB4 := hB4.updA hu8
  replace hB5 := hB5.updA hu8
  refine WL.nil ?_
  refine WX.keep [(3, _), (5, _), (7, _)] ⟨rfl, rfl, rfl, trivial⟩ ?_
  refine WX.next ?_
  refine WC.seq ?_
  refine WC.region ?_
  refine WL.val rfl rfl rfl rfl (r_load rfl (ev_t rfl) flat_73 (Blk.cell hB7 rfl)) ?_
  refine WL.val rfl rfl rfl rfl (r_loadAgg (vs := [_, _, _]) rfl (ev_t rfl) agg_28 size_28 (Blk.cellsL hB2)) ?_
  refine WL.cons (SO.callV (vs := [_]) rfl (ev_t rfl) body_46 ⟨(ev_t rfl), trivial⟩ rfl (walkF_ok (B := w8.heap.size) n _ (fun _ => False) _ _ _ t ([], []) s' hf hlen ⟨hI.updN hU, hB5, hB1, hB7, fun k hk => (by simp only [Mut] at hk; omega), by omega, by omega, by omega, by omega⟩ ⟨hB4, _, _, hB3, Own.nil _ _ _ _⟩ (fun k h => h.elim) (ht.upd hU (fun _ _ _ h => h))) rfl rfl rfl rfl ?_)
  rintro v w9 ⟨hM, hu9⟩
  obtain ⟨hmp, A, k, hbo, ho⟩ := hM
  have hs9 := hu9.size
  replace hU := hU.trans hu9 (by first | exact (fun _ _ h => h) | exact (fun _ _ h => h.elim) | (intro k hl hk; (try simp only [At, New, Grow, From, No] at hk ⊢); omega) | (intro k hl hk; rcases hk with hk | hk | hk; omega; omega; exact hk.elim))
  refine WL.nil ?_
  refine WX.keep [(5, _)] ⟨rfl, trivial⟩ ?_
  refine WX.next ?_
  refine WC.seq ?_
  refine WC.region ?_
  refine WL.val rfl rfl rfl rfl (r_load rfl (ev_t rfl) flat_33 (Blk.cell hbo rfl)) ?_
  refine WL.val rfl rfl rfl rfl (r_assign rfl (ev_t rfl)) ?_
  refine WL.nil ?_
  refine WX.keep [(4, _)] ⟨rfl, trivial⟩ ?_
  refine WX.next ?_
  refine WC.ret ?_
  refine WX.retE1 rfl rfl ?_
  exact ⟨A, k, rfl, ho.mono fun k hk => by rcases hk with hk | hk; exact hk.elim; exact ⟨by omega, by omega⟩, hU⟩
end Go.Proofs.Ytncakfcafkfmfaa
