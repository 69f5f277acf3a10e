/-
  Several texts put together: Hewd, Hewe, Hewf, Hewg, HeY, Hewh.
-/
import Derived.Test.YtdpnnclkkbfihaaDoorZe
/-
  The reference's heap: come, there, Words of one object.
-/
namespace Go.Proofs.YtdpnnclkkbfihaaDoor
open Go
set_option linter.unusedSimpArgs false
set_option linter.unusedVariables false

def In (a : Nat) : Value := .int .i64 (a : Int)
def plcs (l ord : List Nat) : List Nat := (List.range ord.length).map fun k => tot (szAt l) (ord.take k)
theorem plcs_len (l ord : List Nat) : (plcs l ord).length = ord.length := by simp [plcs]
theorem plcs_get {l ord : List Nat} {k : Nat} (h : k < ord.length) : (plcs l ord)[k]? = some (tot (szAt l) (ord.take k)) := by
  unfold plcs; rw [List.getElem?_map, List.getElem?_range h]; rfl
theorem plcs_snoc (l ord : List Nat) (a : Nat) : plcs l (ord ++ [a]) = plcs l ord ++ [tot (szAt l) ord] := by
  unfold plcs
  rw [List.length_append, List.length_singleton, List.range_succ, List.map_append]
  congr 1
  · apply List.map_congr_left
    intro k hk
    rw [List.take_append_of_le_length (by have := List.mem_range.1 hk; omega)]
  · simp
/-- the reference's order and places -/
structure OS (w : World) (Go Gp : Nat → Prop) (l ord : List Nat) (vO vP : Value) : Prop where
  o : Own w Go 3 1 vO ord.length (ord.map In)
  p : Own w Gp 31 1 vP ord.length ((plcs l ord).map Wd)
  d : ∀ k, Go k → ¬ Gp k ∧ k < w.heap.size
  e : ∀ k, Gp k → k < w.heap.size
theorem OS.upd {w w' : World} {Go Gp S : Nat → Prop} {l ord : List Nat} {vO vP : Value} (h : OS w Go Gp l ord vO vP) (hu : Upd S w w') (hn : ∀ k, (Go k ∨ Gp k) → k < w.heap.size → ¬ S k) : OS w' Go Gp l ord vO vP :=
  ⟨h.o.upd hu (fun k hk hl => hn k (.inl hk) hl), h.p.upd hu (fun k hk hl => hn k (.inr hk) hl), fun k hk => by have := h.d k hk; have := hu.size; exact ⟨(h.d k hk).1, by omega⟩, fun k hk => by have := h.e k hk; have := hu.size; omega⟩
set_option maxHeartbeats 2000000 in
theorem come_ok {w : World} {F Go Gp : Nat → Prop} {v vO vP : Value} {l st ord : List Nat} {a : Nat} (hr : Rd w F v l.length 1 (l.map Wd)) (hF : ∀ k, F k → k < w.heap.size ∧ ¬ Go k ∧ ¬ Gp k) (hg : GoodH l st) (hl : l.length ≤ 1000) (hO : OS w Go Gp l ord vO vP) (ha : a ∈ st) (hol : ord.length ≤ 2000) (hts : tot (szAt l) ord ≤ 1000000) :
    Ret Tryd.prog 48 #[v, vO, vP, .int .u64 ((tot (szAt l) ord : Nat) : Int), .int .i64 (a : Int)] w fun v' w' => ∃ Go' Gp' vO' vP', v' = .tuple #[vO', vP', .int .u64 ((tot (szAt l) (come ord (2 * a)) : Nat) : Int)] ∧ OS w' Go' Gp' l (come ord (2 * a)) vO' vP' ∧ (∀ k, Go' k → Go k ∨ w.heap.size ≤ k) ∧ (∀ k, Gp' k → Gp k ∨ w.heap.size ≤ k) ∧ Upd (fun k => Go k ∨ Gp k) w w' := by
  have hw := hg.vd.w64
  obtain ⟨hal, hafit⟩ := hg.vd.in ha
  have hval : validAt l a := ⟨hal, (hg.kd a ha).1, (hg.kd a ha).2, hg.n8 ha, hafit⟩
  obtain ⟨A, c, rfl, hc⟩ := hr.slice_form
  obtain ⟨ho, hp, hd, he⟩ := hO
  obtain ⟨AO, cO, rfl, hcO⟩ := ho.form
  obtain ⟨AP, cP, rfl, hcP⟩ := hp.form
  have hoR := ho.rd (by omega)
  have e2 : 2 * a / 2 = a := Nat.mul_div_cancel_left _ (by decide)
  refine enterRet (vs := [_, _, _, _, _]) (N := 49) Tryd.func48 rfl rfl rfl ?_
  have hU := Upd.refl (fun k => Go k ∨ Gp k) w
  refine WC.keep [(0, _), (1, _), (2, _), (3, _), (4, _)] ⟨rfl, rfl, rfl, rfl, rfl, trivial⟩ ?_
  refine WC.seq ?_
  refine WC.region ?_
  refine WL.val rfl rfl rfl rfl (r_assign rfl ev_c) ?_
  refine WL.val rfl rfl rfl rfl (r_assign rfl ev_c) ?_
  refine WL.val rfl rfl rfl rfl (r_assign rfl ev_c) ?_
  refine WL.nil ?_
  refine WX.keep [(0, _), (1, _), (2, _), (3, _), (4, _)] ⟨rfl, rfl, rfl, rfl, rfl, trivial⟩ ?_
  refine WX.next ?_
  refine WC.seq ?_
  refine WC.seq ?_
  refine WC.region ?_
  refine WL.val rfl rfl rfl rfl (r_assign rfl ev_c) ?_
  refine WL.nil ?_
  refine WX.keep [(0, _), (1, _), (2, _), (3, _), (4, _), (13, _)] ⟨rfl, rfl, rfl, rfl, rfl, rfl, trivial⟩ ?_
  refine WX.next ?_
  refine WC.block ?_
  -- loop 1: live [0, 1, 2, 3, 4, 13]
  refine WC.keep [(0, _), (1, _), (2, _), (3, _), (4, _), (13, _)] ⟨rfl, rfl, rfl, rfl, rfl, rfl, trivial⟩ ?_
  refine WC.loop (fun qq E wC => ∃ (j : Nat), j ≤ ord.length ∧ qq = ord.length - j ∧ (∀ i b, i < j → ord[i]? = some b → b ≠ a) ∧ w = wC ∧ E = [(0, .slice A l.length c), (1, .slice AO ord.length cO), (2, .slice AP ord.length cP), (3, .int .u64 ((tot (szAt l) ord : Nat) : Int)), (4, .int .i64 (a : Int)), (13, .int .i64 (j : Int))]) (ord.length) ?_ ?_
  · exact ⟨0, by omega, by omega, fun i b h => absurd h (by omega), rfl, rfl⟩
  · rintro qq E wC ⟨j, hj, rfl, hne, rfl, rfl⟩
    refine WC.seq ?_
    refine WC.seq ?_
    refine WC.region ?_
    refine WL.val rfl rfl rfl rfl (r_move rfl (ev_t rfl)) ?_
    refine WL.val rfl rfl rfl rfl (r_move rfl (ev_t rfl)) ?_
    refine WL.val rfl rfl rfl rfl (r_lenSlice (ts := #[]) rfl (ev_t rfl) elem_94) ?_
    refine WL.val rfl rfl rfl rfl (r_lss rfl (ev_t rfl) (ev_t rfl)) ?_
    refine WL.nil ?_
    refine WX.keep [(0, _), (1, _), (2, _), (3, _), (4, _), (13, _), (19, _)] ⟨rfl, rfl, rfl, rfl, rfl, rfl, rfl, trivial⟩ ?_
    refine WX.next ?_
    refine WC.cond rfl (ev_t rfl) (fun hc2 => ?_) (fun hc2 => ?_)
    · try (exfalso; first | (simp at hc2; done) | (simp only [decide_eq_true_eq, decide_eq_false_iff_not, Bool.not_eq_true', Bool.not_eq_false', Bool.not_eq_true, Bool.not_eq_false] at hc2; omega) | omega)
      all_goals
       try simp only [decide_eq_true_eq, decide_eq_false_iff_not, Bool.not_eq_true', Bool.not_eq_false', Bool.not_eq_true, Bool.not_eq_false, Option.isNone_none, Option.isNone_some, Option.isSome_none, Option.isSome_some, ne_eq, Decidable.not_not] at hc2
       have hjl : j < ord.length := by omega
       obtain ⟨b0, off, rfl, _⟩ := hoR.open (by omega)
       obtain ⟨b, hb⟩ : ∃ b, ord[j]? = some b := ⟨_, List.getElem?_eq_getElem hjl⟩
       refine WC.skip ?_
       refine WX.next ?_
       refine WC.seq ?_
       refine WC.block ?_
       refine WC.seq ?_
       refine WC.region ?_
       refine WL.val rfl rfl rfl rfl (r_move rfl (ev_t rfl)) ?_
       refine WL.val rfl rfl rfl rfl (r_move rfl (ev_t rfl)) ?_
       refine WL.val rfl rfl rfl rfl (r_indexAddr rfl (ev_t rfl) (ev_t rfl) elem_94 size_3 (by omega) (by omega)) ?_
       refine WL.val rfl rfl rfl rfl (r_load rfl (ev_t rfl) flat_3 (hoR.cell (j := j) (u := In b) (show off + (j : Int).toNat * 1 = off + j by omega) (by rw [List.getElem?_map, hb]; rfl))) ?_
       refine WL.val rfl rfl rfl rfl (r_move rfl (ev_t rfl)) ?_
       refine WL.val rfl rfl rfl rfl (r_eql rfl (ev_t rfl) (ev_t rfl)) ?_
       refine WL.nil ?_
       refine WX.keep [(0, _), (1, _), (2, _), (3, _), (4, _), (13, _), (27, _)] ⟨rfl, rfl, rfl, rfl, rfl, rfl, rfl, trivial⟩ ?_
       refine WX.next ?_
       refine WC.cond rfl (ev_t rfl) (fun hc4 => ?_) (fun hc4 => ?_)
       · try (exfalso; first | (simp at hc4; done) | (simp only [decide_eq_true_eq, decide_eq_false_iff_not, Bool.not_eq_true', Bool.not_eq_false', Bool.not_eq_true, Bool.not_eq_false] at hc4; omega) | omega)
         all_goals
          try simp only [decide_eq_true_eq, decide_eq_false_iff_not, Bool.not_eq_true', Bool.not_eq_false', Bool.not_eq_true, Bool.not_eq_false, Option.isNone_none, Option.isNone_some, Option.isSome_none, Option.isSome_some, ne_eq, Decidable.not_not] at hc4
          refine WC.seq ?_
          refine WC.region ?_
          refine WL.val rfl rfl rfl rfl (r_move rfl (ev_t rfl)) ?_
          refine WL.val rfl rfl rfl rfl (r_move rfl (ev_t rfl)) ?_
          refine WL.val rfl rfl rfl rfl (r_move rfl (ev_t rfl)) ?_
          refine WL.val rfl rfl rfl rfl (r_assign rfl (ev_t rfl)) ?_
          refine WL.val rfl rfl rfl rfl (r_assign rfl (ev_t rfl)) ?_
          refine WL.val rfl rfl rfl rfl (r_assign rfl (ev_t rfl)) ?_
          refine WL.nil ?_
          refine WX.keep [(10, _), (11, _), (12, _)] ⟨rfl, rfl, rfl, trivial⟩ ?_
          refine WX.next ?_
          refine WC.ret ?_
          refine WX.blockRet ?_
          refine WX.thenRet ?_
          refine WX.thenRet ?_
          refine WX.blockRet ?_
          refine WX.thenRet ?_
          refine WX.retE (l := [.tmp 10, .tmp 11, .tmp 12]) (vs := [_, _, _]) rfl ⟨rfl, rfl, rfl, trivial⟩ ?_
          have hba : b = a := by omega
          subst hba
          have e1 : come ord (2 * b) = ord := by unfold come; rw [e2, if_pos (.inr (List.mem_of_getElem? hb))]
          rw [e1]
          exact ⟨Go, Gp, _, _, rfl, ⟨ho, hp, hd, he⟩, fun k hk => .inl hk, fun k hk => .inl hk, hU⟩
       · try (exfalso; first | (simp at hc4; done) | (simp only [decide_eq_true_eq, decide_eq_false_iff_not, Bool.not_eq_true', Bool.not_eq_false', Bool.not_eq_true, Bool.not_eq_false] at hc4; omega) | omega)
         all_goals
          try simp only [decide_eq_true_eq, decide_eq_false_iff_not, Bool.not_eq_true', Bool.not_eq_false', Bool.not_eq_true, Bool.not_eq_false, Option.isNone_none, Option.isNone_some, Option.isSome_none, Option.isSome_some, ne_eq, Decidable.not_not] at hc4
          refine WC.skip ?_
          refine WX.blockNormal ?_
          refine WX.next ?_
          refine WC.region ?_
          refine WL.val rfl rfl rfl rfl (r_move rfl (ev_t rfl)) ?_
          refine WL.val rfl rfl rfl rfl (r_addN rfl (ev_t rfl) ev_c (by simp only [inK]; omega)) ?_
          refine WL.val rfl rfl rfl rfl (r_assign rfl (ev_t rfl)) ?_
          refine WL.nil ?_
          refine WX.keep [(0, _), (1, _), (2, _), (3, _), (4, _), (13, _)] ⟨rfl, rfl, rfl, rfl, rfl, rfl, trivial⟩ ?_
          refine WX.meet [(0, _), (1, _), (2, _), (3, _), (4, _), (13, _)] ⟨rfl, rfl, rfl, rfl, rfl, rfl, trivial⟩ ?_
          refine ⟨ord.length - (j + 1), by omega, j + 1, by omega, rfl, ?_, rfl, rfl⟩
          intro i b2 hi hb2
          rcases Nat.lt_or_ge i j with h | h
          · exact hne i b2 h hb2
          · obtain rfl : i = j := by omega
            rw [hb] at hb2
            injection hb2 with hb2
            omega
    · try (exfalso; first | (simp at hc2; done) | (simp only [decide_eq_true_eq, decide_eq_false_iff_not, Bool.not_eq_true', Bool.not_eq_false', Bool.not_eq_true, Bool.not_eq_false] at hc2; omega) | omega)
      all_goals
       try simp only [decide_eq_true_eq, decide_eq_false_iff_not, Bool.not_eq_true', Bool.not_eq_false', Bool.not_eq_true, Bool.not_eq_false, Option.isNone_none, Option.isNone_some, Option.isSome_none, Option.isSome_some, ne_eq, Decidable.not_not] at hc2
       refine WC.exit ?_
       refine WX.thenExit ?_
       refine WX.thenExit ?_
       refine WX.blockHere ?_
       refine WX.next ?_
       refine WC.seq ?_
       have hna : a ∉ ord := fun h => by
         obtain ⟨i, hi, hia⟩ := List.mem_iff_getElem.1 h
         exact hne i _ (by omega) (List.getElem?_eq_getElem hi) hia
       have e1 : come ord (2 * a) = ord ++ [a] := by unfold come; rw [e2, if_neg (by intro h; rcases h with h | h; omega; exact hna h)]
       refine WC.region ?_
       refine WL.val rfl rfl rfl rfl (r_move rfl (ev_t rfl)) ?_
       refine WL.val rfl rfl rfl rfl (r_move rfl (ev_t rfl)) ?_
       refine WL.cons (SO.call (at9_ok hr (by omega) (by omega) (fun k hk => (hF k hk).1) hw) rfl body_28 ⟨(ev_t rfl), (ev_t rfl), trivial⟩ rfl rfl rfl rfl ?_)
       rintro v w1 ⟨kd, n9, vP9, ps9, s9, rfl, hP9, hu1, hres⟩
       obtain ⟨AP9, cP9, rfl, _⟩ := hP9.form
       have hs1 := hu1.size
       replace hU := hU.trans hu1 (by exact (fun _ _ h => h.elim))
       replace hr := hr.upd hu1 (fun k hk hl hS => by have h1 := hF k hk; exact (show False from hS).elim)
       replace ho := ho.upd hu1 (fun k hk hl hS => by exact (show False from hS).elim)
       replace hp := hp.upd hu1 (fun k hk hl hS => by exact (show False from hS).elim)
       have hv9 : n9 = szAt l a := by
         rcases hres with ⟨h, _⟩ | ⟨h1, h2, _⟩
         · exact absurd hval h
         · exact h2
       subst hv9
       refine WL.val rfl rfl rfl rfl (r_move rfl (ev_t rfl)) ?_
       refine WL.val rfl rfl rfl rfl (r_extract rfl (ev_t rfl) rfl) ?_
       refine WL.val rfl rfl rfl rfl (r_extract rfl (ev_t rfl) rfl) ?_
       refine WL.cons (SO.alloc rfl rfl rfl rfl (r_alloc rfl zero_56) ?_)
       intro w2 hu2 hB2 hz2
       have hs2 := hu2.size
       replace hU := hU.trans hu2 (by exact (fun _ _ h => h.elim))
       replace hr := hr.upd hu2 (fun k hk hl hS => by have h1 := hF k hk; exact (show False from hS).elim)
       replace ho := ho.upd hu2 (fun k hk hl hS => by exact (show False from hS).elim)
       replace hp := hp.upd hu2 (fun k hk hl hS => by exact (show False from hS).elim)
       refine WL.cons (SO.storeAll (us := [_, _, _]) rfl (ev_t rfl) (ev_t rfl) size_56 hB2 rfl rfl rfl rfl rfl ?_)
       intro w3 hu3 hB2 hz3
       have hs3 := hu3.size
       replace hU := hU.trans hu3 (by (intro k hl hk; (try simp only [At, New, Grow, From, No] at hk ⊢); omega))
       replace hr := hr.upd hu3 (fun k hk hl hS => by have h1 := hF k hk; (simp only [At] at hS; omega))
       replace ho := ho.upd hu3 (fun k hk hl hS => by (simp only [At] at hS; have := (hd k hk).2; omega))
       replace hp := hp.upd hu3 (fun k hk hl hS => by (simp only [At] at hS; have := he k hk; omega))
       refine WL.val rfl rfl rfl rfl (r_assign rfl (ev_t rfl)) ?_
       refine WL.nil ?_
       refine WX.keep [(1, _), (2, _), (3, _), (4, _), (15, _)] ⟨rfl, rfl, rfl, rfl, rfl, trivial⟩ ?_
       refine WX.next ?_
       refine WC.seq ?_
       refine WC.region ?_
       refine WL.val rfl rfl rfl rfl (r_move rfl (ev_t rfl)) ?_
       refine WL.val rfl rfl rfl rfl (r_move rfl (ev_t rfl)) ?_
       refine WL.cons (SO.alloc rfl rfl rfl rfl (r_buildSlice1 (vs := [_]) rfl ⟨(ev_t rfl), trivial⟩ rfl row_94 rfl rfl) ?_)
       intro w4 hu4 hB4 hz4
       have hs4 := hu4.size
       replace hU := hU.trans hu4 (by exact (fun _ _ h => h.elim))
       replace hr := hr.upd hu4 (fun k hk hl hS => by have h1 := hF k hk; exact (show False from hS).elim)
       replace ho := ho.upd hu4 (fun k hk hl hS => by exact (show False from hS).elim)
       replace hp := hp.upd hu4 (fun k hk hl hS => by exact (show False from hS).elim)
       refine WL.cons (SO.append ho (show Rd _ _ _ 1 1 [In a] from Rd.of_blk (F := At _) (n := 1) (sz := 1) hB4 rfl rfl (by omega)) row_94 (fun u hu => by simp at hu; subst hu; rfl) (le_maxLen (by omega)) (by omega) rfl (ev_t rfl) (ev_t rfl) rfl rfl rfl rfl ?_)
       intro v5 w5 ho hu5
       have hs5 := hu5.size
       replace hU := hU.trans hu5 (by (intro k hl hk; first | exact (show False from hk).elim | (simp only [At] at hk; omega) | exact .inl hk | exact .inr hk))
       replace hr := hr.upd hu5 (fun k hk hl hS => by have h1 := hF k hk; exact h1.2.1 hS)
       replace hp := hp.upd hu5 (fun k hk hl hS => by exact (hd k hS).1 hk)
       obtain ⟨A5, c5, rfl, hc5⟩ := Own.form ho
       refine WL.val rfl rfl rfl rfl (r_move rfl (ev_t rfl)) ?_
       refine WL.val rfl rfl rfl rfl (r_move rfl (ev_t rfl)) ?_
       refine WL.cons (SO.alloc rfl rfl rfl rfl (r_buildSlice1 (vs := [_]) rfl ⟨(ev_t rfl), trivial⟩ rfl row_46 rfl rfl) ?_)
       intro w6 hu6 hB6 hz6
       have hs6 := hu6.size
       replace hU := hU.trans hu6 (by exact (fun _ _ h => h.elim))
       replace hr := hr.upd hu6 (fun k hk hl hS => by have h1 := hF k hk; exact (show False from hS).elim)
       replace ho := ho.upd hu6 (fun k hk hl hS => by exact (show False from hS).elim)
       replace hp := hp.upd hu6 (fun k hk hl hS => by exact (show False from hS).elim)
       refine WL.cons (SO.append hp (show Rd _ _ _ 1 1 [Wd (tot (szAt l) ord)] from Rd.of_blk (F := At _) (n := 1) (sz := 1) hB6 rfl rfl (by omega)) row_46 (fun u hu => by simp at hu; subst hu; rfl) (le_maxLen (by omega)) (by omega) rfl (ev_t rfl) (ev_t rfl) rfl rfl rfl rfl ?_)
       intro v7 w7 hp hu7
       have hs7 := hu7.size
       replace hU := hU.trans hu7 (by (intro k hl hk; first | exact (show False from hk).elim | (simp only [At] at hk; omega) | exact .inl hk | exact .inr hk))
       replace hr := hr.upd hu7 (fun k hk hl hS => by have h1 := hF k hk; exact h1.2.2 hS)
       replace ho := ho.upd hu7 (fun k hk hl hS => by (rcases hk with hk | hk; exact (hd k hk).1 hS; have := he k hS; omega))
       obtain ⟨A7, c7, rfl, hc7⟩ := Own.form hp
       refine WL.val rfl rfl rfl rfl (r_move rfl (ev_t rfl)) ?_
       refine WL.val rfl rfl rfl rfl (r_move rfl (ev_t rfl)) ?_
       refine WL.val rfl rfl rfl rfl (r_convN rfl (ev_t rfl) some_3 int_31 (by simp only [inK]; omega)) ?_
       refine WL.val rfl rfl rfl rfl (r_addN rfl (ev_t rfl) (ev_t rfl) (by simp only [inK]; omega)) ?_
       refine WL.val rfl rfl rfl rfl (r_assign rfl (ev_t rfl)) ?_
       refine WL.val rfl rfl rfl rfl (r_assign rfl (ev_t rfl)) ?_
       refine WL.val rfl rfl rfl rfl (r_assign rfl (ev_t rfl)) ?_
       refine WL.nil ?_
       refine WX.keep [(10, _), (11, _), (12, _)] ⟨rfl, rfl, rfl, trivial⟩ ?_
       refine WX.next ?_
       refine WC.ret ?_
       refine WX.retE (l := [.tmp 10, .tmp 11, .tmp 12]) (vs := [_, _, _]) rfl ⟨rfl, rfl, rfl, trivial⟩ ?_
       have el : ord.length + 1 = (ord ++ [a]).length := by simp
       have eo : ord.map In ++ [In a] = (ord ++ [a]).map In := by simp
       have ep : (plcs l ord).map Wd ++ [Wd (tot (szAt l) ord)] = (plcs l (ord ++ [a])).map Wd := by rw [plcs_snoc, List.map_append]; rfl
       rw [eo, el] at ho
       rw [ep, el] at hp
       have et : ((tot (szAt l) ord : Nat) : Int) + ((szAt l a : Nat) : Int) = ((tot (szAt l) (ord ++ [a]) : Nat) : Int) := by rw [tot_app, tot_cons, tot_nil]; omega
       rw [e1, el, et]
       refine ⟨_, _, _, _, rfl, ⟨ho.bound, hp.bound, ?_, fun k hk => hk.2⟩, ?_, ?_, hU⟩
       · rintro k ⟨h1, h2⟩
         refine ⟨fun h3 => ?_, h2⟩
         obtain ⟨h3, h4⟩ := h3
         rcases h1 with h1 | h1
         · have h5 := hd k h1
           rcases h3 with h3 | h3
           · exact h5.1 h3
           · omega
         · rcases h3 with h3 | h3
           · have h5 := he k h3; omega
           · omega
       · rintro k ⟨h1, h2⟩
         rcases h1 with h1 | h1
         · exact .inl h1
         · exact .inr (by omega)
       · rintro k ⟨h1, h2⟩
         rcases h1 with h1 | h1
         · exact .inl h1
         · exact .inr (by omega)
/-- a place in the order -/
theorem plc_at {l ord : List Nat} {k a : Nat} (hn : ord.Nodup) (h : ord[k]? = some a) : plc (szAt l) ord a = tot (szAt l) (ord.take k) := plc_take hn h
theorem there9_ok {w : World} {Go Gp : Nat → Prop} {vO vP : Value} {l ord : List Nat} {x : Nat} (hO : OS w Go Gp l ord vO vP) (hn : ord.Nodup) (hx : x < 18446744073709551616) (hol : ord.length ≤ 2000) (hob : ∀ b ∈ ord, b ≤ 1000000) (hts : tot (szAt l) ord ≤ 1000000) :
    Ret Tryd.prog 49 #[vO, vP, .int .u64 (x : Int)] w fun v' w' => v' = Wd (there l ord x) ∧ Upd No w w' := by
  obtain ⟨AO, cO, rfl, hcO⟩ := hO.o.form
  obtain ⟨AP, cP, rfl, hcP⟩ := hO.p.form
  have hoR := hO.o.rd (by omega)
  have hpR := hO.p.rd (by omega)
  refine enterRet (vs := [_, _, _]) (N := 33) Tryd.func49 rfl rfl rfl ?_
  have hU := Upd.refl No w
  refine WC.keep [(0, _), (1, _), (2, _)] ⟨rfl, rfl, rfl, trivial⟩ ?_
  refine WC.seq ?_
  refine WC.region ?_
  refine WL.val rfl rfl rfl rfl (r_assign rfl ev_c) ?_
  refine WL.nil ?_
  refine WX.keep [(0, _), (1, _), (2, _)] ⟨rfl, rfl, rfl, trivial⟩ ?_
  refine WX.next ?_
  refine WC.seq ?_
  refine WC.seq ?_
  refine WC.region ?_
  refine WL.val rfl rfl rfl rfl (r_assign rfl ev_c) ?_
  refine WL.nil ?_
  refine WX.keep [(0, _), (1, _), (2, _), (7, _)] ⟨rfl, rfl, rfl, rfl, trivial⟩ ?_
  refine WX.next ?_
  refine WC.block ?_
  -- loop 1: live [0, 1, 2, 7]
  refine WC.keep [(0, _), (1, _), (2, _), (7, _)] ⟨rfl, rfl, rfl, rfl, trivial⟩ ?_
  refine WC.loop (fun qq E wC => ∃ (j : Nat), j ≤ ord.length ∧ qq = ord.length - j ∧ (∀ i b, i < j → ord[i]? = some b → ¬ (x % 2 = 0 ∧ b = x / 2)) ∧ w = wC ∧ E = [(0, .slice AO ord.length cO), (1, .slice AP ord.length cP), (2, .int .u64 (x : Int)), (7, .int .i64 (j : Int))]) (ord.length) ?_ ?_
  · exact ⟨0, by omega, by omega, fun i b h => absurd h (by omega), rfl, rfl⟩
  · rintro qq E wC ⟨j, hj, rfl, hne, rfl, rfl⟩
    refine WC.seq ?_
    refine WC.seq ?_
    refine WC.region ?_
    refine WL.val rfl rfl rfl rfl (r_move rfl (ev_t rfl)) ?_
    refine WL.val rfl rfl rfl rfl (r_move rfl (ev_t rfl)) ?_
    refine WL.val rfl rfl rfl rfl (r_lenSlice (ts := #[]) rfl (ev_t rfl) elem_94) ?_
    refine WL.val rfl rfl rfl rfl (r_lss rfl (ev_t rfl) (ev_t rfl)) ?_
    refine WL.nil ?_
    refine WX.keep [(0, _), (1, _), (2, _), (7, _), (11, _)] ⟨rfl, rfl, rfl, rfl, rfl, trivial⟩ ?_
    refine WX.next ?_
    refine WC.cond rfl (ev_t rfl) (fun hc2 => ?_) (fun hc2 => ?_)
    · try (exfalso; first | (simp at hc2; done) | (simp only [decide_eq_true_eq, decide_eq_false_iff_not, Bool.not_eq_true', Bool.not_eq_false', Bool.not_eq_true, Bool.not_eq_false] at hc2; omega) | omega)
      all_goals
       try simp only [decide_eq_true_eq, decide_eq_false_iff_not, Bool.not_eq_true', Bool.not_eq_false', Bool.not_eq_true, Bool.not_eq_false, Option.isNone_none, Option.isNone_some, Option.isSome_none, Option.isSome_some, ne_eq, Decidable.not_not] at hc2
       have hjl : j < ord.length := by omega
       obtain ⟨b0, off, rfl, _⟩ := hoR.open (by omega)
       obtain ⟨b1, off1, rfl, _⟩ := hpR.open (by omega)
       obtain ⟨b, hb⟩ : ∃ b, ord[j]? = some b := ⟨_, List.getElem?_eq_getElem hjl⟩
       have hbb := hob b (List.mem_of_getElem? hb)
       have htk : tot (szAt l) (ord.take j) ≤ 1000000 := by
         have h1 := plc_take (sz := szAt l) hn hb
         have h2 := plc_lt (sz := szAt l) (List.mem_of_getElem? hb)
         omega
       refine WC.skip ?_
       refine WX.next ?_
       refine WC.seq ?_
       refine WC.block ?_
       refine WC.seq ?_
       refine WC.region ?_
       refine WL.val rfl rfl rfl rfl (r_move rfl (ev_t rfl)) ?_
       refine WL.val rfl rfl rfl rfl (r_remN rfl (ev_t rfl) ev_c (by omega) (by omega)) ?_
       refine WL.val rfl rfl rfl rfl (r_eql rfl (ev_t rfl) ev_c) ?_
       refine WL.val rfl rfl rfl rfl (r_move rfl (ev_t rfl)) ?_
       refine WL.cases 17 rfl (fun hb4_3 => ?_) (fun hb4_3 => ?_)
       · try (exfalso; first | (simp at hb4_3; done) | (simp only [decide_eq_true_eq, decide_eq_false_iff_not, Bool.not_eq_true', Bool.not_eq_false', Bool.not_eq_true, Bool.not_eq_false] at hb4_3; omega) | omega)
         all_goals
          try simp only [decide_eq_true_eq, decide_eq_false_iff_not, Bool.not_eq_true', Bool.not_eq_false', Bool.not_eq_true, Bool.not_eq_false, Option.isNone_none, Option.isNone_some, Option.isSome_none, Option.isSome_some, ne_eq, Decidable.not_not] at hb4_3
          refine WL.val rfl rfl rfl rfl (r_move rfl (ev_t rfl)) ?_
          refine WL.val rfl rfl rfl rfl (r_move rfl (ev_t rfl)) ?_
          refine WL.val rfl rfl rfl rfl (r_indexAddr rfl (ev_t rfl) (ev_t rfl) elem_94 size_3 (by omega) (by omega)) ?_
          refine WL.val rfl rfl rfl rfl (r_load rfl (ev_t rfl) flat_3 (hoR.cell (j := j) (u := In b) (show off + (j : Int).toNat * 1 = off + j by omega) (by rw [List.getElem?_map, hb]; rfl))) ?_
          refine WL.val rfl rfl rfl rfl (r_convN rfl (ev_t rfl) some_3 int_31 (by simp only [inK]; omega)) ?_
          refine WL.val rfl rfl rfl rfl (r_move rfl (ev_t rfl)) ?_
          refine WL.val rfl rfl rfl rfl (r_quoN rfl (ev_t rfl) ev_c (by omega) (by omega) (by simp only [inK]; omega)) ?_
          try rw [tdiv_two hx]
          refine WL.val rfl rfl rfl rfl (r_eql rfl (ev_t rfl) (ev_t rfl)) ?_
          refine WL.val rfl rfl rfl rfl (r_pickT rfl (ev_t rfl) (ev_t rfl)) ?_
          refine WL.nil ?_
          refine WX.keep [(0, _), (1, _), (2, _), (7, _), (26, _)] ⟨rfl, rfl, rfl, rfl, rfl, trivial⟩ ?_
          refine WX.next ?_
          refine WC.cond rfl (ev_t rfl) (fun hc4 => ?_) (fun hc4 => ?_)
          · try (exfalso; first | (simp at hc4; done) | (simp only [decide_eq_true_eq, decide_eq_false_iff_not, Bool.not_eq_true', Bool.not_eq_false', Bool.not_eq_true, Bool.not_eq_false] at hc4; omega) | omega)
            all_goals
             try simp only [decide_eq_true_eq, decide_eq_false_iff_not, Bool.not_eq_true', Bool.not_eq_false', Bool.not_eq_true, Bool.not_eq_false, Option.isNone_none, Option.isNone_some, Option.isSome_none, Option.isSome_some, ne_eq, Decidable.not_not] at hc4
             have hxb : x % 2 = 0 ∧ b = x / 2 := by first
               | omega
               | (simp_all; omega)
             refine WC.seq ?_
             refine WC.region ?_
             refine WL.val rfl rfl rfl rfl (r_move rfl (ev_t rfl)) ?_
             refine WL.val rfl rfl rfl rfl (r_move rfl (ev_t rfl)) ?_
             refine WL.val rfl rfl rfl rfl (r_indexAddr rfl (ev_t rfl) (ev_t rfl) elem_46 size_31 (by omega) (by omega)) ?_
             refine WL.val rfl rfl rfl rfl (r_load rfl (ev_t rfl) flat_31 (hpR.cell (j := j) (u := Wd (tot (szAt l) (ord.take j))) (show off1 + (j : Int).toNat * 1 = off1 + j by omega) (by rw [List.getElem?_map, plcs_get hjl]; rfl))) ?_
             refine WL.val rfl rfl rfl rfl (r_mulN rfl (ev_t rfl) ev_c (by simp only [inK]; omega)) ?_
             refine WL.val rfl rfl rfl rfl (r_assign rfl (ev_t rfl)) ?_
             refine WL.nil ?_
             refine WX.keep [(6, _)] ⟨rfl, trivial⟩ ?_
             refine WX.next ?_
             refine WC.ret ?_
             refine WX.blockRet ?_
             refine WX.thenRet ?_
             refine WX.thenRet ?_
             refine WX.blockRet ?_
             refine WX.thenRet ?_
             refine WX.retE1 rfl rfl ?_
             refine ⟨?_, hU⟩
             have e1 : there l ord x = 2 * tot (szAt l) (ord.take j) := by
               unfold there
               rw [if_pos ⟨hxb.1, hxb.2 ▸ List.mem_of_getElem? hb⟩, ← hxb.2, plc_take hn hb]
             rw [e1]
             simp only [Wd]
             congr 1
             omega
          · try (exfalso; first | (simp at hc4; done) | (simp only [decide_eq_true_eq, decide_eq_false_iff_not, Bool.not_eq_true', Bool.not_eq_false', Bool.not_eq_true, Bool.not_eq_false] at hc4; omega) | omega)
            all_goals
             try simp only [decide_eq_true_eq, decide_eq_false_iff_not, Bool.not_eq_true', Bool.not_eq_false', Bool.not_eq_true, Bool.not_eq_false, Option.isNone_none, Option.isNone_some, Option.isSome_none, Option.isSome_some, ne_eq, Decidable.not_not] at hc4
             have hxb : ¬ (x % 2 = 0 ∧ b = x / 2) := by first
               | omega
               | (simp_all; omega)
             refine WC.skip ?_
             refine WX.blockNormal ?_
             refine WX.next ?_
             refine WC.region ?_
             refine WL.val rfl rfl rfl rfl (r_move rfl (ev_t rfl)) ?_
             refine WL.val rfl rfl rfl rfl (r_addN rfl (ev_t rfl) ev_c (by simp only [inK]; omega)) ?_
             refine WL.val rfl rfl rfl rfl (r_assign rfl (ev_t rfl)) ?_
             refine WL.nil ?_
             refine WX.keep [(0, _), (1, _), (2, _), (7, _)] ⟨rfl, rfl, rfl, rfl, trivial⟩ ?_
             refine WX.meet [(0, _), (1, _), (2, _), (7, _)] ⟨rfl, rfl, rfl, rfl, trivial⟩ ?_
             refine ⟨ord.length - (j + 1), by omega, j + 1, by omega, rfl, ?_, rfl, rfl⟩
             intro i b2 hi hb2
             rcases Nat.lt_or_ge i j with h | h
             · exact hne i b2 h hb2
             · obtain rfl : i = j := by omega
               rw [hb] at hb2
               injection hb2 with hb2
               rw [← hb2]
               first
               | exact hxb
       · try (exfalso; first | (simp at hb4_3; done) | (simp only [decide_eq_true_eq, decide_eq_false_iff_not, Bool.not_eq_true', Bool.not_eq_false', Bool.not_eq_true, Bool.not_eq_false] at hb4_3; omega) | omega)
         all_goals
          try simp only [decide_eq_true_eq, decide_eq_false_iff_not, Bool.not_eq_true', Bool.not_eq_false', Bool.not_eq_true, Bool.not_eq_false, Option.isNone_none, Option.isNone_some, Option.isSome_none, Option.isSome_some, ne_eq, Decidable.not_not] at hb4_3
          refine WL.skip rfl rfl rfl ?_
          refine WL.skip rfl rfl rfl ?_
          refine WL.skip rfl rfl rfl ?_
          refine WL.skip rfl rfl rfl ?_
          refine WL.skip rfl rfl rfl ?_
          refine WL.skip rfl rfl rfl ?_
          refine WL.skip rfl rfl rfl ?_
          refine WL.skip rfl rfl rfl ?_
          refine WL.val rfl rfl rfl rfl (r_pickF rfl (ev_t rfl) ev_c) ?_
          refine WL.nil ?_
          refine WX.keep [(0, _), (1, _), (2, _), (7, _), (26, _)] ⟨rfl, rfl, rfl, rfl, rfl, trivial⟩ ?_
          refine WX.next ?_
          refine WC.cond_false rfl (ev_t rfl) ?_
          refine WC.skip ?_
          refine WX.blockNormal ?_
          refine WX.next ?_
          refine WC.region ?_
          refine WL.val rfl rfl rfl rfl (r_move rfl (ev_t rfl)) ?_
          refine WL.val rfl rfl rfl rfl (r_addN rfl (ev_t rfl) ev_c (by simp only [inK]; omega)) ?_
          refine WL.val rfl rfl rfl rfl (r_assign rfl (ev_t rfl)) ?_
          refine WL.nil ?_
          refine WX.keep [(0, _), (1, _), (2, _), (7, _)] ⟨rfl, rfl, rfl, rfl, trivial⟩ ?_
          refine WX.meet [(0, _), (1, _), (2, _), (7, _)] ⟨rfl, rfl, rfl, rfl, trivial⟩ ?_
          refine ⟨ord.length - (j + 1), by omega, j + 1, by omega, rfl, ?_, rfl, rfl⟩
          intro i b2 hi hb2
          rcases Nat.lt_or_ge i j with h | h
          · exact hne i b2 h hb2
          · obtain rfl : i = j := by omega
            rw [hb] at hb2
            injection hb2 with hb2
            rw [← hb2]
            first
            | omega
    · try (exfalso; first | (simp at hc2; done) | (simp only [decide_eq_true_eq, decide_eq_false_iff_not, Bool.not_eq_true', Bool.not_eq_false', Bool.not_eq_true, Bool.not_eq_false] at hc2; omega) | omega)
      all_goals
       try simp only [decide_eq_true_eq, decide_eq_false_iff_not, Bool.not_eq_true', Bool.not_eq_false', Bool.not_eq_true, Bool.not_eq_false, Option.isNone_none, Option.isNone_some, Option.isSome_none, Option.isSome_some, ne_eq, Decidable.not_not] at hc2
       refine WC.exit ?_
       refine WX.thenExit ?_
       refine WX.thenExit ?_
       refine WX.blockHere ?_
       refine WX.next ?_
       refine WC.seq ?_
       refine WC.region ?_
       refine WL.val rfl rfl rfl rfl (r_move rfl (ev_t rfl)) ?_
       refine WL.val rfl rfl rfl rfl (r_assign rfl (ev_t rfl)) ?_
       refine WL.nil ?_
       refine WX.keep [(6, _)] ⟨rfl, trivial⟩ ?_
       refine WX.next ?_
       refine WC.ret ?_
       refine WX.retE1 rfl rfl ?_
       refine ⟨?_, hU⟩
       have e1 : there l ord x = x := by
         unfold there
         rw [if_neg]
         intro h
         obtain ⟨i, hi, hia⟩ := List.mem_iff_getElem.1 h.2
         exact hne i _ (by omega) (List.getElem?_eq_getElem hi) ⟨h.1, hia⟩
       rw [e1]
       rfl
end Go.Proofs.YtdpnnclkkbfihaaDoor

/-
  The reference's heap: Words of one object; Need.
-/
namespace Go.Proofs.YtdpnnclkkbfihaaDoor
open Go
set_option linter.unusedSimpArgs false
set_option linter.unusedVariables false

def objW (kd : Nat) (ps : List Nat) (s : List UInt8) : List Nat := if kd = 3 then (s.length * 256 + 3) :: encT s else (ps.length * 256 + kd) :: ps
theorem leW_step {s : List UInt8} {i n : Nat} {b : UInt8} (h : s[i]? = some b) : leW ((s.drop i).take (n + 1)) = b.toNat + 256 * leW ((s.drop (i + 1)).take n) := by
  have hi := (List.getElem?_eq_some_iff.1 h).1
  rw [List.drop_eq_getElem_cons hi, List.take_succ_cons, leW]
  rw [List.getElem?_eq_getElem hi] at h
  injection h with h
  rw [h]
theorem leW_none {s : List UInt8} {i n : Nat} (h : s.length ≤ i) : leW ((s.drop i).take n) = 0 := by
  rw [List.drop_eq_nil_of_le h, List.take_nil]; rfl
theorem leW_7 (s : List UInt8) (i : Nat) {n : Nat} (hn : n ≤ 7) : leW ((s.drop i).take n) < 72057594037927936 := by
  have h1 := leW_lt ((s.drop i).take n)
  have h2 : ((s.drop i).take n).length ≤ 7 := by simp; omega
  have h3 : 256 ^ ((s.drop i).take n).length ≤ 256 ^ 7 := Nat.pow_le_pow_right (by decide) h2
  have h4 : (256 : Nat) ^ 7 = 72057594037927936 := by decide
  omega
set_option maxHeartbeats 4000000 in
theorem words1_ok {w : World} {F Fp : Nat → Prop} {b off c kd : Nat} {vP : Value} {ps : List Nat} {s : List UInt8} (hr : Rd w F (.slice (some ⟨b, off, none⟩) 1 c) 1 3 [.int .u8 (kd : Int), vP, .string ⟨s.toArray⟩]) (hp : Rd w Fp vP ps.length 1 (ps.map Wd)) (hF : ∀ k, F k ∨ Fp k → k < w.heap.size)
    (hkd : kd < 256) (hps : ps.length ≤ 1000000) (hs : s.length ≤ 1000000) :
    Ret Tryd.prog 34 #[.slice (some ⟨b, off, none⟩) 1 c] w fun v' w' => Own w' (New w w') 31 1 v' (objW kd ps s).length ((objW kd ps s).map Wd) ∧ Upd No w w' := by
  obtain ⟨A, cP, rfl, hcP⟩ := hp.slice_form
  generalize hB : w.heap.size = B at *
  refine enterRet (vs := [_]) (N := 100) Tryd.func34 rfl rfl rfl ?_
  have hU := Upd.refl No w
  refine WC.keep [(0, _)] ⟨rfl, trivial⟩ ?_
  refine WC.seq ?_
  refine WC.region ?_
  refine WL.val rfl rfl rfl rfl (r_assign rfl ev_c) ?_
  refine WL.nil ?_
  refine WX.keep [(0, _)] ⟨rfl, trivial⟩ ?_
  refine WX.next ?_
  refine WC.seq ?_
  refine WC.region ?_
  refine WL.val rfl rfl rfl rfl (r_assign rfl ev_c) ?_
  refine WL.nil ?_
  refine WX.keep [(0, _), (3, _)] ⟨rfl, rfl, trivial⟩ ?_
  refine WX.next ?_
  refine WC.seq ?_
  refine WC.seq ?_
  refine WC.region ?_
  refine WL.val rfl rfl rfl rfl (r_assign rfl ev_c) ?_
  refine WL.nil ?_
  refine WX.keep [(0, _), (3, _), (4, _)] ⟨rfl, rfl, rfl, trivial⟩ ?_
  refine WX.next ?_
  refine WC.block ?_
  -- loop 1: live [0, 3, 4]
  refine WC.keep [(0, _), (3, _), (4, _)] ⟨rfl, rfl, rfl, trivial⟩ ?_
  refine WC.loop (fun qq E wC => ∃ (i : Nat) (vO : Value), i ≤ 1 ∧ qq = 1 - i ∧ Upd No w wC ∧ Rd wC F (.slice (some ⟨b, off, none⟩) 1 c) 1 3 [.int .u8 (kd : Int), .slice A ps.length cP, .string ⟨s.toArray⟩] ∧ Rd wC Fp (.slice A ps.length cP) ps.length 1 (ps.map Wd) ∧ (i = 0 → vO = .slice none 0 0) ∧ (i = 1 → Own wC (From B) 31 1 vO (objW kd ps s).length ((objW kd ps s).map Wd)) ∧ E = [(0, .slice (some ⟨b, off, none⟩) 1 c), (3, vO), (4, .int .i64 (i : Int))]) (1) ?_ ?_
  · exact ⟨0, _, by omega, by omega, hU, hr, hp, fun _ => rfl, fun h => by omega, rfl⟩
  · clear hU hr hp
    rintro qq E wC ⟨i, vO, hi, rfl, hU, hr, hp, hv0, hO, rfl⟩
    have hUs := hU.size
    refine WC.seq ?_
    refine WC.seq ?_
    refine WC.region ?_
    refine WL.val rfl rfl rfl rfl (r_move rfl (ev_t rfl)) ?_
    refine WL.val rfl rfl rfl rfl (r_move rfl (ev_t rfl)) ?_
    refine WL.val rfl rfl rfl rfl (r_lenSlice (ts := #[]) rfl (ev_t rfl) elem_70) ?_
    refine WL.val rfl rfl rfl rfl (r_lss rfl (ev_t rfl) (ev_t rfl)) ?_
    refine WL.nil ?_
    refine WX.keep [(0, _), (3, _), (4, _), (11, _)] ⟨rfl, rfl, rfl, rfl, trivial⟩ ?_
    refine WX.next ?_
    refine WC.cond rfl (ev_t rfl) (fun hc3 => ?_) (fun hc3 => ?_)
    · try (exfalso; first | (simp at hc3; done) | (simp only [decide_eq_true_eq, decide_eq_false_iff_not, Bool.not_eq_true', Bool.not_eq_false', Bool.not_eq_true, Bool.not_eq_false] at hc3; omega) | omega)
      all_goals
       try simp only [decide_eq_true_eq, decide_eq_false_iff_not, Bool.not_eq_true', Bool.not_eq_false', Bool.not_eq_true, Bool.not_eq_false, Option.isNone_none, Option.isNone_some, Option.isSome_none, Option.isSome_some, ne_eq, Decidable.not_not] at hc3
       have hi0 : i = 0 := by omega
       subst hi0
       obtain rfl := hv0 rfl
       clear hO hv0
       have hO0 : Own wC No 31 1 (.slice none 0 0) 0 [] := Own.nil _ _ _ _
       refine WC.skip ?_
       refine WX.next ?_
       refine WC.seq ?_
       refine WC.block ?_
       refine WC.seq ?_
       refine WC.seq ?_
       refine WC.region ?_
       refine WL.val rfl rfl rfl rfl (r_move rfl (ev_t rfl)) ?_
       refine WL.val rfl rfl rfl rfl (r_move rfl (ev_t rfl)) ?_
       refine WL.val rfl rfl rfl rfl (r_indexAddr rfl (ev_t rfl) (ev_t rfl) elem_70 size_56 (by omega) (by omega)) ?_
       rw [show off + ((0 : Nat) : Int).toNat * 3 = off by simp]
       refine WL.val rfl rfl rfl rfl (r_fieldAt rfl (ev_t rfl) fld_56_0) ?_
       refine WL.val rfl rfl rfl rfl (r_load rfl (ev_t rfl) flat_5 (hr.cell (j := 0) (u := .int .u8 (kd : Int)) rfl rfl)) ?_
       refine WL.val rfl rfl rfl rfl (r_neq rfl (ev_t rfl) ev_c) ?_
       refine WL.nil ?_
       refine WX.keep [(0, _), (3, _), (4, _), (19, _)] ⟨rfl, rfl, rfl, rfl, trivial⟩ ?_
       refine WX.next ?_
       refine WC.cond rfl (ev_t rfl) (fun hc5 => ?_) (fun hc5 => ?_)
       · try (exfalso; first | (simp at hc5; done) | (simp only [decide_eq_true_eq, decide_eq_false_iff_not, Bool.not_eq_true', Bool.not_eq_false', Bool.not_eq_true, Bool.not_eq_false] at hc5; omega) | omega)
         all_goals
          try simp only [decide_eq_true_eq, decide_eq_false_iff_not, Bool.not_eq_true', Bool.not_eq_false', Bool.not_eq_true, Bool.not_eq_false, Option.isNone_none, Option.isNone_some, Option.isSome_none, Option.isSome_some, ne_eq, Decidable.not_not] at hc5
          have hk3 : kd ≠ 3 := by omega
          refine WC.seq ?_
          refine WC.draws' (fun u0_ u1_ => Upd No u0_ u1_) (fun j => [0, 0, 0, 0, 0, 0, 0, 0, 0, 0, 0, 0, 0, 1, 0, 0, 2, 2, 0].getD j 0) (.calm 0 (.calm 1 (.calm 2 (.calm 3 (.calm 4 (.calm 9 (.calm 10 (.calm 11 (.calm 12 (.held 5 (.calm 6 (.calm 7 (.calm 8 (.one 13 (.calm 14 (.calm 15 (.one 16 (.one 17 (.calm 18 (.done)))))))))))))))))))) mixed (by kernel_rfl) (by repeat (first | with_reducible exact Deaf.body | with_reducible apply Deaf.then | with_reducible apply Deaf.block)) ?_
          intro w1 hu1
          have hz1 := congrArg Array.size hu1.2.2.2
          replace hu1 := Upd.of_draw hu1
          have hs1 := hu1.size
          replace hU := hU.trans hu1 (by exact (fun _ _ h => h))
          replace hr := hr.upd hu1 (fun k hk hl hS => by have h1 := hF k (.inl hk); exact (show False from hS).elim)
          replace hp := hp.upd hu1 (fun k hk hl hS => by have h1 := hF k (.inr hk); exact (show False from hS).elim)
          replace hO0 := hO0.upd hu1 (fun k hk hl hS => by first | exact (show False from hS).elim)
          have hS6 := Upd.refl No w1
          refine WN.calm _ rfl rfl rfl rfl rfl (fun _ => r_move rfl (ev_t rfl)) ?_
          refine WN.calm _ rfl rfl rfl rfl rfl (fun _ => r_move rfl (ev_t rfl)) ?_
          refine WN.calm _ rfl rfl rfl rfl rfl (fun _ => r_move rfl (ev_t rfl)) ?_
          refine WN.calm _ rfl rfl rfl rfl rfl (fun _ => r_indexAddr rfl (ev_t rfl) (ev_t rfl) elem_70 size_56 (by omega) (by omega)) ?_
          rw [show off + ((0 : Nat) : Int).toNat * 3 = off by simp]
          refine WN.calm _ rfl rfl rfl rfl rfl (fun _ => r_fieldAt rfl (ev_t rfl) fld_56_1) ?_
          refine WN.calm _ rfl rfl rfl rfl rfl (fun _ => r_move rfl (ev_t rfl)) ?_
          refine WN.calm _ rfl rfl rfl rfl rfl (fun _ => r_move rfl (ev_t rfl)) ?_
          refine WN.calm _ rfl rfl rfl rfl rfl (fun _ => r_indexAddr rfl (ev_t rfl) (ev_t rfl) elem_70 size_56 (by omega) (by omega)) ?_
          rw [show off + ((0 : Nat) : Int).toNat * 3 = off by simp]
          refine WN.calm _ rfl rfl rfl rfl rfl (fun _ => r_fieldAt rfl (ev_t rfl) fld_56_0) ?_
          refine WN.held _ rfl rfl rfl rfl rfl hS6 (fun w' hS => r_load rfl (ev_t rfl) flat_46 ((hr.upd hS (fun _ _ _ h => h)).cell (j := 1) (u := .slice A ps.length cP) rfl rfl)) ?_
          refine WN.calm _ rfl rfl rfl rfl rfl (fun _ => r_lenSlice (ts := #[]) rfl (ev_t rfl) elem_46) ?_
          refine WN.calm _ rfl rfl rfl rfl rfl (fun _ => r_convN rfl (ev_t rfl) some_3 int_31 (by simp only [inK]; omega)) ?_
          refine WN.calm _ rfl rfl rfl rfl rfl (fun _ => r_mulN rfl (ev_t rfl) ev_c (by simp only [inK]; omega)) ?_
          refine WN.step _ rfl (SO.val rfl rfl rfl rfl (r_load rfl (ev_t rfl) flat_5 (hr.cell (j := 0) (u := .int .u8 (kd : Int)) rfl rfl)) ?_)
          refine ⟨hS6, ?_⟩
          refine WN.calm _ rfl rfl rfl rfl rfl (fun _ => r_convN rfl (ev_t rfl) some_5 int_31 (by simp only [inK]; omega)) ?_
          refine WN.calm _ rfl rfl rfl rfl rfl (fun _ => r_addN rfl (ev_t rfl) (ev_t rfl) (by simp only [inK]; omega)) ?_
          rw [show (ps.length : Int) * 256 + (kd : Int) = ((ps.length * 256 + kd : Nat) : Int) by omega]
          refine WN.step _ rfl (SO.alloc rfl rfl rfl rfl (r_buildSlice1 (vs := [_]) rfl ⟨(ev_t rfl), trivial⟩ rfl row_46 rfl rfl) ?_)
          intro w2 hu2 hB2 hz2
          have hs2 := hu2.size
          try replace hS6 := Upd.transA hS6 hu2
          replace hU := hU.trans hu2 (by exact (fun _ _ h => h))
          replace hr := hr.upd hu2 (fun k hk hl hS => by have h1 := hF k (.inl hk); exact (show False from hS).elim)
          replace hp := hp.upd hu2 (fun k hk hl hS => by have h1 := hF k (.inr hk); exact (show False from hS).elim)
          replace hO0 := hO0.upd hu2 (fun k hk hl hS => by first | exact (show False from hS).elim)
          refine ⟨trivial, ?_⟩
          refine WN.step _ rfl (SO.append hO0 (show Rd _ _ _ 1 1 [Wd (ps.length * 256 + kd)] from Rd.of_blk (F := At _) (n := 1) (sz := 1) hB2 rfl rfl (by omega)) row_46 (fun u hu => by simp at hu; subst hu; rfl) (le_maxLen (by omega)) (by omega) rfl (ev_t rfl) (ev_t rfl) rfl rfl rfl rfl ?_)
          intro v3 w3 hO1 hu3
          have hs3 := hu3.size
          try replace hS6 := Upd.transA hS6 hu3
          replace hU := hU.trans hu3 (by exact (fun _ _ h => h))
          replace hr := hr.upd hu3 (fun k hk hl hS => by have h1 := hF k (.inl hk); exact (show False from hS).elim)
          replace hp := hp.upd hu3 (fun k hk hl hS => by have h1 := hF k (.inr hk); exact (show False from hS).elim)
          refine ⟨trivial, ?_⟩
          obtain ⟨A3, c3, rfl, hc3⟩ := Own.form hO1
          replace hO1 := hO1.mono (F' := From B) (fun k hk => by rcases hk with hk | hk; exact hk.elim; exact (show B ≤ k by omega))
          refine WN.calm _ rfl rfl rfl rfl rfl (fun _ => r_assign rfl (ev_t rfl)) ?_
          refine WN.done ?_
          refine WX.keep [(0, _), (3, _), (4, _)] ⟨rfl, rfl, rfl, trivial⟩ ?_
          refine WX.next ?_
          refine WC.seq ?_
          refine WC.region ?_
          refine WL.val rfl rfl rfl rfl (r_move rfl (ev_t rfl)) ?_
          refine WL.val rfl rfl rfl rfl (r_move rfl (ev_t rfl)) ?_
          refine WL.val rfl rfl rfl rfl (r_move rfl (ev_t rfl)) ?_
          refine WL.val rfl rfl rfl rfl (r_indexAddr rfl (ev_t rfl) (ev_t rfl) elem_70 size_56 (by omega) (by omega)) ?_
          rw [show off + ((0 : Nat) : Int).toNat * 3 = off by simp]
          refine WL.val rfl rfl rfl rfl (r_fieldAt rfl (ev_t rfl) fld_56_1) ?_
          refine WL.val rfl rfl rfl rfl (r_load rfl (ev_t rfl) flat_46 (hr.cell (j := 1) (u := .slice A ps.length cP) rfl rfl)) ?_
          refine WL.cons (SO.append hO1 hp row_46 (fun u hu => by obtain ⟨x, _, rfl⟩ := List.mem_map.1 hu; rfl) (le_maxLen (by omega)) (by omega) rfl (ev_t rfl) (ev_t rfl) rfl rfl rfl rfl ?_)
          intro v4 w4 hO1 hu4
          have hs4 := hu4.size
          replace hU := hU.trans hu4 (by (intro k hl hk; (try simp only [At, New, Grow, From, No] at hk ⊢); omega))
          replace hr := hr.upd hu4 (fun k hk hl hS => by have h1 := hF k (.inl hk); (have h2 : B ≤ k := hS; omega))
          replace hp := hp.upd hu4 (fun k hk hl hS => by have h1 := hF k (.inr hk); (have h2 : B ≤ k := hS; omega))
          obtain ⟨A4, c4, rfl, hc4⟩ := Own.form hO1
          replace hO1 := hO1.mono (F' := From B) (fun k hk => by rcases hk with hk | hk; exact hk; exact (show B ≤ k by omega))
          refine WL.val rfl rfl rfl rfl (r_assign rfl (ev_t rfl)) ?_
          refine WL.nil ?_
          refine WX.keep [(0, _), (3, _), (4, _)] ⟨rfl, rfl, rfl, trivial⟩ ?_
          refine WX.next ?_
          refine WC.exit ?_
          refine WX.thenExit ?_
          refine WX.blockHere ?_
          refine WX.next ?_
          refine WC.region ?_
          refine WL.val rfl rfl rfl rfl (r_move rfl (ev_t rfl)) ?_
          refine WL.val rfl rfl rfl rfl (r_addN rfl (ev_t rfl) ev_c (by simp only [inK]; omega)) ?_
          refine WL.val rfl rfl rfl rfl (r_assign rfl (ev_t rfl)) ?_
          refine WL.nil ?_
          refine WX.keep [(0, _), (3, _), (4, _)] ⟨rfl, rfl, rfl, trivial⟩ ?_
          refine WX.meet [(0, _), (3, _), (4, _)] ⟨rfl, rfl, rfl, trivial⟩ ?_
          first
            | (refine ⟨0, by omega, 1, _, by omega, rfl, hU, hr, hp, fun h => by omega, fun _ => ?_, rfl⟩
               have e1 : objW kd ps s = (ps.length * 256 + kd) :: ps := if_neg hk3
               have e2 : (objW kd ps s).length = 0 + 1 + ps.length := by rw [e1, List.length_cons]; omega
               have e4 : (objW kd ps s).map Wd = [] ++ [Wd (ps.length * 256 + kd)] ++ ps.map Wd := by rw [e1]; rfl
               rw [e2, e4]
               exact hO1)
       · try (exfalso; first | (simp at hc5; done) | (simp only [decide_eq_true_eq, decide_eq_false_iff_not, Bool.not_eq_true', Bool.not_eq_false', Bool.not_eq_true, Bool.not_eq_false] at hc5; omega) | omega)
         all_goals
          try simp only [decide_eq_true_eq, decide_eq_false_iff_not, Bool.not_eq_true', Bool.not_eq_false', Bool.not_eq_true, Bool.not_eq_false, Option.isNone_none, Option.isNone_some, Option.isSome_none, Option.isSome_some, ne_eq, Decidable.not_not] at hc5
          have hk3 : kd = 3 := by omega
          refine WC.skip ?_
          refine WX.next ?_
          refine WC.seq ?_
          refine WC.region ?_
          refine WL.val rfl rfl rfl rfl (r_move rfl (ev_t rfl)) ?_
          refine WL.val rfl rfl rfl rfl (r_move rfl (ev_t rfl)) ?_
          refine WL.val rfl rfl rfl rfl (r_move rfl (ev_t rfl)) ?_
          refine WL.val rfl rfl rfl rfl (r_indexAddr rfl (ev_t rfl) (ev_t rfl) elem_70 size_56 (by omega) (by omega)) ?_
          rw [show off + ((0 : Nat) : Int).toNat * 3 = off by simp]
          refine WL.val rfl rfl rfl rfl (r_fieldAt rfl (ev_t rfl) fld_56_2) ?_
          refine WL.val rfl rfl rfl rfl (r_load rfl (ev_t rfl) flat_9 (hr.cell (j := 2) (u := .string ⟨s.toArray⟩) rfl rfl)) ?_
          refine WL.val rfl rfl rfl rfl (r_lenStrL rfl (ev_t rfl) str_9) ?_
          refine WL.val rfl rfl rfl rfl (r_convN rfl (ev_t rfl) some_3 int_31 (by simp only [inK]; omega)) ?_
          refine WL.val rfl rfl rfl rfl (r_mulN rfl (ev_t rfl) ev_c (by simp only [inK]; omega)) ?_
          refine WL.val rfl rfl rfl rfl (r_addN rfl (ev_t rfl) ev_c (by simp only [inK]; omega)) ?_
          rw [show (s.length : Int) * 256 + 3 = ((s.length * 256 + 3 : Nat) : Int) by omega]
          refine WL.cons (SO.alloc rfl rfl rfl rfl (r_buildSlice1 (vs := [_]) rfl ⟨(ev_t rfl), trivial⟩ rfl row_46 rfl rfl) ?_)
          intro w5 hu5 hB5 hz5
          have hs5 := hu5.size
          replace hU := hU.trans hu5 (by exact (fun _ _ h => h))
          replace hr := hr.upd hu5 (fun k hk hl hS => by have h1 := hF k (.inl hk); exact (show False from hS).elim)
          replace hp := hp.upd hu5 (fun k hk hl hS => by have h1 := hF k (.inr hk); exact (show False from hS).elim)
          replace hO0 := hO0.upd hu5 (fun k hk hl hS => by first | exact (show False from hS).elim)
          refine WL.cons (SO.append hO0 (show Rd _ _ _ 1 1 [Wd (s.length * 256 + 3)] from Rd.of_blk (F := At _) (n := 1) (sz := 1) hB5 rfl rfl (by omega)) row_46 (fun u hu => by simp at hu; subst hu; rfl) (le_maxLen (by omega)) (by omega) rfl (ev_t rfl) (ev_t rfl) rfl rfl rfl rfl ?_)
          intro v6 w6 hO1 hu6
          have hs6 := hu6.size
          replace hU := hU.trans hu6 (by exact (fun _ _ h => h))
          replace hr := hr.upd hu6 (fun k hk hl hS => by have h1 := hF k (.inl hk); exact (show False from hS).elim)
          replace hp := hp.upd hu6 (fun k hk hl hS => by have h1 := hF k (.inr hk); exact (show False from hS).elim)
          obtain ⟨A6, c6, rfl, hc6⟩ := Own.form hO1
          replace hO1 := hO1.mono (F' := From B) (fun k hk => by rcases hk with hk | hk; exact hk.elim; exact (show B ≤ k by omega))
          refine WL.val rfl rfl rfl rfl (r_assign rfl (ev_t rfl)) ?_
          refine WL.nil ?_
          refine WX.keep [(0, _), (3, _), (4, _)] ⟨rfl, rfl, rfl, trivial⟩ ?_
          refine WX.next ?_
          refine WC.seq ?_
          refine WC.region ?_
          refine WL.val rfl rfl rfl rfl (r_assign rfl ev_c) ?_
          refine WL.nil ?_
          refine WX.keep [(0, _), (3, _), (4, _), (5, _)] ⟨rfl, rfl, rfl, rfl, trivial⟩ ?_
          refine WX.next ?_
          refine WC.block ?_
          -- loop 2: live [0, 3, 4, 5]
          refine WC.keep [(0, _), (3, _), (4, _), (5, _)] ⟨rfl, rfl, rfl, rfl, trivial⟩ ?_
          refine WC.loop (fun qq E wD => ∃ (j : Nat) (vO : Value), j ≤ (encT s).length ∧ qq = (encT s).length - j ∧ Upd No w wD ∧ Rd wD F (.slice (some ⟨b, off, none⟩) 1 c) 1 3 [.int .u8 (kd : Int), .slice A ps.length cP, .string ⟨s.toArray⟩] ∧ Rd wD Fp (.slice A ps.length cP) ps.length 1 (ps.map Wd) ∧ Own wD (From B) 31 1 vO (1 + j) (((s.length * 256 + 3) :: (encT s).take j).map Wd) ∧ E = [(0, .slice (some ⟨b, off, none⟩) 1 c), (3, vO), (4, .int .i64 ((0 : Nat) : Int)), (5, .int .i64 ((8 * j : Nat) : Int))]) ((encT s).length) ?_ ?_
          · exact ⟨0, _, by omega, by omega, hU, hr, hp, hO1, rfl⟩
          · clear hU hr hp hO1 hO0
            rintro qq E wD ⟨j, vO, hj, rfl, hU, hr, hp, hO, rfl⟩
            have hUs := hU.size
            rw [encT_len] at hj
            refine WC.seq ?_
            refine WC.seq ?_
            refine WC.region ?_
            refine WL.val rfl rfl rfl rfl (r_move rfl (ev_t rfl)) ?_
            refine WL.val rfl rfl rfl rfl (r_move rfl (ev_t rfl)) ?_
            refine WL.val rfl rfl rfl rfl (r_move rfl (ev_t rfl)) ?_
            refine WL.val rfl rfl rfl rfl (r_indexAddr rfl (ev_t rfl) (ev_t rfl) elem_70 size_56 (by omega) (by omega)) ?_
            rw [show off + ((0 : Nat) : Int).toNat * 3 = off by simp]
            refine WL.val rfl rfl rfl rfl (r_fieldAt rfl (ev_t rfl) fld_56_2) ?_
            refine WL.val rfl rfl rfl rfl (r_load rfl (ev_t rfl) flat_9 (hr.cell (j := 2) (u := .string ⟨s.toArray⟩) rfl rfl)) ?_
            refine WL.val rfl rfl rfl rfl (r_lenStrL rfl (ev_t rfl) str_9) ?_
            refine WL.val rfl rfl rfl rfl (r_lss rfl (ev_t rfl) (ev_t rfl)) ?_
            refine WL.nil ?_
            refine WX.keep [(0, _), (3, _), (4, _), (5, _), (64, _)] ⟨rfl, rfl, rfl, rfl, rfl, trivial⟩ ?_
            refine WX.next ?_
            refine WC.cond rfl (ev_t rfl) (fun hc10 => ?_) (fun hc10 => ?_)
            · try (exfalso; first | (simp at hc10; done) | (simp only [decide_eq_true_eq, decide_eq_false_iff_not, Bool.not_eq_true', Bool.not_eq_false', Bool.not_eq_true, Bool.not_eq_false] at hc10; omega) | omega)
              all_goals
               try simp only [decide_eq_true_eq, decide_eq_false_iff_not, Bool.not_eq_true', Bool.not_eq_false', Bool.not_eq_true, Bool.not_eq_false, Option.isNone_none, Option.isNone_some, Option.isSome_none, Option.isSome_some, ne_eq, Decidable.not_not] at hc10
               have hjl : 8 * j < s.length := by omega
               refine WC.skip ?_
               refine WX.next ?_
               refine WC.seq ?_
               refine WC.block ?_
               refine WC.seq ?_
               refine WC.region ?_
               refine WL.val rfl rfl rfl rfl (r_assign rfl ev_c) ?_
               refine WL.nil ?_
               refine WX.keep [(0, _), (3, _), (4, _), (5, _), (6, _)] ⟨rfl, rfl, rfl, rfl, rfl, trivial⟩ ?_
               refine WX.next ?_
               refine WC.seq ?_
               refine WC.seq ?_
               refine WC.region ?_
               refine WL.val rfl rfl rfl rfl (r_assign rfl ev_c) ?_
               refine WL.nil ?_
               refine WX.keep [(0, _), (3, _), (4, _), (5, _), (6, _), (7, _)] ⟨rfl, rfl, rfl, rfl, rfl, rfl, trivial⟩ ?_
               refine WX.next ?_
               refine WC.block ?_
               -- loop 3: live [0, 3, 4, 5, 6, 7]
               refine WC.keep [(0, _), (3, _), (4, _), (5, _), (6, _), (7, _)] ⟨rfl, rfl, rfl, rfl, rfl, rfl, trivial⟩ ?_
               refine WC.loop (fun qq E wE => ∃ (m : Nat), m ≤ 8 ∧ qq = m ∧ Upd No w wE ∧ Rd wE F (.slice (some ⟨b, off, none⟩) 1 c) 1 3 [.int .u8 (kd : Int), .slice A ps.length cP, .string ⟨s.toArray⟩] ∧ Rd wE Fp (.slice A ps.length cP) ps.length 1 (ps.map Wd) ∧ Own wE (From B) 31 1 vO (1 + j) (((s.length * 256 + 3) :: (encT s).take j).map Wd) ∧ E = [(0, .slice (some ⟨b, off, none⟩) 1 c), (3, vO), (4, .int .i64 ((0 : Nat) : Int)), (5, .int .i64 ((8 * j : Nat) : Int)), (6, .int .u64 ((leW ((s.drop (8 * j + m)).take (8 - m)) : Nat) : Int)), (7, .int .i64 ((m : Int) - 1))]) (8) ?_ ?_
               · exact ⟨8, by omega, rfl, hU, hr, hp, hO, by simp [leW]⟩
               · clear hU hr hp hO
                 rintro qq E wE ⟨m, hm, hqm, hU, hr, hp, hO, rfl⟩
                 obtain rfl := hqm.symm
                 have hUs := hU.size
                 refine WC.seq ?_
                 refine WC.seq ?_
                 refine WC.region ?_
                 refine WL.val rfl rfl rfl rfl (r_move rfl (ev_t rfl)) ?_
                 refine WL.val rfl rfl rfl rfl (r_geq rfl (ev_t rfl) ev_c) ?_
                 refine WL.nil ?_
                 refine WX.keep [(0, _), (3, _), (4, _), (5, _), (6, _), (7, _), (68, _)] ⟨rfl, rfl, rfl, rfl, rfl, rfl, rfl, trivial⟩ ?_
                 refine WX.next ?_
                 refine WC.cond rfl (ev_t rfl) (fun hc14 => ?_) (fun hc14 => ?_)
                 · try (exfalso; first | (simp at hc14; done) | (simp only [decide_eq_true_eq, decide_eq_false_iff_not, Bool.not_eq_true', Bool.not_eq_false', Bool.not_eq_true, Bool.not_eq_false] at hc14; omega) | omega)
                   all_goals
                    try simp only [decide_eq_true_eq, decide_eq_false_iff_not, Bool.not_eq_true', Bool.not_eq_false', Bool.not_eq_true, Bool.not_eq_false, Option.isNone_none, Option.isNone_some, Option.isSome_none, Option.isSome_some, ne_eq, Decidable.not_not] at hc14
                    have hm1 : 1 ≤ m := by omega
                    have h7 := leW_7 s (8 * j + m) (n := 8 - m) (by omega)
                    generalize hLL : leW ((s.drop (8 * j + m)).take (8 - m)) = L at *
                    refine WC.skip ?_
                    refine WX.next ?_
                    refine WC.seq ?_
                    refine WC.block ?_
                    refine WC.seq ?_
                    refine WC.region ?_
                    refine WL.val rfl rfl rfl rfl (r_move rfl (ev_t rfl)) ?_
                    refine WL.val rfl rfl rfl rfl (r_mulN rfl (ev_t rfl) ev_c (by simp only [inK]; omega)) ?_
                    refine WL.val rfl rfl rfl rfl (r_assign rfl (ev_t rfl)) ?_
                    refine WL.nil ?_
                    refine WX.keep [(0, _), (3, _), (4, _), (5, _), (6, _), (7, _)] ⟨rfl, rfl, rfl, rfl, rfl, rfl, trivial⟩ ?_
                    refine WX.next ?_
                    refine WC.seq ?_
                    refine WC.region ?_
                    refine WL.val rfl rfl rfl rfl (r_move rfl (ev_t rfl)) ?_
                    refine WL.val rfl rfl rfl rfl (r_move rfl (ev_t rfl)) ?_
                    refine WL.val rfl rfl rfl rfl (r_addN rfl (ev_t rfl) (ev_t rfl) (by simp only [inK]; omega)) ?_
                    refine WL.val rfl rfl rfl rfl (r_move rfl (ev_t rfl)) ?_
                    refine WL.val rfl rfl rfl rfl (r_move rfl (ev_t rfl)) ?_
                    refine WL.val rfl rfl rfl rfl (r_indexAddr rfl (ev_t rfl) (ev_t rfl) elem_70 size_56 (by omega) (by omega)) ?_
                    rw [show off + ((0 : Nat) : Int).toNat * 3 = off by simp]
                    refine WL.val rfl rfl rfl rfl (r_fieldAt rfl (ev_t rfl) fld_56_2) ?_
                    refine WL.val rfl rfl rfl rfl (r_load rfl (ev_t rfl) flat_9 (hr.cell (j := 2) (u := .string ⟨s.toArray⟩) rfl rfl)) ?_
                    refine WL.val rfl rfl rfl rfl (r_lenStrL rfl (ev_t rfl) str_9) ?_
                    refine WL.val rfl rfl rfl rfl (r_lss rfl (ev_t rfl) (ev_t rfl)) ?_
                    refine WL.nil ?_
                    refine WX.keep [(0, _), (3, _), (4, _), (5, _), (6, _), (7, _), (82, _)] ⟨rfl, rfl, rfl, rfl, rfl, rfl, rfl, trivial⟩ ?_
                    refine WX.next ?_
                    refine WC.cond rfl (ev_t rfl) (fun hc17 => ?_) (fun hc17 => ?_)
                    · try (exfalso; first | (simp at hc17; done) | (simp only [decide_eq_true_eq, decide_eq_false_iff_not, Bool.not_eq_true', Bool.not_eq_false', Bool.not_eq_true, Bool.not_eq_false] at hc17; omega) | omega)
                      all_goals
                       try simp only [decide_eq_true_eq, decide_eq_false_iff_not, Bool.not_eq_true', Bool.not_eq_false', Bool.not_eq_true, Bool.not_eq_false, Option.isNone_none, Option.isNone_some, Option.isSome_none, Option.isSome_some, ne_eq, Decidable.not_not] at hc17
                       have hin : 8 * j + (m - 1) < s.length := by omega
                       obtain ⟨b8, hb8⟩ : ∃ b8, s[8 * j + (m - 1)]? = some b8 := ⟨_, List.getElem?_eq_getElem hin⟩
                       have hst := leW_step (n := 8 - m) hb8
                       rw [show 8 * j + (m - 1) + 1 = 8 * j + m by omega, hLL, show 8 - m + 1 = 8 - (m - 1) by omega] at hst
                       have hb8t : b8.toNat < 256 := by have := b8.toNat_lt; simpa using this
                       refine WC.region ?_
                       refine WL.val rfl rfl rfl rfl (r_move rfl (ev_t rfl)) ?_
                       refine WL.val rfl rfl rfl rfl (r_move rfl (ev_t rfl)) ?_
                       refine WL.val rfl rfl rfl rfl (r_move rfl (ev_t rfl)) ?_
                       refine WL.val rfl rfl rfl rfl (r_indexAddr rfl (ev_t rfl) (ev_t rfl) elem_70 size_56 (by omega) (by omega)) ?_
                       rw [show off + ((0 : Nat) : Int).toNat * 3 = off by simp]
                       refine WL.val rfl rfl rfl rfl (r_fieldAt rfl (ev_t rfl) fld_56_2) ?_
                       refine WL.val rfl rfl rfl rfl (r_load rfl (ev_t rfl) flat_9 (hr.cell (j := 2) (u := .string ⟨s.toArray⟩) rfl rfl)) ?_
                       refine WL.val rfl rfl rfl rfl (r_move rfl (ev_t rfl)) ?_
                       refine WL.val rfl rfl rfl rfl (r_move rfl (ev_t rfl)) ?_
                       refine WL.val rfl rfl rfl rfl (r_addN rfl (ev_t rfl) (ev_t rfl) (by simp only [inK]; omega)) ?_
                       refine WL.val rfl rfl rfl rfl (r_indexStr (j := 8 * j + (m - 1)) (c := b8) rfl (ev_t rfl) (ev_t rfl) Tryd.underlying9 (by omega) (by simpa using hb8)) ?_
                       refine WL.val rfl rfl rfl rfl (r_convN rfl (ev_t rfl) some_5 int_31 (by simp only [inK]; omega)) ?_
                       refine WL.val rfl rfl rfl rfl (r_addN rfl (ev_t rfl) (ev_t rfl) (by simp only [inK]; omega)) ?_
                       refine WL.val rfl rfl rfl rfl (r_assign rfl (ev_t rfl)) ?_
                       refine WL.nil ?_
                       refine WX.keep [(0, _), (3, _), (4, _), (5, _), (6, _), (7, _)] ⟨rfl, rfl, rfl, rfl, rfl, rfl, trivial⟩ ?_
                       refine WX.blockNormal ?_
                       refine WX.next ?_
                       refine WC.region ?_
                       refine WL.val rfl rfl rfl rfl (r_move rfl (ev_t rfl)) ?_
                       refine WL.val rfl rfl rfl rfl (r_subN rfl (ev_t rfl) ev_c (by simp only [inK]; omega)) ?_
                       refine WL.val rfl rfl rfl rfl (r_assign rfl (ev_t rfl)) ?_
                       refine WL.nil ?_
                       refine WX.keep [(0, _), (3, _), (4, _), (5, _), (6, _), (7, _)] ⟨rfl, rfl, rfl, rfl, rfl, rfl, trivial⟩ ?_
                       refine WX.meet [(0, _), (3, _), (4, _), (5, _), (6, _), (7, _)] ⟨rfl, rfl, rfl, rfl, rfl, rfl, trivial⟩ ?_
                       first
                         | (refine ⟨m - 1, by omega, m - 1, by omega, rfl, hU, hr, hp, hO, ?_⟩
                            rw [hst]
                            have e3 : ((m - 1 : Nat) : Int) - 1 = (m : Int) - 1 - 1 := by omega
                            have e4 : ((b8.toNat + 256 * L : Nat) : Int) = (L : Int) * 256 + (b8.toNat : Int) := by omega
                            rw [e3, e4]
                            done)
                    · try (exfalso; first | (simp at hc17; done) | (simp only [decide_eq_true_eq, decide_eq_false_iff_not, Bool.not_eq_true', Bool.not_eq_false', Bool.not_eq_true, Bool.not_eq_false] at hc17; omega) | omega)
                      all_goals
                       try simp only [decide_eq_true_eq, decide_eq_false_iff_not, Bool.not_eq_true', Bool.not_eq_false', Bool.not_eq_true, Bool.not_eq_false, Option.isNone_none, Option.isNone_some, Option.isSome_none, Option.isSome_some, ne_eq, Decidable.not_not] at hc17
                       refine WC.skip ?_
                       refine WX.blockNormal ?_
                       refine WX.next ?_
                       refine WC.region ?_
                       refine WL.val rfl rfl rfl rfl (r_move rfl (ev_t rfl)) ?_
                       refine WL.val rfl rfl rfl rfl (r_subN rfl (ev_t rfl) ev_c (by simp only [inK]; omega)) ?_
                       refine WL.val rfl rfl rfl rfl (r_assign rfl (ev_t rfl)) ?_
                       refine WL.nil ?_
                       refine WX.keep [(0, _), (3, _), (4, _), (5, _), (6, _), (7, _)] ⟨rfl, rfl, rfl, rfl, rfl, rfl, trivial⟩ ?_
                       refine WX.meet [(0, _), (3, _), (4, _), (5, _), (6, _), (7, _)] ⟨rfl, rfl, rfl, rfl, rfl, rfl, trivial⟩ ?_
                       first
                         | (refine ⟨m - 1, by omega, m - 1, by omega, rfl, hU, hr, hp, hO, ?_⟩
                            have hno : s.length ≤ 8 * j + (m - 1) := by omega
                            have hL0 : L = 0 := by rw [← hLL]; exact leW_none (by omega)
                            have e3 : ((m - 1 : Nat) : Int) - 1 = (m : Int) - 1 - 1 := by omega
                            rw [leW_none hno, hL0, e3]
                            rfl)
                 · try (exfalso; first | (simp at hc14; done) | (simp only [decide_eq_true_eq, decide_eq_false_iff_not, Bool.not_eq_true', Bool.not_eq_false', Bool.not_eq_true, Bool.not_eq_false] at hc14; omega) | omega)
                   all_goals
                    try simp only [decide_eq_true_eq, decide_eq_false_iff_not, Bool.not_eq_true', Bool.not_eq_false', Bool.not_eq_true, Bool.not_eq_false, Option.isNone_none, Option.isNone_some, Option.isSome_none, Option.isSome_some, ne_eq, Decidable.not_not] at hc14
                    refine WC.exit ?_
                    refine WX.thenExit ?_
                    refine WX.thenExit ?_
                    refine WX.blockHere ?_
                    refine WX.next ?_
                    have hm0 : m = 0 := by omega
                    subst hm0
                    obtain ⟨x, hx⟩ : ∃ x, (encT s)[j]? = some x := ⟨_, List.getElem?_eq_getElem (by rw [encT_len]; omega)⟩
                    have hxe : x = leW ((s.drop (8 * j)).take 8) := by
                      unfold encT at hx
                      rw [List.getElem?_map, List.getElem?_range (by omega)] at hx
                      injection hx with hx
                      exact hx.symm
                    simp only [Nat.add_zero, Nat.sub_zero]
                    rw [← hxe]
                    refine WC.region ?_
                    refine WL.val rfl rfl rfl rfl (r_move rfl (ev_t rfl)) ?_
                    refine WL.val rfl rfl rfl rfl (r_move rfl (ev_t rfl)) ?_
                    refine WL.cons (SO.alloc rfl rfl rfl rfl (r_buildSlice1 (vs := [_]) rfl ⟨(ev_t rfl), trivial⟩ rfl row_46 rfl rfl) ?_)
                    intro w7 hu7 hB7 hz7
                    have hs7 := hu7.size
                    replace hU := hU.trans hu7 (by exact (fun _ _ h => h))
                    replace hr := hr.upd hu7 (fun k hk hl hS => by have h1 := hF k (.inl hk); exact (show False from hS).elim)
                    replace hp := hp.upd hu7 (fun k hk hl hS => by have h1 := hF k (.inr hk); exact (show False from hS).elim)
                    replace hO := hO.upd hu7 (fun k hk hl hS => by first | exact (show False from hS).elim)
                    refine WL.cons (SO.append hO (show Rd _ _ _ 1 1 [Wd x] from Rd.of_blk (F := At _) (n := 1) (sz := 1) hB7 rfl rfl (by omega)) row_46 (fun u hu => by simp at hu; subst hu; rfl) (le_maxLen (by omega)) (by omega) rfl (ev_t rfl) (ev_t rfl) rfl rfl rfl rfl ?_)
                    intro v8 w8 hO hu8
                    have hs8 := hu8.size
                    replace hU := hU.trans hu8 (by (intro k hl hk; (try simp only [At, New, Grow, From, No] at hk ⊢); omega))
                    replace hr := hr.upd hu8 (fun k hk hl hS => by have h1 := hF k (.inl hk); (have h2 : B ≤ k := hS; omega))
                    replace hp := hp.upd hu8 (fun k hk hl hS => by have h1 := hF k (.inr hk); (have h2 : B ≤ k := hS; omega))
                    obtain ⟨A8, c8, rfl, hc8⟩ := Own.form hO
                    replace hO := hO.mono (F' := From B) (fun k hk => by rcases hk with hk | hk; exact hk; exact (show B ≤ k by omega))
                    refine WL.val rfl rfl rfl rfl (r_assign rfl (ev_t rfl)) ?_
                    refine WL.nil ?_
                    refine WX.keep [(0, _), (3, _), (4, _), (5, _)] ⟨rfl, rfl, rfl, rfl, trivial⟩ ?_
                    refine WX.blockNormal ?_
                    refine WX.next ?_
                    refine WC.region ?_
                    refine WL.val rfl rfl rfl rfl (r_move rfl (ev_t rfl)) ?_
                    refine WL.val rfl rfl rfl rfl (r_addN rfl (ev_t rfl) ev_c (by simp only [inK]; omega)) ?_
                    refine WL.val rfl rfl rfl rfl (r_assign rfl (ev_t rfl)) ?_
                    refine WL.nil ?_
                    refine WX.keep [(0, _), (3, _), (4, _), (5, _)] ⟨rfl, rfl, rfl, rfl, trivial⟩ ?_
                    refine WX.meet [(0, _), (3, _), (4, _), (5, _)] ⟨rfl, rfl, rfl, rfl, trivial⟩ ?_
                    refine ⟨(encT s).length - (j + 1), by rw [encT_len]; omega, j + 1, _, by rw [encT_len]; omega, rfl, hU, hr, hp, ?_, by rw [show ((8 * (j + 1) : Nat) : Int) = ((8 * j : Nat) : Int) + 8 by omega]⟩
                    have et : (encT s).take (j + 1) = (encT s).take j ++ [x] := by rw [List.take_add_one, hx]; rfl
                    rw [et, show 1 + (j + 1) = 1 + j + 1 by omega]
                    have e9 : ((s.length * 256 + 3) :: (encT s).take j).map Wd ++ [Wd x] = ((s.length * 256 + 3) :: ((encT s).take j ++ [x])).map Wd := by simp
                    rw [← e9]
                    exact hO
            · try (exfalso; first | (simp at hc10; done) | (simp only [decide_eq_true_eq, decide_eq_false_iff_not, Bool.not_eq_true', Bool.not_eq_false', Bool.not_eq_true, Bool.not_eq_false] at hc10; omega) | omega)
              all_goals
               try simp only [decide_eq_true_eq, decide_eq_false_iff_not, Bool.not_eq_true', Bool.not_eq_false', Bool.not_eq_true, Bool.not_eq_false, Option.isNone_none, Option.isNone_some, Option.isSome_none, Option.isSome_some, ne_eq, Decidable.not_not] at hc10
               refine WC.exit ?_
               refine WX.thenExit ?_
               refine WX.thenExit ?_
               refine WX.blockHere ?_
               refine WX.blockNormal ?_
               refine WX.next ?_
               refine WC.region ?_
               refine WL.val rfl rfl rfl rfl (r_move rfl (ev_t rfl)) ?_
               refine WL.val rfl rfl rfl rfl (r_addN rfl (ev_t rfl) ev_c (by simp only [inK]; omega)) ?_
               refine WL.val rfl rfl rfl rfl (r_assign rfl (ev_t rfl)) ?_
               refine WL.nil ?_
               refine WX.keep [(0, _), (3, _), (4, _)] ⟨rfl, rfl, rfl, trivial⟩ ?_
               refine WX.meet [(0, _), (3, _), (4, _)] ⟨rfl, rfl, rfl, trivial⟩ ?_
               first
                 | (refine ⟨0, by omega, 1, _, by omega, rfl, hU, hr, hp, fun h => by omega, fun _ => ?_, rfl⟩
                    have hje : j = (encT s).length := by rw [encT_len]; omega
                    rw [hje, List.take_length] at hO
                    have e1 : objW kd ps s = (s.length * 256 + 3) :: encT s := if_pos hk3
                    have e2 : (objW kd ps s).length = 1 + (encT s).length := by rw [e1, List.length_cons]; omega
                    rw [e2, e1]
                    exact hO)
    · try (exfalso; first | (simp at hc3; done) | (simp only [decide_eq_true_eq, decide_eq_false_iff_not, Bool.not_eq_true', Bool.not_eq_false', Bool.not_eq_true, Bool.not_eq_false] at hc3; omega) | omega)
      all_goals
       try simp only [decide_eq_true_eq, decide_eq_false_iff_not, Bool.not_eq_true', Bool.not_eq_false', Bool.not_eq_true, Bool.not_eq_false, Option.isNone_none, Option.isNone_some, Option.isSome_none, Option.isSome_some, ne_eq, Decidable.not_not] at hc3
       refine WC.exit ?_
       refine WX.thenExit ?_
       refine WX.thenExit ?_
       refine WX.blockHere ?_
       refine WX.next ?_
       refine WC.seq ?_
       refine WC.region ?_
       refine WL.val rfl rfl rfl rfl (r_move rfl (ev_t rfl)) ?_
       refine WL.val rfl rfl rfl rfl (r_assign rfl (ev_t rfl)) ?_
       refine WL.nil ?_
       refine WX.keep [(2, _)] ⟨rfl, trivial⟩ ?_
       refine WX.next ?_
       refine WC.ret ?_
       refine WX.retE1 rfl rfl ?_
       have hi1 : i = 1 := by omega
       have hO2 := (hO hi1).bound
       exact ⟨hO2.mono (fun k hk => ⟨by have := hk.1; simp only [From] at this; omega, hk.2⟩), hU⟩
end Go.Proofs.YtdpnnclkkbfihaaDoor

/-
  The reference's heap: Need, Collect.
-/
namespace Go.Proofs.YtdpnnclkkbfihaaDoor
open Go
set_option linter.unusedSimpArgs false
set_option linter.unusedVariables false

/-! ### the order -/
structure Od (st ord : List Nat) : Prop where
  nd : ord.Nodup
  sub : ∀ a ∈ ord, a ∈ st
theorem Od.nil (st : List Nat) : Od st [] := ⟨List.nodup_nil, fun _ h => (by cases h)⟩
theorem Od.come {st ord : List Nat} {x : Nat} (h : Od st ord) (hx : x % 2 = 1 ∨ x / 2 ∈ st) : Od st (come ord x) := by
  unfold Go.Proofs.YtdpnnclkkbfihaaDoor.come
  split
  · exact h
  · rename_i hn
    have h1 : x / 2 ∉ ord := fun e => hn (.inr e)
    have h2 : x / 2 ∈ st := by
      rcases hx with h | h
      · exact absurd (.inl h) hn
      · exact h
    refine ⟨?_, fun a ha => ?_⟩
    · rw [List.nodup_append]
      exact ⟨h.nd, by simp, fun a ha b hb e => by simp at hb; subst hb; subst e; exact h1 ha⟩
    · rcases List.mem_append.1 ha with ha | ha
      · exact h.sub a ha
      · simp at ha; subst ha; exact h2
theorem Od.tot {l st ord : List Nat} (h : Od st ord) (hv : Vd l st) : tot (szAt l) ord ≤ l.length := by
  have h1 := tot_sub (sz := szAt l) h.nd h.sub
  have h2 := hv.tile.tot
  omega
theorem tot_len (l : List Nat) : ∀ ord : List Nat, ord.length ≤ tot (szAt l) ord
  | [] => Nat.zero_le _
  | a :: r => by
    have h1 := szAt_pos l a
    have h2 := tot_len l r
    rw [tot_cons, List.length_cons]
    omega
theorem Od.len {l st ord : List Nat} (h : Od st ord) (hv : Vd l st) : ord.length ≤ l.length := Nat.le_trans (tot_len l ord) (h.tot hv)
theorem fold_step {xs : List Nat} {i x : Nat} {o : List Nat} (h : xs[i]? = some x) : (xs.take (i + 1)).foldl come o = come ((xs.take i).foldl come o) x := by
  rw [List.take_add_one, h, Option.toList_some, List.foldl_append]; rfl
theorem come_odd {ord : List Nat} {x : Nat} (h : x % 2 = 1) : come ord x = ord := if_pos (.inl h)
theorem come_even {ord : List Nat} {x a : Nat} (h : x = 2 * a) : come ord x = come ord (2 * a) := by rw [h]
theorem OS.nil (w : World) (l : List Nat) : OS w No No l [] (.slice none 0 0) (.slice none 0 0) := ⟨Own.nil _ _ _ _, Own.nil _ _ _ _, fun k h => h.elim, fun k h => h.elim⟩
/-! ### what is written out -/
def objC (l fin : List Nat) (a : Nat) : List Nat := objW (l.getD a 0 % 256) ((parts l a).map (there l fin)) (textB l a)
def outW (l fin : List Nat) : List Nat := fin.flatMap (objC l fin)
theorem objC_len {l st fin : List Nat} (hg : GoodH l st) {a : Nat} (ha : a ∈ st) : (objC l fin a).length = szAt l a := by
  have h1 := (hg.vd.in ha).2
  unfold objC objW
  split
  · rename_i hk
    rw [List.length_cons, encT_len, textB_len hk]
    unfold szAt szO
    rw [if_pos hk]
    omega
  · rename_i hk
    rw [List.length_cons, List.length_map, parts_len hk h1]
    unfold szAt szO
    rw [if_neg hk]
    omega
theorem out_len {l st fin : List Nat} (hg : GoodH l st) : ∀ {o : List Nat}, (∀ a ∈ o, a ∈ st) → (o.flatMap (objC l fin)).length = tot (szAt l) o
  | [], _ => rfl
  | a :: r, h => by
    rw [List.flatMap_cons, List.length_append, objC_len hg (h a (by simp)), tot_cons, out_len hg (fun b hb => h b (by simp [hb]))]
theorem tot_take_le (l : List Nat) : ∀ (o : List Nat) (k : Nat), tot (szAt l) (o.take k) ≤ tot (szAt l) o
  | [], k => by simp [tot]
  | a :: r, 0 => by simp [tot]
  | a :: r, k + 1 => by
    rw [List.take_succ_cons, tot_cons, tot_cons]
    have := tot_take_le l r k
    omega
theorem there_lt {l ord : List Nat} {x : Nat} (hx : x < 18446744073709551616) (ht : tot (szAt l) ord ≤ 1000000) : there l ord x < 18446744073709551616 := by
  unfold there
  split
  · rename_i h
    have := plc_lt (sz := szAt l) h.2
    omega
  · exact hx
theorem parts_lt {l st : List Nat} (hg : GoodH l st) {a : Nat} : ∀ x ∈ parts l a, x < 18446744073709551616 := fun x hx => by
  unfold parts at hx
  split at hx
  · cases hx
  · exact hg.vd.w64 x (List.mem_of_mem_drop (List.mem_of_mem_take hx))
theorem parts_le {l : List Nat} (a : Nat) (hl : l.length ≤ 1000) : (parts l a).length ≤ 1000 := by
  unfold parts; split
  · simp
  · rw [List.length_take, List.length_drop]; omega
theorem textB_le {l st : List Nat} (hg : GoodH l st) {a : Nat} (ha : a ∈ st) : (textB l a).length ≤ 8 * l.length := by
  by_cases hk : l.getD a 0 % 256 = 3
  · rw [textB_len hk]; exact hg.n8 ha
  · rw [show textB l a = [] from if_neg hk]; exact Nat.zero_le _

/-- how many words an object takes -/
def need9 (kd n : Nat) (s : List UInt8) : Nat := if kd = 3 then 1 + (s.length + 7) / 8 else 1 + n
theorem need9_ok {w : World} {A : Option Addr} {kd n c : Nat} {s : List UInt8} (hkd : kd < 256) (hn : n ≤ 1000000) (hs : s.length ≤ 1000000) :
    Ret Tryd.prog 31 #[.agg #[.int .u8 (kd : Int), .slice A n c, .string ⟨s.toArray⟩]] w fun v w' => v = .int .i64 ((need9 kd n s : Nat) : Int) ∧ Upd No w w' := by
  refine enterRet (vs := [_]) (N := 16) Tryd.func31 rfl rfl rfl ?_
  have hU := Upd.refl No w
  refine WC.keep [(0, _)] ⟨rfl, trivial⟩ ?_
  refine WC.seq ?_
  refine WC.region ?_
  refine WL.cons (SO.alloc rfl rfl rfl rfl (r_boxAgg rfl (ev_t rfl)) ?_)
  intro w1 hu1 hB1 hz1
  have hs1 := hu1.size
  replace hU := hU.trans hu1 (by first | exact (fun _ _ h => h) | exact (fun _ _ h => h.elim) | (intro k hl hk; (try simp only [At, New, Grow, From, No] at hk ⊢); omega) | (intro k hl hk; first | exact (show False from hk).elim | (simp only [At] at hk; omega)))
  refine WL.val rfl rfl rfl rfl (r_assign rfl ev_c) ?_
  refine WL.nil ?_
  refine WX.keep [(1, _)] ⟨rfl, trivial⟩ ?_
  have hbO := hB1
  obtain ⟨bO, hbOe⟩ : ∃ g, g = w.heap.size := ⟨_, rfl⟩
  rw [← hbOe] at hbO ⊢
  refine WX.next ?_
  refine WC.seq ?_
  refine WC.seq ?_
  refine WC.region ?_
  first | refine WL.val rfl rfl rfl rfl (r_field0 rfl (ev_t rfl) fld_56_0) ?_ | refine WL.val rfl rfl rfl rfl (r_fieldAt rfl (ev_t rfl) fld_56_0) ?_
  refine WL.val rfl rfl rfl rfl (r_load rfl (ev_t rfl) flat_5 (Blk.cell hbO rfl)) ?_
  refine WL.val rfl rfl rfl rfl (r_eql rfl (ev_t rfl) ev_c) ?_
  refine WL.nil ?_
  refine WX.keep [(1, _), (5, _)] ⟨rfl, rfl, trivial⟩ ?_
  refine WX.next ?_
  refine WC.cond rfl (ev_t rfl) (fun hc1 => ?_) (fun hc1 => ?_)
  · try (exfalso; first | (simp at hc1; done) | (simp only [decide_eq_true_eq, decide_eq_false_iff_not, Bool.not_eq_true', Bool.not_eq_false', Bool.not_eq_true, Bool.not_eq_false] at hc1; omega) | omega)
    all_goals
     try simp only [decide_eq_true_eq, decide_eq_false_iff_not, Bool.not_eq_true', Bool.not_eq_false', Bool.not_eq_true, Bool.not_eq_false, Option.isNone_none, Option.isNone_some, Option.isSome_none, Option.isSome_some, ne_eq, Decidable.not_not] at hc1
     refine WC.seq ?_
     refine WC.region ?_
     first | refine WL.val rfl rfl rfl rfl (r_field0 rfl (ev_t rfl) fld_56_2) ?_ | refine WL.val rfl rfl rfl rfl (r_fieldAt rfl (ev_t rfl) fld_56_2) ?_
     refine WL.val rfl rfl rfl rfl (r_load rfl (ev_t rfl) flat_9 (Blk.cell hbO rfl)) ?_
     refine WL.val rfl rfl rfl rfl (r_lenStrL rfl (ev_t rfl) str_9) ?_
     first | refine WL.val rfl rfl rfl rfl (r_addN rfl (ev_t rfl) ev_c (by simp only [inK]; omega)) ?_ | refine WL.val rfl rfl rfl rfl (r_add rfl (ev_t rfl) ev_c) ?_
     first | refine WL.val rfl rfl rfl rfl (r_quoN rfl (ev_t rfl) ev_c (by omega) (by omega) (by simp only [inK]; omega)) ?_ | refine WL.val rfl rfl rfl rfl (r_quo rfl (ev_t rfl) ev_c (by omega)) ?_
     first | refine WL.val rfl rfl rfl rfl (r_addN rfl ev_c (ev_t rfl) (by simp only [inK]; omega)) ?_ | refine WL.val rfl rfl rfl rfl (r_add rfl ev_c (ev_t rfl)) ?_
     refine WL.val rfl rfl rfl rfl (r_assign rfl (ev_t rfl)) ?_
     refine WL.nil ?_
     refine WX.keep [(2, _)] ⟨rfl, trivial⟩ ?_
     refine WX.next ?_
     refine WC.ret ?_
     refine WX.thenRet ?_
     refine WX.retE1 rfl rfl ?_
     refine ⟨?_, hU⟩
     have hk3 : kd = 3 := by omega
     unfold need9
     rw [if_pos hk3]
     congr 1
  · try (exfalso; first | (simp at hc1; done) | (simp only [decide_eq_true_eq, decide_eq_false_iff_not, Bool.not_eq_true', Bool.not_eq_false', Bool.not_eq_true, Bool.not_eq_false] at hc1; omega) | omega)
    all_goals
     try simp only [decide_eq_true_eq, decide_eq_false_iff_not, Bool.not_eq_true', Bool.not_eq_false', Bool.not_eq_true, Bool.not_eq_false, Option.isNone_none, Option.isNone_some, Option.isSome_none, Option.isSome_some, ne_eq, Decidable.not_not] at hc1
     refine WC.skip ?_
     refine WX.next ?_
     refine WC.seq ?_
     refine WC.region ?_
     first | refine WL.val rfl rfl rfl rfl (r_field0 rfl (ev_t rfl) fld_56_1) ?_ | refine WL.val rfl rfl rfl rfl (r_fieldAt rfl (ev_t rfl) fld_56_1) ?_
     refine WL.val rfl rfl rfl rfl (r_load rfl (ev_t rfl) flat_46 (Blk.cell hbO rfl)) ?_
     refine WL.val rfl rfl rfl rfl (r_lenSlice (ts := #[]) rfl (ev_t rfl) elem_46) ?_
     first | refine WL.val rfl rfl rfl rfl (r_addN rfl ev_c (ev_t rfl) (by simp only [inK]; omega)) ?_ | refine WL.val rfl rfl rfl rfl (r_add rfl ev_c (ev_t rfl)) ?_
     refine WL.val rfl rfl rfl rfl (r_assign rfl (ev_t rfl)) ?_
     refine WL.nil ?_
     refine WX.keep [(2, _)] ⟨rfl, trivial⟩ ?_
     refine WX.next ?_
     refine WC.ret ?_
     refine WX.retE1 rfl rfl ?_
     refine ⟨?_, hU⟩
     have hk3 : kd ≠ 3 := by omega
     unfold need9
     rw [if_neg hk3]
     congr 1
end Go.Proofs.YtdpnnclkkbfihaaDoor

/-
  The reference's heap: Collect.
-/
namespace Go.Proofs.YtdpnnclkkbfihaaDoor
open Go
set_option linter.unusedSimpArgs false
set_option linter.unusedVariables false

set_option maxHeartbeats 8000000 in
theorem refcollect_ok {w : World} {F R : Nat → Prop} {v vR : Value} {l st ys : List Nat} (hr : Rd w F v l.length 1 (l.map Wd)) (hF : ∀ k, F k → k < w.heap.size) (hR : Rd w R vR ys.length 1 (ys.map Wd)) (hRl : ∀ k, R k → k < w.heap.size)
    (hg : GoodH l st) (hl : l.length ≤ 1000) (hyl : ys.length ≤ 1000) (hy : ∀ y ∈ ys, y < 18446744073709551616 ∧ (y % 2 = 1 ∨ y / 2 ∈ st)) :
    Ret Tryd.prog 32 #[v, vR] w fun v' w' => ∃ (fin : List Nat) (Gm Gt : Nat → Prop) (vm vt : Value), v' = .tuple #[vm, vt] ∧ Bfs l 0 (ys.foldl come []) fin ∧ Od st fin ∧ Own w' Gm 31 1 vm (outW l fin).length ((outW l fin).map Wd) ∧ Own w' Gt 31 1 vt ys.length ((ys.map (there l fin)).map Wd) ∧ (∀ k, Gm k → w.heap.size ≤ k ∧ k < w'.heap.size ∧ ¬ Gt k) ∧ (∀ k, Gt k → w.heap.size ≤ k ∧ k < w'.heap.size) ∧ Upd No w w' := by
  have hw := hg.vd.w64
  obtain ⟨A, c, rfl, hc⟩ := hr.slice_form
  obtain ⟨A2, c2, rfl, hc2⟩ := hR.slice_form
  generalize hB : w.heap.size = B at *
  have hFo : ∀ k, F k → k < B := hF
  refine enterRet (vs := [_, _]) (N := 159) Tryd.func32 rfl rfl rfl ?_
  have hU := Upd.refl No w
  refine WC.keep [(0, _), (1, _)] ⟨rfl, rfl, trivial⟩ ?_
  refine WC.seq ?_
  refine WC.region ?_
  refine WL.val rfl rfl rfl rfl (r_assign rfl ev_c) ?_
  refine WL.val rfl rfl rfl rfl (r_assign rfl ev_c) ?_
  refine WL.nil ?_
  refine WX.keep [(0, _), (1, _)] ⟨rfl, rfl, trivial⟩ ?_
  refine WX.next ?_
  refine WC.seq ?_
  refine WC.region ?_
  refine WL.val rfl rfl rfl rfl (r_assign rfl ev_c) ?_
  refine WL.nil ?_
  refine WX.keep [(0, _), (1, _), (6, _)] ⟨rfl, rfl, rfl, trivial⟩ ?_
  refine WX.next ?_
  refine WC.seq ?_
  refine WC.region ?_
  refine WL.val rfl rfl rfl rfl (r_assign rfl ev_c) ?_
  refine WL.nil ?_
  refine WX.keep [(0, _), (1, _), (6, _), (7, _)] ⟨rfl, rfl, rfl, rfl, trivial⟩ ?_
  refine WX.next ?_
  refine WC.seq ?_
  refine WC.region ?_
  refine WL.val rfl rfl rfl rfl (r_assign rfl ev_c) ?_
  refine WL.nil ?_
  refine WX.keep [(0, _), (1, _), (6, _), (7, _), (8, _)] ⟨rfl, rfl, rfl, rfl, rfl, trivial⟩ ?_
  refine WX.next ?_
  refine WC.seq ?_
  refine WC.region ?_
  refine WL.val rfl rfl rfl rfl (r_assign rfl ev_c) ?_
  refine WL.nil ?_
  refine WX.keep [(0, _), (1, _), (6, _), (7, _), (8, _), (9, _)] ⟨rfl, rfl, rfl, rfl, rfl, rfl, trivial⟩ ?_
  refine WX.next ?_
  refine WC.seq ?_
  refine WC.region ?_
  refine WL.val rfl rfl rfl rfl (r_assign rfl ev_c) ?_
  refine WL.nil ?_
  refine WX.keep [(0, _), (1, _), (6, _), (7, _), (8, _), (9, _), (10, _)] ⟨rfl, rfl, rfl, rfl, rfl, rfl, rfl, trivial⟩ ?_
  refine WX.next ?_
  refine WC.seq ?_
  refine WC.seq ?_
  refine WC.region ?_
  refine WL.val rfl rfl rfl rfl (r_assign rfl ev_c) ?_
  refine WL.nil ?_
  refine WX.keep [(0, _), (1, _), (6, _), (7, _), (8, _), (9, _), (10, _), (11, _)] ⟨rfl, rfl, rfl, rfl, rfl, rfl, rfl, rfl, trivial⟩ ?_
  refine WX.next ?_
  refine WC.block ?_
  -- loop 1: live [0, 1, 6, 7, 8, 9, 10, 11]
  refine WC.keep [(0, _), (1, _), (6, _), (7, _), (8, _), (9, _), (10, _), (11, _)] ⟨rfl, rfl, rfl, rfl, rfl, rfl, rfl, rfl, trivial⟩ ?_
  refine WC.loop (fun qq E wC => ∃ (i : Nat) (ord : List Nat) (Go Gp : Nat → Prop) (vO vP : Value), i ≤ ys.length ∧ qq = ys.length - i ∧ Od st ord ∧ ord = (ys.take i).foldl come [] ∧ OS wC Go Gp l ord vO vP ∧ (∀ k, (Go k ∨ Gp k) → B ≤ k) ∧ Upd No w wC ∧ Rd wC F (.slice A l.length c) l.length 1 (l.map Wd) ∧ Rd wC R (.slice A2 ys.length c2) ys.length 1 (ys.map Wd) ∧ E = [(0, .slice A l.length c), (1, .slice A2 ys.length c2), (6, vO), (7, vP), (8, .int .u64 ((tot (szAt l) ord : Nat) : Int)), (9, .slice none 0 0), (10, .slice none 0 0), (11, .int .i64 (i : Int))]) (ys.length) ?_ ?_
  · exact ⟨0, [], No, No, _, _, by omega, by omega, Od.nil _, rfl, OS.nil _ _, fun k h => by rcases h with h | h <;> exact h.elim, hU, hr, hR, rfl⟩
  · clear hU hr hR
    rintro qq E wC ⟨i, ord, Go, Gp, vO, vP, hi, rfl, hod, hoe, hO, hGB, hU, hr, hR, rfl⟩
    have hUs := hU.size
    have hot := hod.tot hg.vd
    have hon := hod.len hg.vd
    refine WC.seq ?_
    refine WC.seq ?_
    refine WC.region ?_
    refine WL.val rfl rfl rfl rfl (r_move rfl (ev_t rfl)) ?_
    refine WL.val rfl rfl rfl rfl (r_move rfl (ev_t rfl)) ?_
    refine WL.val rfl rfl rfl rfl (r_lenSlice (ts := #[]) rfl (ev_t rfl) elem_46) ?_
    refine WL.val rfl rfl rfl rfl (r_lss rfl (ev_t rfl) (ev_t rfl)) ?_
    refine WL.nil ?_
    refine WX.keep [(0, _), (1, _), (6, _), (7, _), (8, _), (9, _), (10, _), (11, _), (26, _)] ⟨rfl, rfl, rfl, rfl, rfl, rfl, rfl, rfl, rfl, trivial⟩ ?_
    refine WX.next ?_
    refine WC.cond rfl (ev_t rfl) (fun hc7 => ?_) (fun hc7 => ?_)
    · try (exfalso; first | (simp at hc7; done) | (simp only [decide_eq_true_eq, decide_eq_false_iff_not, Bool.not_eq_true', Bool.not_eq_false', Bool.not_eq_true, Bool.not_eq_false] at hc7; omega) | omega)
      all_goals
       try simp only [decide_eq_true_eq, decide_eq_false_iff_not, Bool.not_eq_true', Bool.not_eq_false', Bool.not_eq_true, Bool.not_eq_false, Option.isNone_none, Option.isNone_some, Option.isSome_none, Option.isSome_some, ne_eq, Decidable.not_not] at hc7
       have hil : i < ys.length := by omega
       obtain ⟨b2, off2, rfl, _⟩ := hR.open (by omega)
       obtain ⟨x, hxi⟩ : ∃ x, ys[i]? = some x := ⟨_, List.getElem?_eq_getElem hil⟩
       obtain ⟨hx64, hxs⟩ := hy x (List.mem_of_getElem? hxi)
       have hfs := fold_step (o := []) hxi
       rw [← hoe] at hfs
       refine WC.skip ?_
       refine WX.next ?_
       refine WC.seq ?_
       refine WC.block ?_
       refine WC.seq ?_
       refine WC.region ?_
       refine WL.val rfl rfl rfl rfl (r_move rfl (ev_t rfl)) ?_
       refine WL.val rfl rfl rfl rfl (r_move rfl (ev_t rfl)) ?_
       refine WL.val rfl rfl rfl rfl (r_indexAddr rfl (ev_t rfl) (ev_t rfl) elem_46 size_31 (by omega) (by omega)) ?_
       refine WL.val rfl rfl rfl rfl (r_load rfl (ev_t rfl) flat_31 (hR.cell (j := i) (u := Wd x) (show off2 + (i : Int).toNat * 1 = off2 + i by omega) (by rw [List.getElem?_map, hxi]; rfl))) ?_
       refine WL.val rfl rfl rfl rfl (r_assign rfl (ev_t rfl)) ?_
       refine WL.nil ?_
       refine WX.keep [(0, _), (1, _), (6, _), (7, _), (8, _), (9, _), (10, _), (11, _), (12, _)] ⟨rfl, rfl, rfl, rfl, rfl, rfl, rfl, rfl, rfl, trivial⟩ ?_
       refine WX.next ?_
       refine WC.seq ?_
       refine WC.region ?_
       refine WL.val rfl rfl rfl rfl (r_move rfl (ev_t rfl)) ?_
       refine WL.val rfl rfl rfl rfl (r_remN rfl (ev_t rfl) ev_c (by omega) (by omega)) ?_
       refine WL.val rfl rfl rfl rfl (r_eql rfl (ev_t rfl) ev_c) ?_
       refine WL.val rfl rfl rfl rfl (r_move rfl (ev_t rfl)) ?_
       refine WL.cases 36 rfl (fun hb10_3 => ?_) (fun hb10_3 => ?_)
       · try (exfalso; first | (simp at hb10_3; done) | (simp only [decide_eq_true_eq, decide_eq_false_iff_not, Bool.not_eq_true', Bool.not_eq_false', Bool.not_eq_true, Bool.not_eq_false] at hb10_3; omega) | omega)
         all_goals
          try simp only [decide_eq_true_eq, decide_eq_false_iff_not, Bool.not_eq_true', Bool.not_eq_false', Bool.not_eq_true, Bool.not_eq_false, Option.isNone_none, Option.isNone_some, Option.isSome_none, Option.isSome_some, ne_eq, Decidable.not_not] at hb10_3
          have hx0 : x % 2 = 0 := by omega
          have hxm : x / 2 ∈ st := by rcases hxs with h | h; omega; exact h
          have hxl := (hg.vd.in hxm).1
          refine WL.val rfl rfl rfl rfl (r_move rfl (ev_t rfl)) ?_
          refine WL.val rfl rfl rfl rfl (r_quoN rfl (ev_t rfl) ev_c (by omega) (by omega) (by simp only [inK]; omega)) ?_
          refine WL.val rfl rfl rfl rfl (r_move rfl (ev_t rfl)) ?_
          refine WL.val rfl rfl rfl rfl (r_lenSlice (ts := #[]) rfl (ev_t rfl) elem_46) ?_
          refine WL.val rfl rfl rfl rfl (r_convN rfl (ev_t rfl) some_3 int_31 (by simp only [inK]; omega)) ?_
          refine WL.val rfl rfl rfl rfl (r_lss rfl (ev_t rfl) (ev_t rfl)) ?_
          refine WL.val rfl rfl rfl rfl (r_pickT rfl (ev_t rfl) (ev_t rfl)) ?_
          refine WL.nil ?_
          refine WX.keep [(0, _), (1, _), (6, _), (7, _), (8, _), (9, _), (10, _), (11, _), (12, _), (43, _)] ⟨rfl, rfl, rfl, rfl, rfl, rfl, rfl, rfl, rfl, rfl, trivial⟩ ?_
          refine WX.next ?_
          refine WC.cond rfl (ev_t rfl) (fun hc10 => ?_) (fun hc10 => ?_)
          · try (exfalso; first | (simp at hc10; done) | (simp only [decide_eq_true_eq, decide_eq_false_iff_not, Bool.not_eq_true', Bool.not_eq_false', Bool.not_eq_true, Bool.not_eq_false] at hc10; omega) | omega)
            all_goals
             try simp only [decide_eq_true_eq, decide_eq_false_iff_not, Bool.not_eq_true', Bool.not_eq_false', Bool.not_eq_true, Bool.not_eq_false, Option.isNone_none, Option.isNone_some, Option.isSome_none, Option.isSome_some, ne_eq, Decidable.not_not] at hc10
             refine WC.region ?_
             refine WL.val rfl rfl rfl rfl (r_move rfl (ev_t rfl)) ?_
             refine WL.val rfl rfl rfl rfl (r_move rfl (ev_t rfl)) ?_
             refine WL.val rfl rfl rfl rfl (r_move rfl (ev_t rfl)) ?_
             refine WL.val rfl rfl rfl rfl (r_move rfl (ev_t rfl)) ?_
             refine WL.val rfl rfl rfl rfl (r_move rfl (ev_t rfl)) ?_
             refine WL.val rfl rfl rfl rfl (r_quoN rfl (ev_t rfl) ev_c (by omega) (by omega) (by simp only [inK]; omega)) ?_
             refine WL.val rfl rfl rfl rfl (r_convN rfl (ev_t rfl) some_31 int_3 (by simp only [inK]; omega)) ?_
             refine WL.cons (SO.call (come_ok (a := x / 2) hr (fun k hk => ⟨by have := hF k hk; have := hU.size; omega, fun h => by have := hF k hk; have := hGB k (.inl h); omega, fun h => by have := hF k hk; have := hGB k (.inr h); omega⟩) hg hl hO hxm (by omega) (by omega)) rfl body_48 ⟨(ev_t rfl), (ev_t rfl), (ev_t rfl), (ev_t rfl), (ev_t rfl), trivial⟩ rfl rfl rfl rfl ?_)
             rintro v w1 ⟨Go', Gp', vO', vP', rfl, hO', hGo', hGp', hu1⟩
             have hs1 := hu1.size
             replace hU := hU.trans hu1 (by (intro k hl hk; first | exact (show False from hk).elim | (have h2 := hGB k hk; omega) | (have h2 := (hGd k hk).1; omega) | (have h2 := (hMB k hk).1; omega) | (have h2 := (hTB k hk).1; omega) | (have h2 := hGv k hk; omega) | (simp only [At] at hk; omega)))
             replace hr := hr.upd hu1 (fun k hk hl hS => by have h1 := hF k hk; (have h2 := hGB k hS; omega))
             replace hR := hR.upd hu1 (fun k hk hl hS => by have h1 := hRl k hk; (have h2 := hGB k hS; omega))
             have hs9 := (hu1).size
             refine WL.val rfl rfl rfl rfl (r_move rfl (ev_t rfl)) ?_
             refine WL.val rfl rfl rfl rfl (r_extract rfl (ev_t rfl) rfl) ?_
             refine WL.val rfl rfl rfl rfl (r_extract rfl (ev_t rfl) rfl) ?_
             refine WL.val rfl rfl rfl rfl (r_extract rfl (ev_t rfl) rfl) ?_
             refine WL.val rfl rfl rfl rfl (r_assign rfl (ev_t rfl)) ?_
             refine WL.val rfl rfl rfl rfl (r_assign rfl (ev_t rfl)) ?_
             refine WL.val rfl rfl rfl rfl (r_assign rfl (ev_t rfl)) ?_
             refine WL.nil ?_
             refine WX.keep [(0, _), (1, _), (6, _), (7, _), (8, _), (9, _), (10, _), (11, _)] ⟨rfl, rfl, rfl, rfl, rfl, rfl, rfl, rfl, trivial⟩ ?_
             refine WX.blockNormal ?_
             refine WX.next ?_
             refine WC.region ?_
             refine WL.val rfl rfl rfl rfl (r_move rfl (ev_t rfl)) ?_
             refine WL.val rfl rfl rfl rfl (r_addN rfl (ev_t rfl) ev_c (by simp only [inK]; omega)) ?_
             refine WL.val rfl rfl rfl rfl (r_assign rfl (ev_t rfl)) ?_
             refine WL.nil ?_
             refine WX.keep [(0, _), (1, _), (6, _), (7, _), (8, _), (9, _), (10, _), (11, _)] ⟨rfl, rfl, rfl, rfl, rfl, rfl, rfl, rfl, trivial⟩ ?_
             refine WX.meet [(0, _), (1, _), (6, _), (7, _), (8, _), (9, _), (10, _), (11, _)] ⟨rfl, rfl, rfl, rfl, rfl, rfl, rfl, rfl, trivial⟩ ?_
             first
               | (refine ⟨ys.length - (i + 1), by omega, i + 1, come ord x, Go', Gp', vO', vP', by omega, rfl, hod.come (x := x) (.inr hxm), hfs.symm, ?_, ?_, hU, hr, hR, ?_⟩
                  · rw [show x = 2 * (x / 2) by omega]; exact hO'
                  · intro k hk
                    rcases hk with hk | hk
                    · rcases hGo' k hk with h | h
                      · exact hGB k (.inl h)
                      · omega
                    · rcases hGp' k hk with h | h
                      · exact hGB k (.inr h)
                      · omega
                  · rw [come_even (show x = 2 * (x / 2) by omega)]
                    rfl)
          · try (exfalso; first | (simp at hc10; done) | (simp only [decide_eq_true_eq, decide_eq_false_iff_not, Bool.not_eq_true', Bool.not_eq_false', Bool.not_eq_true, Bool.not_eq_false] at hc10; omega) | omega)
       · try (exfalso; first | (simp at hb10_3; done) | (simp only [decide_eq_true_eq, decide_eq_false_iff_not, Bool.not_eq_true', Bool.not_eq_false', Bool.not_eq_true, Bool.not_eq_false] at hb10_3; omega) | omega)
         all_goals
          try simp only [decide_eq_true_eq, decide_eq_false_iff_not, Bool.not_eq_true', Bool.not_eq_false', Bool.not_eq_true, Bool.not_eq_false, Option.isNone_none, Option.isNone_some, Option.isSome_none, Option.isSome_some, ne_eq, Decidable.not_not] at hb10_3
          refine WL.skip rfl rfl rfl ?_
          refine WL.skip rfl rfl rfl ?_
          refine WL.skip rfl rfl rfl ?_
          refine WL.skip rfl rfl rfl ?_
          refine WL.skip rfl rfl rfl ?_
          refine WL.skip rfl rfl rfl ?_
          refine WL.val rfl rfl rfl rfl (r_pickF rfl (ev_t rfl) ev_c) ?_
          refine WL.nil ?_
          refine WX.keep [(0, _), (1, _), (6, _), (7, _), (8, _), (9, _), (10, _), (11, _), (12, _), (43, _)] ⟨rfl, rfl, rfl, rfl, rfl, rfl, rfl, rfl, rfl, rfl, trivial⟩ ?_
          refine WX.next ?_
          refine WC.cond_false rfl (ev_t rfl) ?_
          refine WC.skip ?_
          refine WX.blockNormal ?_
          refine WX.next ?_
          refine WC.region ?_
          refine WL.val rfl rfl rfl rfl (r_move rfl (ev_t rfl)) ?_
          refine WL.val rfl rfl rfl rfl (r_addN rfl (ev_t rfl) ev_c (by simp only [inK]; omega)) ?_
          refine WL.val rfl rfl rfl rfl (r_assign rfl (ev_t rfl)) ?_
          refine WL.nil ?_
          refine WX.keep [(0, _), (1, _), (6, _), (7, _), (8, _), (9, _), (10, _), (11, _)] ⟨rfl, rfl, rfl, rfl, rfl, rfl, rfl, rfl, trivial⟩ ?_
          refine WX.meet [(0, _), (1, _), (6, _), (7, _), (8, _), (9, _), (10, _), (11, _)] ⟨rfl, rfl, rfl, rfl, rfl, rfl, rfl, rfl, trivial⟩ ?_
          first
            | (have hxo : x % 2 = 1 := by omega
               rw [come_odd hxo] at hfs
               exact ⟨ys.length - (i + 1), by omega, i + 1, ord, Go, Gp, vO, vP, by omega, rfl, hod, hfs.symm, hO, hGB, hU, hr, hR, rfl⟩)
    · try (exfalso; first | (simp at hc7; done) | (simp only [decide_eq_true_eq, decide_eq_false_iff_not, Bool.not_eq_true', Bool.not_eq_false', Bool.not_eq_true, Bool.not_eq_false] at hc7; omega) | omega)
      all_goals
       try simp only [decide_eq_true_eq, decide_eq_false_iff_not, Bool.not_eq_true', Bool.not_eq_false', Bool.not_eq_true, Bool.not_eq_false, Option.isNone_none, Option.isNone_some, Option.isSome_none, Option.isSome_some, ne_eq, Decidable.not_not] at hc7
       refine WC.exit ?_
       refine WX.thenExit ?_
       refine WX.thenExit ?_
       refine WX.blockHere ?_
       refine WX.next ?_
       refine WC.seq ?_
       refine WC.seq ?_
       refine WC.region ?_
       refine WL.val rfl rfl rfl rfl (r_assign rfl ev_c) ?_
       refine WL.nil ?_
       refine WX.keep [(0, _), (1, _), (6, _), (7, _), (8, _), (9, _), (10, _), (13, _)] ⟨rfl, rfl, rfl, rfl, rfl, rfl, rfl, rfl, trivial⟩ ?_
       refine WX.next ?_
       refine WC.block ?_
       -- loop 2: live [0, 1, 6, 7, 8, 9, 10, 13]
       refine WC.keep [(0, _), (1, _), (6, _), (7, _), (8, _), (9, _), (10, _), (13, _)] ⟨rfl, rfl, rfl, rfl, rfl, rfl, rfl, rfl, trivial⟩ ?_
       refine WC.loop (fun qq E wC => ∃ (k : Nat) (ord : List Nat) (Go Gp : Nat → Prop) (vO vP : Value), k ≤ ord.length ∧ qq = l.length - k ∧ Od st ord ∧ (∀ fin, Bfs l k ord fin → Bfs l 0 (ys.foldl come []) fin) ∧ OS wC Go Gp l ord vO vP ∧ (∀ k, (Go k ∨ Gp k) → B ≤ k) ∧ Upd No w wC ∧ Rd wC F (.slice A l.length c) l.length 1 (l.map Wd) ∧ Rd wC R (.slice A2 ys.length c2) ys.length 1 (ys.map Wd) ∧ E = [(0, .slice A l.length c), (1, .slice A2 ys.length c2), (6, vO), (7, vP), (8, .int .u64 ((tot (szAt l) ord : Nat) : Int)), (9, .slice none 0 0), (10, .slice none 0 0), (13, .int .i64 (k : Int))]) (l.length) ?_ ?_
       · obtain rfl : i = ys.length := by omega
         rw [List.take_length] at hoe
         exact ⟨0, ord, Go, Gp, _, _, by omega, by omega, hod, fun fin h => hoe ▸ h, hO, hGB, hU, hr, hR, rfl⟩
       · clear hU hr hR hO hoe hod hGB hUs hot hon
         clear ord Go Gp vO vP hi
         rintro qq E wC ⟨k, ord, Go, Gp, vO, vP, hk, rfl, hod, hB2, hO, hGB, hU, hr, hR, rfl⟩
         have hUs := hU.size
         have hot := hod.tot hg.vd
         have hon := hod.len hg.vd
         obtain ⟨AO, cO, rfl, hcO⟩ := hO.o.form
         obtain ⟨AP, cP, rfl, hcP⟩ := hO.p.form
         have hGl : ∀ k, (Go k ∨ Gp k) → k < wC.heap.size := fun k h => by rcases h with h | h; exact (hO.d k h).2; exact hO.e k h
         refine WC.seq ?_
         refine WC.seq ?_
         refine WC.region ?_
         refine WL.val rfl rfl rfl rfl (r_move rfl (ev_t rfl)) ?_
         refine WL.val rfl rfl rfl rfl (r_move rfl (ev_t rfl)) ?_
         refine WL.val rfl rfl rfl rfl (r_lenSlice (ts := #[]) rfl (ev_t rfl) elem_94) ?_
         refine WL.val rfl rfl rfl rfl (r_lss rfl (ev_t rfl) (ev_t rfl)) ?_
         refine WL.nil ?_
         refine WX.keep [(0, _), (1, _), (6, _), (7, _), (8, _), (9, _), (10, _), (13, _), (59, _)] ⟨rfl, rfl, rfl, rfl, rfl, rfl, rfl, rfl, rfl, trivial⟩ ?_
         refine WX.next ?_
         refine WC.cond rfl (ev_t rfl) (fun hc13 => ?_) (fun hc13 => ?_)
         · try (exfalso; first | (simp at hc13; done) | (simp only [decide_eq_true_eq, decide_eq_false_iff_not, Bool.not_eq_true', Bool.not_eq_false', Bool.not_eq_true, Bool.not_eq_false] at hc13; omega) | omega)
           all_goals
            try simp only [decide_eq_true_eq, decide_eq_false_iff_not, Bool.not_eq_true', Bool.not_eq_false', Bool.not_eq_true, Bool.not_eq_false, Option.isNone_none, Option.isNone_some, Option.isSome_none, Option.isSome_some, ne_eq, Decidable.not_not] at hc13
            have hkl : k < ord.length := by omega
            obtain ⟨a, hka⟩ : ∃ a, ord[k]? = some a := ⟨_, List.getElem?_eq_getElem hkl⟩
            have has := hod.sub a (List.mem_of_getElem? hka)
            obtain ⟨hal, hafit⟩ := hg.vd.in has
            have hval : validAt l a := ⟨hal, (hg.kd a has).1, (hg.kd a has).2, hg.n8 has, hafit⟩
            have hpl := parts_le a hl
            have hkL : k < 1000 := by omega
            have hoR := hO.o.rd (by omega)
            obtain ⟨b1, off1, rfl, _⟩ := hoR.open (by omega)
            refine WC.skip ?_
            refine WX.next ?_
            refine WC.seq ?_
            refine WC.block ?_
            refine WC.seq ?_
            refine WC.region ?_
            refine WL.val rfl rfl rfl rfl (r_move rfl (ev_t rfl)) ?_
            refine WL.val rfl rfl rfl rfl (r_move rfl (ev_t rfl)) ?_
            refine WL.val rfl rfl rfl rfl (r_move rfl (ev_t rfl)) ?_
            refine WL.val rfl rfl rfl rfl (r_indexAddr rfl (ev_t rfl) (ev_t rfl) elem_94 size_3 (by omega) (by omega)) ?_
            refine WL.val rfl rfl rfl rfl (r_load rfl (ev_t rfl) flat_3 (hoR.cell (j := k) (u := In a) (show off1 + (k : Int).toNat * 1 = off1 + k by omega) (by rw [List.getElem?_map, hka]; rfl))) ?_
            refine WL.cons (SO.call (at9_ok hr (by omega) (by omega) (fun k hk => by have := hF k hk; have := hU.size; omega) hw) rfl body_28 ⟨(ev_t rfl), (ev_t rfl), trivial⟩ rfl rfl rfl rfl ?_)
            rintro v w2 ⟨kd, n9, vP9, ps, s9, rfl, hP, hu2, hres⟩
            obtain ⟨A9, c9, rfl, _⟩ := hP.form
            have hs2 := hu2.size
            replace hU := hU.trans hu2 (by exact (fun _ _ h => h))
            replace hr := hr.upd hu2 (fun k hk hl hS => by have h1 := hF k hk; exact (show False from hS).elim)
            replace hR := hR.upd hu2 (fun k hk hl hS => by have h1 := hRl k hk; exact (show False from hS).elim)
            replace hO := hO.upd hu2 (fun k hk hl hS => by exact (show False from hS).elim)
            have hv9 : kd = l.getD a 0 % 256 ∧ ps = parts l a ∧ s9 = textB l a := by
              rcases hres with ⟨h, _⟩ | ⟨h1, _, h2, h3, h4⟩
              · exact absurd hval h
              · exact ⟨h2, h3, h4⟩
            obtain ⟨rfl, rfl, rfl⟩ := hv9
            have hPr := hP.rd (by omega)
            obtain ⟨Gq, hGq⟩ : ∃ G, G = New wC w2 := ⟨_, rfl⟩
            rw [← hGq] at hPr
            have hGqB : ∀ k, Gq k → wC.heap.size ≤ k ∧ k < (w2).heap.size := by subst hGq; exact fun k h => h
            clear hP
            refine WL.val rfl rfl rfl rfl (r_move rfl (ev_t rfl)) ?_
            refine WL.val rfl rfl rfl rfl (r_extract rfl (ev_t rfl) rfl) ?_
            refine WL.val rfl rfl rfl rfl (r_extract rfl (ev_t rfl) rfl) ?_
            obtain ⟨bO, hbOe⟩ : ∃ g, g = w2.heap.size := ⟨_, rfl⟩
            have hGqO : ∀ k, Gq k → k < bO := fun k h => by rw [hbOe]; exact (hGqB k h).2
            refine WL.cons (SO.alloc rfl rfl rfl rfl (r_alloc rfl zero_56) ?_)
            intro w3 hu3 hB3 hz3
            have hs3 := hu3.size
            replace hU := hU.trans hu3 (by exact (fun _ _ h => h))
            replace hr := hr.upd hu3 (fun k hk hl hS => by have h1 := hF k hk; exact (show False from hS).elim)
            replace hR := hR.upd hu3 (fun k hk hl hS => by have h1 := hRl k hk; exact (show False from hS).elim)
            replace hO := hO.upd hu3 (fun k hk hl hS => by exact (show False from hS).elim)
            replace hPr := hPr.upd hu3 (fun k hk hl hS => by exact (show False from hS).elim)
            refine WL.cons (SO.storeAll (us := [_, _, _]) rfl (ev_t rfl) (ev_t rfl) size_56 hB3 rfl rfl rfl rfl rfl ?_)
            intro w4 hu4 hB3 hz4
            have hs4 := hu4.size
            replace hU := hU.trans hu4 (by (intro k hl hk; (try simp only [At, New, Grow, From, No] at hk ⊢); omega))
            replace hr := hr.upd hu4 (fun k hk hl hS => by have h1 := hF k hk; (simp only [At] at hS; omega))
            replace hR := hR.upd hu4 (fun k hk hl hS => by have h1 := hRl k hk; (simp only [At] at hS; omega))
            replace hO := hO.upd hu4 (fun k hk hl hS => by (simp only [At] at hS; have := hGl k hk; omega))
            replace hPr := hPr.upd hu4 (fun k hk hl hS => by (simp only [At] at hS; have := (hGqB k hk).2; omega))
            refine WL.val rfl rfl rfl rfl (r_assign rfl (ev_t rfl)) ?_
            refine WL.nil ?_
            refine WX.keep [(0, _), (1, _), (6, _), (7, _), (8, _), (9, _), (10, _), (13, _), (14, _)] ⟨rfl, rfl, rfl, rfl, rfl, rfl, rfl, rfl, rfl, trivial⟩ ?_
            have hbO := hB3
            rw [← hbOe] at hbO ⊢
            refine WX.next ?_
            refine WC.seq ?_
            refine WC.region ?_
            refine WL.val rfl rfl rfl rfl (r_assign rfl ev_c) ?_
            refine WL.nil ?_
            refine WX.keep [(0, _), (1, _), (6, _), (7, _), (8, _), (9, _), (10, _), (13, _), (14, _), (16, _)] ⟨rfl, rfl, rfl, rfl, rfl, rfl, rfl, rfl, rfl, rfl, trivial⟩ ?_
            refine WX.next ?_
            refine WC.block ?_
            -- loop 3: live [0, 1, 6, 7, 8, 9, 10, 13, 14, 16]
            refine WC.keep [(0, _), (1, _), (6, _), (7, _), (8, _), (9, _), (10, _), (13, _), (14, _), (16, _)] ⟨rfl, rfl, rfl, rfl, rfl, rfl, rfl, rfl, rfl, rfl, trivial⟩ ?_
            refine WC.loop (fun qq E wD => ∃ (j : Nat) (ord1 : List Nat) (Go Gp : Nat → Prop) (vO vP : Value), j ≤ (parts l a).length ∧ qq = (parts l a).length - j ∧ Od st ord1 ∧ ord1 = ((parts l a).take j).foldl come ord ∧ OS wD Go Gp l ord1 vO vP ∧ (∀ k, (Go k ∨ Gp k) → B ≤ k ∧ ¬ Gq k ∧ k ≠ bO) ∧ Upd No w wD ∧ bO < wD.heap.size ∧ Rd wD F (.slice A l.length c) l.length 1 (l.map Wd) ∧ Rd wD R (.slice A2 ys.length c2) ys.length 1 (ys.map Wd) ∧ Rd wD Gq (.slice A9 (parts l a).length c9) (parts l a).length 1 ((parts l a).map Wd) ∧ Blk wD bO #[.int .u8 ((l.getD a 0 % 256 : Nat) : Int), .slice A9 (parts l a).length c9, .string ⟨(textB l a).toArray⟩] 56 ∧ E = [(0, .slice A l.length c), (1, .slice A2 ys.length c2), (6, vO), (7, vP), (8, .int .u64 ((tot (szAt l) ord1 : Nat) : Int)), (9, .slice none 0 0), (10, .slice none 0 0), (13, .int .i64 (k : Int)), (14, .pointer (some ⟨bO, 0, none⟩)), (16, .int .i64 (j : Int))]) ((parts l a).length) ?_ ?_
            · exact ⟨0, ord, Go, Gp, _, _, by omega, by omega, hod, rfl, hO, fun k h => ⟨hGB k h, fun h2 => by have := hGl k h; have := (hGqB k h2).1; omega, fun h2 => by have := hGl k h; have := hU.size; omega⟩, hU, hbO.lt, hr, hR, hPr, hbO, rfl⟩
            · clear hU hr hR hO hPr hbO hGB hGl hoR hUs hot hon
              clear hcO hcP
              rintro qq E wD ⟨j, ord1, Go, Gp, vO, vP, hj, rfl, hod1, hoe, hO, hGd, hU, hbOl, hr, hR, hPr, hbO, rfl⟩
              have hUs := hU.size
              have hot := hod1.tot hg.vd
              have hon := hod1.len hg.vd
              have hGl : ∀ k, (Go k ∨ Gp k) → k < wD.heap.size := fun k h => by rcases h with h | h; exact (hO.d k h).2; exact hO.e k h
              refine WC.seq ?_
              refine WC.seq ?_
              refine WC.region ?_
              refine WL.val rfl rfl rfl rfl (r_move rfl (ev_t rfl)) ?_
              refine WL.val rfl rfl rfl rfl (r_field0 rfl (ev_t rfl) fld_56_1) ?_
              refine WL.val rfl rfl rfl rfl (r_load rfl (ev_t rfl) flat_46 (Blk.cell hbO rfl)) ?_
              refine WL.val rfl rfl rfl rfl (r_lenSlice (ts := #[]) rfl (ev_t rfl) elem_46) ?_
              refine WL.val rfl rfl rfl rfl (r_lss rfl (ev_t rfl) (ev_t rfl)) ?_
              refine WL.nil ?_
              refine WX.keep [(0, _), (1, _), (6, _), (7, _), (8, _), (9, _), (10, _), (13, _), (14, _), (16, _), (75, _)] ⟨rfl, rfl, rfl, rfl, rfl, rfl, rfl, rfl, rfl, rfl, rfl, trivial⟩ ?_
              refine WX.next ?_
              refine WC.cond rfl (ev_t rfl) (fun hc17 => ?_) (fun hc17 => ?_)
              · try (exfalso; first | (simp at hc17; done) | (simp only [decide_eq_true_eq, decide_eq_false_iff_not, Bool.not_eq_true', Bool.not_eq_false', Bool.not_eq_true, Bool.not_eq_false] at hc17; omega) | omega)
                all_goals
                 try simp only [decide_eq_true_eq, decide_eq_false_iff_not, Bool.not_eq_true', Bool.not_eq_false', Bool.not_eq_true, Bool.not_eq_false, Option.isNone_none, Option.isNone_some, Option.isSome_none, Option.isSome_some, ne_eq, Decidable.not_not] at hc17
                 have hjl : j < (parts l a).length := by omega
                 obtain ⟨y, hyj⟩ : ∃ y, (parts l a)[j]? = some y := ⟨_, List.getElem?_eq_getElem hjl⟩
                 have hym := List.mem_of_getElem? hyj
                 have hys := hg.vd.refs a has y hym
                 have hy64 := parts_lt hg y hym
                 have hfs := fold_step (o := ord) hyj
                 rw [← hoe] at hfs
                 obtain ⟨b3, off3, rfl, _⟩ := hPr.open (by omega)
                 refine WC.skip ?_
                 refine WX.next ?_
                 refine WC.seq ?_
                 refine WC.block ?_
                 refine WC.seq ?_
                 refine WC.region ?_
                 refine WL.val rfl rfl rfl rfl (r_field0 rfl (ev_t rfl) fld_56_1) ?_
                 refine WL.val rfl rfl rfl rfl (r_load rfl (ev_t rfl) flat_46 (Blk.cell hbO rfl)) ?_
                 refine WL.val rfl rfl rfl rfl (r_move rfl (ev_t rfl)) ?_
                 refine WL.val rfl rfl rfl rfl (r_indexAddr rfl (ev_t rfl) (ev_t rfl) elem_46 size_31 (by omega) (by omega)) ?_
                 refine WL.val rfl rfl rfl rfl (r_load rfl (ev_t rfl) flat_31 (hPr.cell (j := j) (u := Wd y) (show off3 + (j : Int).toNat * 1 = off3 + j by omega) (by rw [List.getElem?_map, hyj]; rfl))) ?_
                 refine WL.val rfl rfl rfl rfl (r_remN rfl (ev_t rfl) ev_c (by omega) (by omega)) ?_
                 refine WL.val rfl rfl rfl rfl (r_eql rfl (ev_t rfl) ev_c) ?_
                 refine WL.nil ?_
                 refine WX.keep [(0, _), (1, _), (6, _), (7, _), (8, _), (9, _), (10, _), (13, _), (14, _), (16, _), (84, _)] ⟨rfl, rfl, rfl, rfl, rfl, rfl, rfl, rfl, rfl, rfl, rfl, trivial⟩ ?_
                 refine WX.next ?_
                 refine WC.cond rfl (ev_t rfl) (fun hc19 => ?_) (fun hc19 => ?_)
                 · try (exfalso; first | (simp at hc19; done) | (simp only [decide_eq_true_eq, decide_eq_false_iff_not, Bool.not_eq_true', Bool.not_eq_false', Bool.not_eq_true, Bool.not_eq_false] at hc19; omega) | omega)
                   all_goals
                    try simp only [decide_eq_true_eq, decide_eq_false_iff_not, Bool.not_eq_true', Bool.not_eq_false', Bool.not_eq_true, Bool.not_eq_false, Option.isNone_none, Option.isNone_some, Option.isSome_none, Option.isSome_some, ne_eq, Decidable.not_not] at hc19
                    have hy0 : y % 2 = 0 := by omega
                    have hym2 : y / 2 ∈ st := by rcases hys with h | h; omega; exact h
                    have hyl2 := (hg.vd.in hym2).1
                    refine WC.region ?_
                    refine WL.val rfl rfl rfl rfl (r_move rfl (ev_t rfl)) ?_
                    refine WL.val rfl rfl rfl rfl (r_move rfl (ev_t rfl)) ?_
                    refine WL.val rfl rfl rfl rfl (r_move rfl (ev_t rfl)) ?_
                    refine WL.val rfl rfl rfl rfl (r_move rfl (ev_t rfl)) ?_
                    refine WL.val rfl rfl rfl rfl (r_field0 rfl (ev_t rfl) fld_56_1) ?_
                    refine WL.val rfl rfl rfl rfl (r_load rfl (ev_t rfl) flat_46 (Blk.cell hbO rfl)) ?_
                    refine WL.val rfl rfl rfl rfl (r_move rfl (ev_t rfl)) ?_
                    refine WL.val rfl rfl rfl rfl (r_indexAddr rfl (ev_t rfl) (ev_t rfl) elem_46 size_31 (by omega) (by omega)) ?_
                    refine WL.val rfl rfl rfl rfl (r_load rfl (ev_t rfl) flat_31 (hPr.cell (j := j) (u := Wd y) (show off3 + (j : Int).toNat * 1 = off3 + j by omega) (by rw [List.getElem?_map, hyj]; rfl))) ?_
                    refine WL.val rfl rfl rfl rfl (r_quoN rfl (ev_t rfl) ev_c (by omega) (by omega) (by simp only [inK]; omega)) ?_
                    refine WL.val rfl rfl rfl rfl (r_convN rfl (ev_t rfl) some_31 int_3 (by simp only [inK]; omega)) ?_
                    refine WL.cons (SO.call (come_ok (a := y / 2) hr (fun k hk => ⟨by have := hF k hk; have := hU.size; omega, fun h => by have := hF k hk; have := (hGd k (.inl h)).1; omega, fun h => by have := hF k hk; have := (hGd k (.inr h)).1; omega⟩) hg hl hO hym2 (by omega) (by omega)) rfl body_48 ⟨(ev_t rfl), (ev_t rfl), (ev_t rfl), (ev_t rfl), (ev_t rfl), trivial⟩ rfl rfl rfl rfl ?_)
                    rintro v w5 ⟨Go', Gp', vO', vP', rfl, hO', hGo', hGp', hu5⟩
                    have hs5 := hu5.size
                    replace hU := hU.trans hu5 (by (intro k hl hk; first | exact (show False from hk).elim | (have h2 := hGB k hk; omega) | (have h2 := (hGd k hk).1; omega) | (have h2 := (hMB k hk).1; omega) | (have h2 := (hTB k hk).1; omega) | (have h2 := hGv k hk; omega) | (simp only [At] at hk; omega)))
                    replace hr := hr.upd hu5 (fun k hk hl hS => by have h1 := hF k hk; (have h2 := (hGd k hS).1; omega))
                    replace hR := hR.upd hu5 (fun k hk hl hS => by have h1 := hRl k hk; (have h2 := (hGd k hS).1; omega))
                    replace hPr := hPr.upd hu5 (fun k hk hl hS => by exact (hGd k hS).2.1 hk)
                    replace hbO := hbO.upd hu5 (fun hS => by exact (hGd bO hS).2.2 rfl)
                    have hs9 := (hu5).size
                    refine WL.val rfl rfl rfl rfl (r_move rfl (ev_t rfl)) ?_
                    refine WL.val rfl rfl rfl rfl (r_extract rfl (ev_t rfl) rfl) ?_
                    refine WL.val rfl rfl rfl rfl (r_extract rfl (ev_t rfl) rfl) ?_
                    refine WL.val rfl rfl rfl rfl (r_extract rfl (ev_t rfl) rfl) ?_
                    refine WL.val rfl rfl rfl rfl (r_assign rfl (ev_t rfl)) ?_
                    refine WL.val rfl rfl rfl rfl (r_assign rfl (ev_t rfl)) ?_
                    refine WL.val rfl rfl rfl rfl (r_assign rfl (ev_t rfl)) ?_
                    refine WL.nil ?_
                    refine WX.keep [(0, _), (1, _), (6, _), (7, _), (8, _), (9, _), (10, _), (13, _), (14, _), (16, _)] ⟨rfl, rfl, rfl, rfl, rfl, rfl, rfl, rfl, rfl, rfl, trivial⟩ ?_
                    refine WX.blockNormal ?_
                    refine WX.next ?_
                    refine WC.region ?_
                    refine WL.val rfl rfl rfl rfl (r_move rfl (ev_t rfl)) ?_
                    refine WL.val rfl rfl rfl rfl (r_addN rfl (ev_t rfl) ev_c (by simp only [inK]; omega)) ?_
                    refine WL.val rfl rfl rfl rfl (r_assign rfl (ev_t rfl)) ?_
                    refine WL.nil ?_
                    refine WX.keep [(0, _), (1, _), (6, _), (7, _), (8, _), (9, _), (10, _), (13, _), (14, _), (16, _)] ⟨rfl, rfl, rfl, rfl, rfl, rfl, rfl, rfl, rfl, rfl, trivial⟩ ?_
                    refine WX.meet [(0, _), (1, _), (6, _), (7, _), (8, _), (9, _), (10, _), (13, _), (14, _), (16, _)] ⟨rfl, rfl, rfl, rfl, rfl, rfl, rfl, rfl, rfl, rfl, trivial⟩ ?_
                    first
                      | (refine ⟨(parts l a).length - (j + 1), by omega, j + 1, come ord1 y, Go', Gp', vO', vP', by omega, rfl, hod1.come (x := y) (.inr hym2), hfs.symm, ?_, ?_, hU, by omega, hr, hR, hPr, hbO, ?_⟩
                         · rw [show y = 2 * (y / 2) by omega]; exact hO'
                         · have hGqs : ∀ k, Gq k → k < bO := hGqO
                           intro k hk
                           rcases hk with hk | hk
                           · rcases hGo' k hk with h | h
                             · exact hGd k (.inl h)
                             · exact ⟨by omega, fun h2 => by have := hGqs k h2; omega, by omega⟩
                           · rcases hGp' k hk with h | h
                             · exact hGd k (.inr h)
                             · exact ⟨by omega, fun h2 => by have := hGqs k h2; omega, by omega⟩
                         · rw [come_even (show y = 2 * (y / 2) by omega)]
                           rfl)
                 · try (exfalso; first | (simp at hc19; done) | (simp only [decide_eq_true_eq, decide_eq_false_iff_not, Bool.not_eq_true', Bool.not_eq_false', Bool.not_eq_true, Bool.not_eq_false] at hc19; omega) | omega)
                   all_goals
                    try simp only [decide_eq_true_eq, decide_eq_false_iff_not, Bool.not_eq_true', Bool.not_eq_false', Bool.not_eq_true, Bool.not_eq_false, Option.isNone_none, Option.isNone_some, Option.isSome_none, Option.isSome_some, ne_eq, Decidable.not_not] at hc19
                    refine WC.skip ?_
                    refine WX.blockNormal ?_
                    refine WX.next ?_
                    refine WC.region ?_
                    refine WL.val rfl rfl rfl rfl (r_move rfl (ev_t rfl)) ?_
                    refine WL.val rfl rfl rfl rfl (r_addN rfl (ev_t rfl) ev_c (by simp only [inK]; omega)) ?_
                    refine WL.val rfl rfl rfl rfl (r_assign rfl (ev_t rfl)) ?_
                    refine WL.nil ?_
                    refine WX.keep [(0, _), (1, _), (6, _), (7, _), (8, _), (9, _), (10, _), (13, _), (14, _), (16, _)] ⟨rfl, rfl, rfl, rfl, rfl, rfl, rfl, rfl, rfl, rfl, trivial⟩ ?_
                    refine WX.meet [(0, _), (1, _), (6, _), (7, _), (8, _), (9, _), (10, _), (13, _), (14, _), (16, _)] ⟨rfl, rfl, rfl, rfl, rfl, rfl, rfl, rfl, rfl, rfl, trivial⟩ ?_
                    first
                      | (have hyo : y % 2 = 1 := by omega
                         rw [come_odd hyo] at hfs
                         exact ⟨(parts l a).length - (j + 1), by omega, j + 1, ord1, Go, Gp, vO, vP, by omega, rfl, hod1, hfs.symm, hO, hGd, hU, hbOl, hr, hR, hPr, hbO, rfl⟩)
              · try (exfalso; first | (simp at hc17; done) | (simp only [decide_eq_true_eq, decide_eq_false_iff_not, Bool.not_eq_true', Bool.not_eq_false', Bool.not_eq_true, Bool.not_eq_false] at hc17; omega) | omega)
                all_goals
                 try simp only [decide_eq_true_eq, decide_eq_false_iff_not, Bool.not_eq_true', Bool.not_eq_false', Bool.not_eq_true, Bool.not_eq_false, Option.isNone_none, Option.isNone_some, Option.isSome_none, Option.isSome_some, ne_eq, Decidable.not_not] at hc17
                 refine WC.exit ?_
                 refine WX.thenExit ?_
                 refine WX.thenExit ?_
                 refine WX.blockHere ?_
                 refine WX.blockNormal ?_
                 refine WX.next ?_
                 refine WC.region ?_
                 refine WL.val rfl rfl rfl rfl (r_move rfl (ev_t rfl)) ?_
                 refine WL.val rfl rfl rfl rfl (r_addN rfl (ev_t rfl) ev_c (by simp only [inK]; omega)) ?_
                 refine WL.val rfl rfl rfl rfl (r_assign rfl (ev_t rfl)) ?_
                 refine WL.nil ?_
                 refine WX.keep [(0, _), (1, _), (6, _), (7, _), (8, _), (9, _), (10, _), (13, _)] ⟨rfl, rfl, rfl, rfl, rfl, rfl, rfl, rfl, trivial⟩ ?_
                 refine WX.meet [(0, _), (1, _), (6, _), (7, _), (8, _), (9, _), (10, _), (13, _)] ⟨rfl, rfl, rfl, rfl, rfl, rfl, rfl, rfl, trivial⟩ ?_
                 obtain rfl : j = (parts l a).length := by omega
                 rw [List.take_length] at hoe
                 obtain ⟨r1, hr1⟩ := come_fold_pre (parts l a) ord
                 have hlen : ord.length ≤ ord1.length := by rw [hoe, hr1, List.length_append]; omega
                 have hkl1 : k + 1 ≤ ord1.length := by omega
                 exact ⟨l.length - (k + 1), by omega, k + 1, ord1, Go, Gp, vO, vP, hkl1, rfl, hod1, fun fin h => hB2 fin (Bfs.step hka (hoe ▸ h)), hO, fun k h => (hGd k h).1, hU, hr, hR, rfl⟩
         · try (exfalso; first | (simp at hc13; done) | (simp only [decide_eq_true_eq, decide_eq_false_iff_not, Bool.not_eq_true', Bool.not_eq_false', Bool.not_eq_true, Bool.not_eq_false] at hc13; omega) | omega)
           all_goals
            try simp only [decide_eq_true_eq, decide_eq_false_iff_not, Bool.not_eq_true', Bool.not_eq_false', Bool.not_eq_true, Bool.not_eq_false, Option.isNone_none, Option.isNone_some, Option.isSome_none, Option.isSome_some, ne_eq, Decidable.not_not] at hc13
            refine WC.exit ?_
            refine WX.thenExit ?_
            refine WX.thenExit ?_
            refine WX.blockHere ?_
            refine WX.next ?_
            refine WC.seq ?_
            refine WC.seq ?_
            obtain rfl : k = ord.length := by omega
            have hbf := hB2 ord (Bfs.done (Nat.le_refl _))
            have hob : ∀ b ∈ ord, b ≤ 1000000 := fun b hb => by have := (hg.vd.in (hod.sub b hb)).1; omega
            refine WC.region ?_
            refine WL.val rfl rfl rfl rfl (r_assign rfl ev_c) ?_
            refine WL.nil ?_
            refine WX.keep [(0, _), (1, _), (6, _), (7, _), (9, _), (10, _), (17, _)] ⟨rfl, rfl, rfl, rfl, rfl, rfl, rfl, trivial⟩ ?_
            refine WX.next ?_
            refine WC.block ?_
            -- loop 4: live [0, 1, 6, 7, 9, 10, 17]
            refine WC.keep [(0, _), (1, _), (6, _), (7, _), (9, _), (10, _), (17, _)] ⟨rfl, rfl, rfl, rfl, rfl, rfl, rfl, trivial⟩ ?_
            refine WC.loop (fun qq E wE => ∃ (k : Nat) (Gm : Nat → Prop) (vm : Value), k ≤ ord.length ∧ qq = ord.length - k ∧ OS wE Go Gp l ord (.slice AO ord.length cO) (.slice AP ord.length cP) ∧ Own wE Gm 31 1 vm ((ord.take k).flatMap (objC l ord)).length (((ord.take k).flatMap (objC l ord)).map Wd) ∧ (∀ k, Gm k → B ≤ k ∧ ¬ Go k ∧ ¬ Gp k ∧ k < wE.heap.size) ∧ Upd No w wE ∧ Rd wE F (.slice A l.length c) l.length 1 (l.map Wd) ∧ Rd wE R (.slice A2 ys.length c2) ys.length 1 (ys.map Wd) ∧ E = [(0, .slice A l.length c), (1, .slice A2 ys.length c2), (6, .slice AO ord.length cO), (7, .slice AP ord.length cP), (9, vm), (10, .slice none 0 0), (17, .int .i64 (k : Int))]) (ord.length) ?_ ?_
            · exact ⟨0, No, _, by omega, by omega, hO, Own.nil _ _ _ _, fun k h => h.elim, hU, hr, hR, rfl⟩
            · clear hU hr hR hO hUs hGl
              rintro qq E wE ⟨k, Gm, vm, hk4, rfl, hO, hM, hMB, hU, hr, hR, rfl⟩
              have hUs := hU.size
              have hGl : ∀ k, (Go k ∨ Gp k) → k < wE.heap.size := fun k h => by rcases h with h | h; exact (hO.d k h).2; exact hO.e k h
              have hol : ((ord.take k).flatMap (objC l ord)).length ≤ 1000 := by
                rw [out_len hg (fun a ha => hod.sub a (List.mem_of_mem_take ha))]
                have := tot_take_le l ord k
                omega
              refine WC.seq ?_
              refine WC.seq ?_
              refine WC.region ?_
              refine WL.val rfl rfl rfl rfl (r_move rfl (ev_t rfl)) ?_
              refine WL.val rfl rfl rfl rfl (r_move rfl (ev_t rfl)) ?_
              refine WL.val rfl rfl rfl rfl (r_lenSlice (ts := #[]) rfl (ev_t rfl) elem_94) ?_
              refine WL.val rfl rfl rfl rfl (r_lss rfl (ev_t rfl) (ev_t rfl)) ?_
              refine WL.nil ?_
              refine WX.keep [(0, _), (1, _), (6, _), (7, _), (9, _), (10, _), (17, _), (104, _)] ⟨rfl, rfl, rfl, rfl, rfl, rfl, rfl, rfl, trivial⟩ ?_
              refine WX.next ?_
              refine WC.cond rfl (ev_t rfl) (fun hc22 => ?_) (fun hc22 => ?_)
              · try (exfalso; first | (simp at hc22; done) | (simp only [decide_eq_true_eq, decide_eq_false_iff_not, Bool.not_eq_true', Bool.not_eq_false', Bool.not_eq_true, Bool.not_eq_false] at hc22; omega) | omega)
                all_goals
                 try simp only [decide_eq_true_eq, decide_eq_false_iff_not, Bool.not_eq_true', Bool.not_eq_false', Bool.not_eq_true, Bool.not_eq_false, Option.isNone_none, Option.isNone_some, Option.isSome_none, Option.isSome_some, ne_eq, Decidable.not_not] at hc22
                 have hkl : k < ord.length := by omega
                 obtain ⟨a, hka⟩ : ∃ a, ord[k]? = some a := ⟨_, List.getElem?_eq_getElem hkl⟩
                 have has := hod.sub a (List.mem_of_getElem? hka)
                 obtain ⟨hal, hafit⟩ := hg.vd.in has
                 have hval : validAt l a := ⟨hal, (hg.kd a has).1, (hg.kd a has).2, hg.n8 has, hafit⟩
                 have hpl := parts_le a hl
                 have htl := textB_le hg has
                 have hkL : k < 1000 := by omega
                 have hoR := hO.o.rd (by omega)
                 obtain ⟨b1, off1, rfl, _⟩ := hoR.open (by omega)
                 refine WC.skip ?_
                 refine WX.next ?_
                 refine WC.seq ?_
                 refine WC.block ?_
                 refine WC.seq ?_
                 refine WC.region ?_
                 refine WL.val rfl rfl rfl rfl (r_move rfl (ev_t rfl)) ?_
                 refine WL.val rfl rfl rfl rfl (r_move rfl (ev_t rfl)) ?_
                 refine WL.val rfl rfl rfl rfl (r_move rfl (ev_t rfl)) ?_
                 refine WL.val rfl rfl rfl rfl (r_indexAddr rfl (ev_t rfl) (ev_t rfl) elem_94 size_3 (by omega) (by omega)) ?_
                 refine WL.val rfl rfl rfl rfl (r_load rfl (ev_t rfl) flat_3 (hoR.cell (j := k) (u := In a) (show off1 + (k : Int).toNat * 1 = off1 + k by omega) (by rw [List.getElem?_map, hka]; rfl))) ?_
                 refine WL.cons (SO.call (at9_ok hr (by omega) (by omega) (fun k hk => by have := hF k hk; have := hU.size; omega) hw) rfl body_28 ⟨(ev_t rfl), (ev_t rfl), trivial⟩ rfl rfl rfl rfl ?_)
                 rintro v w6 ⟨kd, n9, vP9, ps, s9, rfl, hP, hu6, hres⟩
                 obtain ⟨A9, c9, rfl, _⟩ := hP.form
                 have hs6 := hu6.size
                 replace hU := hU.trans hu6 (by exact (fun _ _ h => h))
                 replace hr := hr.upd hu6 (fun k hk hl hS => by have h1 := hF k hk; exact (show False from hS).elim)
                 replace hR := hR.upd hu6 (fun k hk hl hS => by have h1 := hRl k hk; exact (show False from hS).elim)
                 replace hO := hO.upd hu6 (fun k hk hl hS => by exact (show False from hS).elim)
                 replace hM := hM.upd hu6 (fun k hk hl hS => by exact (show False from hS).elim)
                 have hv9 : kd = l.getD a 0 % 256 ∧ ps = parts l a ∧ s9 = textB l a := by
                   rcases hres with ⟨h, _⟩ | ⟨h1, _, h2, h3, h4⟩
                   · exact absurd hval h
                   · exact ⟨h2, h3, h4⟩
                 obtain ⟨rfl, rfl, rfl⟩ := hv9
                 have hPr := hP.rd (by omega)
                 obtain ⟨Gq, hGq⟩ : ∃ G, G = New wE w6 := ⟨_, rfl⟩
                 rw [← hGq] at hPr
                 have hGqB : ∀ k, Gq k → wE.heap.size ≤ k ∧ k < (w6).heap.size := by subst hGq; exact fun k h => h
                 clear hP
                 refine WL.val rfl rfl rfl rfl (r_move rfl (ev_t rfl)) ?_
                 refine WL.val rfl rfl rfl rfl (r_extract rfl (ev_t rfl) rfl) ?_
                 refine WL.val rfl rfl rfl rfl (r_extract rfl (ev_t rfl) rfl) ?_
                 obtain ⟨bO, hbOe⟩ : ∃ g, g = w6.heap.size := ⟨_, rfl⟩
                 have hGqO : ∀ k, Gq k → k < bO := fun k h => by rw [hbOe]; exact (hGqB k h).2
                 have hbOE : wE.heap.size ≤ bO := by rw [hbOe]; first | exact hs17 | (have := (hu6).size; omega)
                 have hbB : B ≤ bO := by omega
                 refine WL.cons (SO.alloc rfl rfl rfl rfl (r_alloc rfl zero_56) ?_)
                 intro w7 hu7 hB7 hz7
                 have hs7 := hu7.size
                 replace hU := hU.trans hu7 (by exact (fun _ _ h => h))
                 replace hr := hr.upd hu7 (fun k hk hl hS => by have h1 := hF k hk; exact (show False from hS).elim)
                 replace hR := hR.upd hu7 (fun k hk hl hS => by have h1 := hRl k hk; exact (show False from hS).elim)
                 replace hO := hO.upd hu7 (fun k hk hl hS => by exact (show False from hS).elim)
                 replace hM := hM.upd hu7 (fun k hk hl hS => by exact (show False from hS).elim)
                 replace hPr := hPr.upd hu7 (fun k hk hl hS => by exact (show False from hS).elim)
                 refine WL.cons (SO.storeAll (us := [_, _, _]) rfl (ev_t rfl) (ev_t rfl) size_56 hB7 rfl rfl rfl rfl rfl ?_)
                 intro w8 hu8 hB7 hz8
                 have hs8 := hu8.size
                 replace hU := hU.trans hu8 (by (intro k hl hk; (try simp only [At, New, Grow, From, No] at hk ⊢); omega))
                 replace hr := hr.upd hu8 (fun k hk hl hS => by have h1 := hF k hk; (simp only [At] at hS; omega))
                 replace hR := hR.upd hu8 (fun k hk hl hS => by have h1 := hRl k hk; (simp only [At] at hS; omega))
                 replace hO := hO.upd hu8 (fun k hk hl hS => by (simp only [At] at hS; have := hGl k hk; omega))
                 replace hM := hM.upd hu8 (fun k hk hl hS => by (simp only [At] at hS; have := (hMB k hk).2.2.2; omega))
                 replace hPr := hPr.upd hu8 (fun k hk hl hS => by (simp only [At] at hS; have := (hGqB k hk).2; omega))
                 refine WL.val rfl rfl rfl rfl (r_assign rfl (ev_t rfl)) ?_
                 refine WL.nil ?_
                 refine WX.keep [(0, _), (1, _), (6, _), (7, _), (9, _), (10, _), (17, _), (18, _)] ⟨rfl, rfl, rfl, rfl, rfl, rfl, rfl, rfl, trivial⟩ ?_
                 have hbO := hB7
                 rw [← hbOe] at hbO ⊢
                 refine WX.next ?_
                 refine WC.seq ?_
                 refine WC.region ?_
                 refine WL.val rfl rfl rfl rfl (r_assign rfl ev_c) ?_
                 refine WL.nil ?_
                 refine WX.keep [(0, _), (1, _), (6, _), (7, _), (9, _), (10, _), (17, _), (18, _), (20, _)] ⟨rfl, rfl, rfl, rfl, rfl, rfl, rfl, rfl, rfl, trivial⟩ ?_
                 refine WX.next ?_
                 refine WC.seq ?_
                 refine WC.seq ?_
                 refine WC.region ?_
                 refine WL.val rfl rfl rfl rfl (r_assign rfl ev_c) ?_
                 refine WL.nil ?_
                 refine WX.keep [(0, _), (1, _), (6, _), (7, _), (9, _), (10, _), (17, _), (18, _), (20, _), (21, _)] ⟨rfl, rfl, rfl, rfl, rfl, rfl, rfl, rfl, rfl, rfl, trivial⟩ ?_
                 refine WX.next ?_
                 refine WC.block ?_
                 -- loop 5: live [0, 1, 6, 7, 9, 10, 17, 18, 20, 21]
                 refine WC.keep [(0, _), (1, _), (6, _), (7, _), (9, _), (10, _), (17, _), (18, _), (20, _), (21, _)] ⟨rfl, rfl, rfl, rfl, rfl, rfl, rfl, rfl, rfl, rfl, trivial⟩ ?_
                 refine WC.loop (fun qq E wD => ∃ (j : Nat) (Gv : Nat → Prop) (vp : Value), j ≤ (parts l a).length ∧ qq = (parts l a).length - j ∧ Own wD Gv 31 1 vp j ((((parts l a).take j).map (there l ord)).map Wd) ∧ (∀ k, Gv k → bO < k) ∧ OS wD Go Gp l ord (.slice (some ⟨b1, off1, none⟩) ord.length cO) (.slice AP ord.length cP) ∧ Own wD Gm 31 1 vm ((ord.take k).flatMap (objC l ord)).length (((ord.take k).flatMap (objC l ord)).map Wd) ∧ Upd No w wD ∧ bO < wD.heap.size ∧ Rd wD F (.slice A l.length c) l.length 1 (l.map Wd) ∧ Rd wD R (.slice A2 ys.length c2) ys.length 1 (ys.map Wd) ∧ Rd wD Gq (.slice A9 (parts l a).length c9) (parts l a).length 1 ((parts l a).map Wd) ∧ Blk wD bO #[.int .u8 ((l.getD a 0 % 256 : Nat) : Int), .slice A9 (parts l a).length c9, .string ⟨(textB l a).toArray⟩] 56 ∧ E = [(0, .slice A l.length c), (1, .slice A2 ys.length c2), (6, .slice (some ⟨b1, off1, none⟩) ord.length cO), (7, .slice AP ord.length cP), (9, vm), (10, .slice none 0 0), (17, .int .i64 (k : Int)), (18, .pointer (some ⟨bO, 0, none⟩)), (20, vp), (21, .int .i64 (j : Int))]) ((parts l a).length) ?_ ?_
                 · exact ⟨0, No, _, by omega, by omega, Own.nil _ _ _ _, fun k h => h.elim, hO, hM, hU, hbO.lt, hr, hR, hPr, hbO, rfl⟩
                 · clear hU hr hR hO hM hPr hbO hoR hUs
                   rintro qq E wD ⟨j, Gv, vp, hj, rfl, hV, hGv, hO, hM, hU, hbOl, hr, hR, hPr, hbO, rfl⟩
                   have hUs := hU.size
                   refine WC.seq ?_
                   refine WC.seq ?_
                   refine WC.region ?_
                   refine WL.val rfl rfl rfl rfl (r_move rfl (ev_t rfl)) ?_
                   refine WL.val rfl rfl rfl rfl (r_field0 rfl (ev_t rfl) fld_56_1) ?_
                   refine WL.val rfl rfl rfl rfl (r_load rfl (ev_t rfl) flat_46 (Blk.cell hbO rfl)) ?_
                   refine WL.val rfl rfl rfl rfl (r_lenSlice (ts := #[]) rfl (ev_t rfl) elem_46) ?_
                   refine WL.val rfl rfl rfl rfl (r_lss rfl (ev_t rfl) (ev_t rfl)) ?_
                   refine WL.nil ?_
                   refine WX.keep [(0, _), (1, _), (6, _), (7, _), (9, _), (10, _), (17, _), (18, _), (20, _), (21, _), (120, _)] ⟨rfl, rfl, rfl, rfl, rfl, rfl, rfl, rfl, rfl, rfl, rfl, trivial⟩ ?_
                   refine WX.next ?_
                   refine WC.cond rfl (ev_t rfl) (fun hc27 => ?_) (fun hc27 => ?_)
                   · try (exfalso; first | (simp at hc27; done) | (simp only [decide_eq_true_eq, decide_eq_false_iff_not, Bool.not_eq_true', Bool.not_eq_false', Bool.not_eq_true, Bool.not_eq_false] at hc27; omega) | omega)
                     all_goals
                      try simp only [decide_eq_true_eq, decide_eq_false_iff_not, Bool.not_eq_true', Bool.not_eq_false', Bool.not_eq_true, Bool.not_eq_false, Option.isNone_none, Option.isNone_some, Option.isSome_none, Option.isSome_some, ne_eq, Decidable.not_not] at hc27
                      have hjl : j < (parts l a).length := by omega
                      obtain ⟨y, hyj⟩ : ∃ y, (parts l a)[j]? = some y := ⟨_, List.getElem?_eq_getElem hjl⟩
                      have hy64 := parts_lt hg y (List.mem_of_getElem? hyj)
                      obtain ⟨b3, off3, rfl, _⟩ := hPr.open (by omega)
                      refine WC.skip ?_
                      refine WX.next ?_
                      refine WC.seq ?_
                      refine WC.block ?_
                      refine WC.region ?_
                      refine WL.val rfl rfl rfl rfl (r_move rfl (ev_t rfl)) ?_
                      refine WL.val rfl rfl rfl rfl (r_move rfl (ev_t rfl)) ?_
                      refine WL.val rfl rfl rfl rfl (r_move rfl (ev_t rfl)) ?_
                      refine WL.val rfl rfl rfl rfl (r_field0 rfl (ev_t rfl) fld_56_1) ?_
                      refine WL.val rfl rfl rfl rfl (r_load rfl (ev_t rfl) flat_46 (Blk.cell hbO rfl)) ?_
                      refine WL.val rfl rfl rfl rfl (r_move rfl (ev_t rfl)) ?_
                      refine WL.val rfl rfl rfl rfl (r_indexAddr rfl (ev_t rfl) (ev_t rfl) elem_46 size_31 (by omega) (by omega)) ?_
                      refine WL.val rfl rfl rfl rfl (r_load rfl (ev_t rfl) flat_31 (hPr.cell (j := j) (u := Wd y) (show off3 + (j : Int).toNat * 1 = off3 + j by omega) (by rw [List.getElem?_map, hyj]; rfl))) ?_
                      refine WL.cons (SO.call (there9_ok hO hod.nd hy64 (by omega) hob (by omega)) rfl body_49 ⟨(ev_t rfl), (ev_t rfl), (ev_t rfl), trivial⟩ rfl rfl rfl rfl ?_)
                      rintro v w9 ⟨rfl, hu9⟩
                      have hs9 := hu9.size
                      replace hU := hU.trans hu9 (by exact (fun _ _ h => h))
                      replace hr := hr.upd hu9 (fun k hk hl hS => by have h1 := hF k hk; exact (show False from hS).elim)
                      replace hR := hR.upd hu9 (fun k hk hl hS => by have h1 := hRl k hk; exact (show False from hS).elim)
                      replace hO := hO.upd hu9 (fun k hk hl hS => by exact (show False from hS).elim)
                      replace hM := hM.upd hu9 (fun k hk hl hS => by exact (show False from hS).elim)
                      replace hPr := hPr.upd hu9 (fun k hk hl hS => by exact (show False from hS).elim)
                      replace hbO := hbO.upd hu9 (fun hS => by exact (show False from hS))
                      replace hV := hV.upd hu9 (fun k hk hl hS => by exact (show False from hS).elim)
                      refine WL.cons (SO.alloc rfl rfl rfl rfl (r_buildSlice1 (vs := [_]) rfl ⟨(ev_t rfl), trivial⟩ rfl row_46 rfl rfl) ?_)
                      intro w10 hu10 hB10 hz10
                      have hs10 := hu10.size
                      replace hU := hU.trans hu10 (by exact (fun _ _ h => h))
                      replace hr := hr.upd hu10 (fun k hk hl hS => by have h1 := hF k hk; exact (show False from hS).elim)
                      replace hR := hR.upd hu10 (fun k hk hl hS => by have h1 := hRl k hk; exact (show False from hS).elim)
                      replace hO := hO.upd hu10 (fun k hk hl hS => by exact (show False from hS).elim)
                      replace hM := hM.upd hu10 (fun k hk hl hS => by exact (show False from hS).elim)
                      replace hPr := hPr.upd hu10 (fun k hk hl hS => by exact (show False from hS).elim)
                      replace hbO := hbO.upd hu10 (fun hS => by exact (show False from hS))
                      replace hV := hV.upd hu10 (fun k hk hl hS => by exact (show False from hS).elim)
                      refine WL.cons (SO.append hV (show Rd _ _ _ 1 1 [Wd (there l ord y)] from Rd.of_blk (F := At _) (n := 1) (sz := 1) hB10 rfl rfl (by omega)) row_46 (fun u hu => by simp at hu; subst hu; rfl) (le_maxLen (by omega)) (by omega) rfl (ev_t rfl) (ev_t rfl) rfl rfl rfl rfl ?_)
                      intro v11 w11 hV hu11
                      have hs11 := hu11.size
                      replace hU := hU.trans hu11 (by (intro k hl hk; first | exact (show False from hk).elim | (have h2 := hGB k hk; omega) | (have h2 := (hGd k hk).1; omega) | (have h2 := (hMB k hk).1; omega) | (have h2 := (hTB k hk).1; omega) | (have h2 := hGv k hk; omega) | (simp only [At] at hk; omega)))
                      replace hr := hr.upd hu11 (fun k hk hl hS => by have h1 := hF k hk; (have h2 := hGv k hS; omega))
                      replace hR := hR.upd hu11 (fun k hk hl hS => by have h1 := hRl k hk; (have h2 := hGv k hS; omega))
                      replace hO := hO.upd hu11 (fun k hk hl hS => by (have h2 := hGv k hS; have := hGl k hk; omega))
                      replace hM := hM.upd hu11 (fun k hk hl hS => by (have h2 := hGv k hS; have := (hMB k hk).2.2.2; omega))
                      replace hPr := hPr.upd hu11 (fun k hk hl hS => by (have h2 := hGv k hS; have := hGqO k hk; omega))
                      replace hbO := hbO.upd hu11 (fun hS => by (have h2 := hGv bO hS; omega))
                      obtain ⟨A11, c11, rfl, hc11⟩ := Own.form hV
                      refine WL.val rfl rfl rfl rfl (r_assign rfl (ev_t rfl)) ?_
                      refine WL.nil ?_
                      refine WX.keep [(0, _), (1, _), (6, _), (7, _), (9, _), (10, _), (17, _), (18, _), (20, _), (21, _)] ⟨rfl, rfl, rfl, rfl, rfl, rfl, rfl, rfl, rfl, rfl, trivial⟩ ?_
                      refine WX.blockNormal ?_
                      refine WX.next ?_
                      refine WC.region ?_
                      refine WL.val rfl rfl rfl rfl (r_move rfl (ev_t rfl)) ?_
                      refine WL.val rfl rfl rfl rfl (r_addN rfl (ev_t rfl) ev_c (by simp only [inK]; omega)) ?_
                      refine WL.val rfl rfl rfl rfl (r_assign rfl (ev_t rfl)) ?_
                      refine WL.nil ?_
                      refine WX.keep [(0, _), (1, _), (6, _), (7, _), (9, _), (10, _), (17, _), (18, _), (20, _), (21, _)] ⟨rfl, rfl, rfl, rfl, rfl, rfl, rfl, rfl, rfl, rfl, trivial⟩ ?_
                      refine WX.meet [(0, _), (1, _), (6, _), (7, _), (9, _), (10, _), (17, _), (18, _), (20, _), (21, _)] ⟨rfl, rfl, rfl, rfl, rfl, rfl, rfl, rfl, rfl, rfl, trivial⟩ ?_
                      rw [show (((parts l a).take j).map (there l ord)).map Wd ++ [Wd (there l ord y)] = (((parts l a).take (j + 1)).map (there l ord)).map Wd by rw [List.take_add_one, hyj]; simp] at hV
                      refine ⟨(parts l a).length - (j + 1), by omega, j + 1, _, _, by omega, rfl, hV, ?_, hO, hM, hU, by omega, hr, hR, hPr, hbO, rfl⟩
                      intro k hk
                      rcases hk with hk | hk
                      · exact hGv k hk
                      · omega
                   · try (exfalso; first | (simp at hc27; done) | (simp only [decide_eq_true_eq, decide_eq_false_iff_not, Bool.not_eq_true', Bool.not_eq_false', Bool.not_eq_true, Bool.not_eq_false] at hc27; omega) | omega)
                     all_goals
                      try simp only [decide_eq_true_eq, decide_eq_false_iff_not, Bool.not_eq_true', Bool.not_eq_false', Bool.not_eq_true, Bool.not_eq_false, Option.isNone_none, Option.isNone_some, Option.isSome_none, Option.isSome_some, ne_eq, Decidable.not_not] at hc27
                      refine WC.exit ?_
                      refine WX.thenExit ?_
                      refine WX.thenExit ?_
                      refine WX.blockHere ?_
                      refine WX.next ?_
                      refine WC.seq ?_
                      refine WC.region ?_
                      obtain rfl : j = (parts l a).length := by omega
                      rw [List.take_length] at hV
                      obtain ⟨AV, cV, rfl, _⟩ := hV.form
                      have hVr := hV.rd (by omega)
                      refine WL.val rfl rfl rfl rfl (r_move rfl (ev_t rfl)) ?_
                      refine WL.val rfl rfl rfl rfl (r_field0 rfl (ev_t rfl) fld_56_1) ?_
                      refine WL.cons (SO.store rfl (ev_t rfl) (ev_t rfl) size_46 hbO rfl rfl rfl rfl rfl ?_)
                      intro w12 hu12 hbO hz12
                      have hs12 := hu12.size
                      replace hU := hU.trans hu12 (by (intro k hl hk; (try simp only [At, New, Grow, From, No] at hk ⊢); omega))
                      replace hr := hr.upd hu12 (fun k hk hl hS => by have h1 := hF k hk; (simp only [At] at hS; omega))
                      replace hR := hR.upd hu12 (fun k hk hl hS => by have h1 := hRl k hk; (simp only [At] at hS; omega))
                      replace hO := hO.upd hu12 (fun k hk hl hS => by (simp only [At] at hS; have := hGl k hk; omega))
                      replace hM := hM.upd hu12 (fun k hk hl hS => by (simp only [At] at hS; have := (hMB k hk).2.2.2; omega))
                      replace hPr := hPr.upd hu12 (fun k hk hl hS => by (simp only [At] at hS; have := (hGqB k hk).2; omega))
                      replace hV := hV.upd hu12 (fun k hk hl hS => by (simp only [At] at hS; have := hGv k hk; omega))
                      refine WL.nil ?_
                      refine WX.keep [(0, _), (1, _), (6, _), (7, _), (9, _), (10, _), (17, _), (18, _)] ⟨rfl, rfl, rfl, rfl, rfl, rfl, rfl, rfl, trivial⟩ ?_
                      change Blk _ bO #[.int .u8 ((l.getD a 0 % 256 : Nat) : Int), .slice AV (parts l a).length cV, .string ⟨(textB l a).toArray⟩] _ at hbO
                      refine WX.next ?_
                      refine WC.region ?_
                      refine WL.val rfl rfl rfl rfl (r_move rfl (ev_t rfl)) ?_
                      refine WL.val rfl rfl rfl rfl (r_loadAgg (vs := [_, _, _]) rfl (ev_t rfl) agg_56 size_56 (Blk.cellsL hbO)) ?_
                      refine WL.cons (SO.alloc rfl rfl rfl rfl (r_buildSlice (cs := #[_, _, _]) (vs := [(0, _)]) rfl ⟨⟨rfl, (ev_t rfl)⟩, trivial⟩ row_70 rfl rfl) ?_)
                      intro w13 hu13 hB13 hz13
                      have hs13 := hu13.size
                      replace hU := hU.trans hu13 (by exact (fun _ _ h => h))
                      replace hr := hr.upd hu13 (fun k hk hl hS => by have h1 := hF k hk; exact (show False from hS).elim)
                      replace hR := hR.upd hu13 (fun k hk hl hS => by have h1 := hRl k hk; exact (show False from hS).elim)
                      replace hO := hO.upd hu13 (fun k hk hl hS => by exact (show False from hS).elim)
                      replace hM := hM.upd hu13 (fun k hk hl hS => by exact (show False from hS).elim)
                      replace hPr := hPr.upd hu13 (fun k hk hl hS => by exact (show False from hS).elim)
                      replace hbO := hbO.upd hu13 (fun hS => by exact (show False from hS))
                      replace hV := hV.upd hu13 (fun k hk hl hS => by exact (show False from hS).elim)
                      have hVb : Rd w13 (fun k => Gv k ∧ k < (w13).heap.size) (.slice AV (parts l a).length cV) ((parts l a).map (there l ord)).length 1 (((parts l a).map (there l ord)).map Wd) := by rw [List.length_map]; exact hV.bound.rd (by omega)
                      have hS3 : Rd w13 (At _) _ 1 3 [.int .u8 ((l.getD a 0 % 256 : Nat) : Int), .slice AV (parts l a).length cV, .string ⟨(textB l a).toArray⟩] := Rd.of_blk (F := At _) (n := 1) (sz := 3) hB13 rfl rfl (by omega)
                      have hml : ((parts l a).map (there l ord)).length ≤ 1000 := by rw [List.length_map]; exact hpl
                      refine WL.cons (SO.call (words1_ok hS3 hVb (fun k hk => by rcases hk with hk | hk; (simp only [At] at hk; have := (hB13).lt; omega); exact hk.2) (by omega) (by omega) (by omega)) rfl body_34 ⟨(ev_t rfl), trivial⟩ rfl rfl rfl rfl ?_)
                      rintro v w14 ⟨hW, hu14⟩
                      have hs14 := hu14.size
                      replace hU := hU.trans hu14 (by exact (fun _ _ h => h))
                      replace hr := hr.upd hu14 (fun k hk hl hS => by have h1 := hF k hk; exact (show False from hS).elim)
                      replace hR := hR.upd hu14 (fun k hk hl hS => by have h1 := hRl k hk; exact (show False from hS).elim)
                      replace hO := hO.upd hu14 (fun k hk hl hS => by exact (show False from hS).elim)
                      replace hM := hM.upd hu14 (fun k hk hl hS => by exact (show False from hS).elim)
                      replace hPr := hPr.upd hu14 (fun k hk hl hS => by exact (show False from hS).elim)
                      replace hbO := hbO.upd hu14 (fun hS => by exact (show False from hS))
                      replace hV := hV.upd hu14 (fun k hk hl hS => by exact (show False from hS).elim)
                      have hol2 : (objW (l.getD a 0 % 256) ((parts l a).map (there l ord)) (textB l a)).length ≤ 1000 := by
                        have := objC_len (fin := ord) hg has
                        unfold objC at this
                        omega
                      refine WL.cons (SO.append hM (hW.rd (by omega)) row_46 (fun u hu => by obtain ⟨x, _, rfl⟩ := List.mem_map.1 hu; rfl) (le_maxLen (by omega)) (by omega) rfl (ev_t rfl) (ev_t rfl) rfl rfl rfl rfl ?_)
                      intro v15 w15 hM hu15
                      have hs15 := hu15.size
                      replace hU := hU.trans hu15 (by (intro k hl hk; first | exact (show False from hk).elim | (have h2 := hGB k hk; omega) | (have h2 := (hGd k hk).1; omega) | (have h2 := (hMB k hk).1; omega) | (have h2 := (hTB k hk).1; omega) | (have h2 := hGv k hk; omega) | (simp only [At] at hk; omega)))
                      replace hr := hr.upd hu15 (fun k hk hl hS => by have h1 := hF k hk; (have h2 := (hMB k hS).1; omega))
                      replace hR := hR.upd hu15 (fun k hk hl hS => by have h1 := hRl k hk; (have h2 := (hMB k hS).1; omega))
                      replace hO := hO.upd hu15 (fun k hk hl hS => by (have h2 := hMB k hS; rcases hk with h | h; exact h2.2.1 h; exact h2.2.2.1 h))
                      replace hPr := hPr.upd hu15 (fun k hk hl hS => by (have h2 := (hMB k hS).2.2.2; have := (hGqB k hk).1; omega))
                      replace hbO := hbO.upd hu15 (fun hS => by (have h2 := (hMB bO hS).2.2.2; omega))
                      replace hV := hV.upd hu15 (fun k hk hl hS => by (have h2 := (hMB k hS).2.2.2; have := hGv k hk; omega))
                      obtain ⟨A15, c15, rfl, hc15⟩ := Own.form hM
                      refine WL.val rfl rfl rfl rfl (r_assign rfl (ev_t rfl)) ?_
                      refine WL.nil ?_
                      refine WX.keep [(0, _), (1, _), (6, _), (7, _), (9, _), (10, _), (17, _)] ⟨rfl, rfl, rfl, rfl, rfl, rfl, rfl, trivial⟩ ?_
                      refine WX.blockNormal ?_
                      refine WX.next ?_
                      refine WC.region ?_
                      refine WL.val rfl rfl rfl rfl (r_move rfl (ev_t rfl)) ?_
                      refine WL.val rfl rfl rfl rfl (r_addN rfl (ev_t rfl) ev_c (by simp only [inK]; omega)) ?_
                      refine WL.val rfl rfl rfl rfl (r_assign rfl (ev_t rfl)) ?_
                      refine WL.nil ?_
                      refine WX.keep [(0, _), (1, _), (6, _), (7, _), (9, _), (10, _), (17, _)] ⟨rfl, rfl, rfl, rfl, rfl, rfl, rfl, trivial⟩ ?_
                      refine WX.meet [(0, _), (1, _), (6, _), (7, _), (9, _), (10, _), (17, _)] ⟨rfl, rfl, rfl, rfl, rfl, rfl, rfl, trivial⟩ ?_
                      have ef : (ord.take (k + 1)).flatMap (objC l ord) = (ord.take k).flatMap (objC l ord) ++ objC l ord a := by rw [List.take_add_one, hka, Option.toList_some, List.flatMap_append, List.flatMap_cons, List.flatMap_nil, List.append_nil]
                      have hM2 := hM.bound
                      have el : ((ord.take (k + 1)).flatMap (objC l ord)).length = ((ord.take k).flatMap (objC l ord)).length + (objW (l.getD a 0 % 256) ((parts l a).map (there l ord)) (textB l a)).length := by rw [ef, List.length_append]; rfl
                      have em : ((ord.take (k + 1)).flatMap (objC l ord)).map Wd = ((ord.take k).flatMap (objC l ord)).map Wd ++ (objW (l.getD a 0 % 256) ((parts l a).map (there l ord)) (textB l a)).map Wd := by rw [ef, List.map_append]; rfl
                      rw [← el, ← em] at hM2
                      rw [← el]
                      refine ⟨ord.length - (k + 1), by omega, k + 1, _, _, by omega, rfl, hO, hM2, ?_, hU, hr, hR, rfl⟩
                      rintro k ⟨h1, h2⟩
                      rcases h1 with h1 | h1
                      · have h3 := hMB k h1
                        exact ⟨h3.1, h3.2.1, h3.2.2.1, h2⟩
                      · have hgo : ¬ Go k := fun h => by have := hGl k (.inl h); omega
                        have hgp : ¬ Gp k := fun h => by have := hGl k (.inr h); omega
                        exact ⟨by omega, hgo, hgp, h2⟩
              · try (exfalso; first | (simp at hc22; done) | (simp only [decide_eq_true_eq, decide_eq_false_iff_not, Bool.not_eq_true', Bool.not_eq_false', Bool.not_eq_true, Bool.not_eq_false] at hc22; omega) | omega)
                all_goals
                 try simp only [decide_eq_true_eq, decide_eq_false_iff_not, Bool.not_eq_true', Bool.not_eq_false', Bool.not_eq_true, Bool.not_eq_false, Option.isNone_none, Option.isNone_some, Option.isSome_none, Option.isSome_some, ne_eq, Decidable.not_not] at hc22
                 refine WC.exit ?_
                 refine WX.thenExit ?_
                 refine WX.thenExit ?_
                 refine WX.blockHere ?_
                 refine WX.next ?_
                 refine WC.seq ?_
                 refine WC.seq ?_
                 obtain rfl : k = ord.length := by omega
                 rw [List.take_length] at hM
                 change Own _ Gm _ 1 vm (outW l ord).length ((outW l ord).map Wd) at hM
                 refine WC.region ?_
                 refine WL.val rfl rfl rfl rfl (r_assign rfl ev_c) ?_
                 refine WL.nil ?_
                 refine WX.keep [(1, _), (6, _), (7, _), (9, _), (10, _), (22, _)] ⟨rfl, rfl, rfl, rfl, rfl, rfl, trivial⟩ ?_
                 refine WX.next ?_
                 refine WC.block ?_
                 -- loop 6: live [1, 6, 7, 9, 10, 22]
                 refine WC.keep [(1, _), (6, _), (7, _), (9, _), (10, _), (22, _)] ⟨rfl, rfl, rfl, rfl, rfl, rfl, trivial⟩ ?_
                 refine WC.loop (fun qq E wT => ∃ (i : Nat) (Gt : Nat → Prop) (vt : Value), i ≤ ys.length ∧ qq = ys.length - i ∧ OS wT Go Gp l ord (.slice AO ord.length cO) (.slice AP ord.length cP) ∧ Own wT Gm 31 1 vm (outW l ord).length ((outW l ord).map Wd) ∧ Own wT Gt 31 1 vt i (((ys.take i).map (there l ord)).map Wd) ∧ (∀ k, Gt k → B ≤ k ∧ ¬ Gm k ∧ ¬ Go k ∧ ¬ Gp k) ∧ Upd No w wT ∧ Rd wT R (.slice A2 ys.length c2) ys.length 1 (ys.map Wd) ∧ wE.heap.size ≤ wT.heap.size ∧ E = [(1, .slice A2 ys.length c2), (6, .slice AO ord.length cO), (7, .slice AP ord.length cP), (9, vm), (10, vt), (22, .int .i64 (i : Int))]) (ys.length) ?_ ?_
                 · exact ⟨0, No, _, by omega, by omega, hO, hM, Own.nil _ _ _ _, fun k h => h.elim, hU, hR, Nat.le_refl _, rfl⟩
                 · clear hU hr hR hO hM hUs
                   rintro qq E wT ⟨i, Gt, vt, hi, rfl, hO, hM, hT, hTB, hU, hR, hET, rfl⟩
                   have hUs := hU.size
                   refine WC.seq ?_
                   refine WC.seq ?_
                   refine WC.region ?_
                   refine WL.val rfl rfl rfl rfl (r_move rfl (ev_t rfl)) ?_
                   refine WL.val rfl rfl rfl rfl (r_move rfl (ev_t rfl)) ?_
                   refine WL.val rfl rfl rfl rfl (r_lenSlice (ts := #[]) rfl (ev_t rfl) elem_46) ?_
                   refine WL.val rfl rfl rfl rfl (r_lss rfl (ev_t rfl) (ev_t rfl)) ?_
                   refine WL.nil ?_
                   refine WX.keep [(1, _), (6, _), (7, _), (9, _), (10, _), (22, _), (144, _)] ⟨rfl, rfl, rfl, rfl, rfl, rfl, rfl, trivial⟩ ?_
                   refine WX.next ?_
                   refine WC.cond rfl (ev_t rfl) (fun hc33 => ?_) (fun hc33 => ?_)
                   · try (exfalso; first | (simp at hc33; done) | (simp only [decide_eq_true_eq, decide_eq_false_iff_not, Bool.not_eq_true', Bool.not_eq_false', Bool.not_eq_true, Bool.not_eq_false] at hc33; omega) | omega)
                     all_goals
                      try simp only [decide_eq_true_eq, decide_eq_false_iff_not, Bool.not_eq_true', Bool.not_eq_false', Bool.not_eq_true, Bool.not_eq_false, Option.isNone_none, Option.isNone_some, Option.isSome_none, Option.isSome_some, ne_eq, Decidable.not_not] at hc33
                      have hil : i < ys.length := by omega
                      obtain ⟨b2, off2, rfl, _⟩ := hR.open (by omega)
                      obtain ⟨x, hxi⟩ : ∃ x, ys[i]? = some x := ⟨_, List.getElem?_eq_getElem hil⟩
                      obtain ⟨hx64, hxs⟩ := hy x (List.mem_of_getElem? hxi)
                      refine WC.skip ?_
                      refine WX.next ?_
                      refine WC.seq ?_
                      refine WC.block ?_
                      refine WC.region ?_
                      refine WL.val rfl rfl rfl rfl (r_move rfl (ev_t rfl)) ?_
                      refine WL.val rfl rfl rfl rfl (r_move rfl (ev_t rfl)) ?_
                      refine WL.val rfl rfl rfl rfl (r_move rfl (ev_t rfl)) ?_
                      refine WL.val rfl rfl rfl rfl (r_move rfl (ev_t rfl)) ?_
                      refine WL.val rfl rfl rfl rfl (r_move rfl (ev_t rfl)) ?_
                      refine WL.val rfl rfl rfl rfl (r_indexAddr rfl (ev_t rfl) (ev_t rfl) elem_46 size_31 (by omega) (by omega)) ?_
                      refine WL.val rfl rfl rfl rfl (r_load rfl (ev_t rfl) flat_31 (hR.cell (j := i) (u := Wd x) (show off2 + (i : Int).toNat * 1 = off2 + i by omega) (by rw [List.getElem?_map, hxi]; rfl))) ?_
                      refine WL.cons (SO.call (there9_ok hO hod.nd hx64 (by omega) hob (by omega)) rfl body_49 ⟨(ev_t rfl), (ev_t rfl), (ev_t rfl), trivial⟩ rfl rfl rfl rfl ?_)
                      rintro v w16 ⟨rfl, hu16⟩
                      have hs16 := hu16.size
                      replace hU := hU.trans hu16 (by exact (fun _ _ h => h))
                      replace hR := hR.upd hu16 (fun k hk hl hS => by have h1 := hRl k hk; exact (show False from hS).elim)
                      replace hO := hO.upd hu16 (fun k hk hl hS => by exact (show False from hS).elim)
                      replace hM := hM.upd hu16 (fun k hk hl hS => by exact (show False from hS).elim)
                      replace hT := hT.upd hu16 (fun k hk hl hS => by first | exact (show False from hS).elim)
                      refine WL.cons (SO.alloc rfl rfl rfl rfl (r_buildSlice1 (vs := [_]) rfl ⟨(ev_t rfl), trivial⟩ rfl row_46 rfl rfl) ?_)
                      intro w17 hu17 hB17 hz17
                      have hs17 := hu17.size
                      replace hU := hU.trans hu17 (by exact (fun _ _ h => h))
                      replace hR := hR.upd hu17 (fun k hk hl hS => by have h1 := hRl k hk; exact (show False from hS).elim)
                      replace hO := hO.upd hu17 (fun k hk hl hS => by exact (show False from hS).elim)
                      replace hM := hM.upd hu17 (fun k hk hl hS => by exact (show False from hS).elim)
                      replace hT := hT.upd hu17 (fun k hk hl hS => by first | exact (show False from hS).elim)
                      refine WL.cons (SO.append hT (show Rd _ _ _ 1 1 [Wd (there l ord x)] from Rd.of_blk (F := At _) (n := 1) (sz := 1) hB17 rfl rfl (by omega)) row_46 (fun u hu => by simp at hu; subst hu; rfl) (le_maxLen (by omega)) (by omega) rfl (ev_t rfl) (ev_t rfl) rfl rfl rfl rfl ?_)
                      intro v18 w18 hT hu18
                      have hs18 := hu18.size
                      replace hU := hU.trans hu18 (by (intro k hl hk; first | exact (show False from hk).elim | (have h2 := hGB k hk; omega) | (have h2 := (hGd k hk).1; omega) | (have h2 := (hMB k hk).1; omega) | (have h2 := (hTB k hk).1; omega) | (have h2 := hGv k hk; omega) | (simp only [At] at hk; omega)))
                      replace hR := hR.upd hu18 (fun k hk hl hS => by have h1 := hRl k hk; (have h2 := (hTB k hS).1; omega))
                      replace hO := hO.upd hu18 (fun k hk hl hS => by (have h2 := hTB k hS; rcases hk with h | h; exact h2.2.2.1 h; exact h2.2.2.2 h))
                      replace hM := hM.upd hu18 (fun k hk hl hS => by (have h2 := hTB k hS; exact h2.2.1 hk))
                      obtain ⟨A18, c18, rfl, hc18⟩ := Own.form hT
                      refine WL.val rfl rfl rfl rfl (r_assign rfl (ev_t rfl)) ?_
                      refine WL.nil ?_
                      refine WX.keep [(1, _), (6, _), (7, _), (9, _), (10, _), (22, _)] ⟨rfl, rfl, rfl, rfl, rfl, rfl, trivial⟩ ?_
                      refine WX.blockNormal ?_
                      refine WX.next ?_
                      refine WC.region ?_
                      refine WL.val rfl rfl rfl rfl (r_move rfl (ev_t rfl)) ?_
                      refine WL.val rfl rfl rfl rfl (r_addN rfl (ev_t rfl) ev_c (by simp only [inK]; omega)) ?_
                      refine WL.val rfl rfl rfl rfl (r_assign rfl (ev_t rfl)) ?_
                      refine WL.nil ?_
                      refine WX.keep [(1, _), (6, _), (7, _), (9, _), (10, _), (22, _)] ⟨rfl, rfl, rfl, rfl, rfl, rfl, trivial⟩ ?_
                      refine WX.meet [(1, _), (6, _), (7, _), (9, _), (10, _), (22, _)] ⟨rfl, rfl, rfl, rfl, rfl, rfl, trivial⟩ ?_
                      rw [show ((ys.take i).map (there l ord)).map Wd ++ [Wd (there l ord x)] = ((ys.take (i + 1)).map (there l ord)).map Wd by rw [List.take_add_one, hxi]; simp] at hT
                      refine ⟨ys.length - (i + 1), by omega, i + 1, _, _, by omega, rfl, hO, hM, hT, ?_, hU, hR, by omega, rfl⟩
                      intro k hk
                      rcases hk with hk | hk
                      · exact hTB k hk
                      · have h1 : ¬ Gm k := fun h => by have := (hMB k h).2.2.2; omega
                        have hgo : ¬ Go k := fun h => by have := hGl k (.inl h); omega
                        have hgp : ¬ Gp k := fun h => by have := hGl k (.inr h); omega
                        exact ⟨by omega, h1, hgo, hgp⟩
                   · try (exfalso; first | (simp at hc33; done) | (simp only [decide_eq_true_eq, decide_eq_false_iff_not, Bool.not_eq_true', Bool.not_eq_false', Bool.not_eq_true, Bool.not_eq_false] at hc33; omega) | omega)
                     all_goals
                      try simp only [decide_eq_true_eq, decide_eq_false_iff_not, Bool.not_eq_true', Bool.not_eq_false', Bool.not_eq_true, Bool.not_eq_false, Option.isNone_none, Option.isNone_some, Option.isSome_none, Option.isSome_some, ne_eq, Decidable.not_not] at hc33
                      refine WC.exit ?_
                      refine WX.thenExit ?_
                      refine WX.thenExit ?_
                      refine WX.blockHere ?_
                      refine WX.next ?_
                      refine WC.seq ?_
                      refine WC.region ?_
                      refine WL.val rfl rfl rfl rfl (r_move rfl (ev_t rfl)) ?_
                      refine WL.val rfl rfl rfl rfl (r_move rfl (ev_t rfl)) ?_
                      refine WL.val rfl rfl rfl rfl (r_assign rfl (ev_t rfl)) ?_
                      refine WL.val rfl rfl rfl rfl (r_assign rfl (ev_t rfl)) ?_
                      refine WL.nil ?_
                      refine WX.keep [(4, _), (5, _)] ⟨rfl, rfl, trivial⟩ ?_
                      refine WX.next ?_
                      refine WC.ret ?_
                      refine WX.retE2 rfl rfl rfl ?_
                      obtain rfl : i = ys.length := by omega
                      rw [List.take_length] at hT
                      have hM2 := hM.bound
                      have hT2 := hT.bound
                      exact ⟨ord, _, _, _, _, rfl, hbf, hod, hM2, hT2, fun k hk => ⟨(hMB k hk.1).1, hk.2, fun h => (hTB k h.1).2.1 hk.1⟩, fun k hk => ⟨(hTB k hk.1).1, hk.2⟩, hU⟩
end Go.Proofs.YtdpnnclkkbfihaaDoor

/-
  heap: the collector's words are the reference's; texts and objects stay what they are. No program in sight.
-/
namespace Go.Proofs.YtdpnnclkkbfihaaDoor
open Go
set_option linter.unusedSimpArgs false
set_option linter.unusedVariables false

/-! ### the words -/
theorem chunk {to : List Nat} {p h n : Nat} (hp : to[p]? = some h) : (to.drop p).take (1 + n) = h :: (to.drop (p + 1)).take n := by
  have hl := (List.getElem?_eq_some_iff.1 hp).1
  rw [List.drop_eq_getElem_cons hl, Nat.add_comm 1 n, List.take_succ_cons]
  rw [List.getElem?_eq_getElem hl] at hp
  injection hp with hp
  rw [hp]
section
variable {old st fin to mv : List Nat}
theorem PI.chunk (h : PI old st fin to mv to.length) (hg : GoodH old st) (ht : TxI old st) {a : Nat} (ha : a ∈ fin) : (to.drop (plc (Go.Proofs.YtdpnnclkkbfihaaDoor.szAt old) fin a)).take (Go.Proofs.YtdpnnclkkbfihaaDoor.szAt old a) = objC old fin a := by
  have has := h.sub a ha
  obtain ⟨hal, hafit⟩ := hg.vd.in has
  have hh := h.head ha
  have hpl := plc_lt (sz := Go.Proofs.YtdpnnclkkbfihaaDoor.szAt old) ha
  have hsp := szAt_pos old a
  have hto : plc (Go.Proofs.YtdpnnclkkbfihaaDoor.szAt old) fin a < to.length := by rw [h.ltot]; omega
  have hge := getD_lt hto
  rw [hh] at hge
  obtain ⟨hp1, _⟩ := h.partsTo hg.vd ha
  by_cases hk : old.getD a 0 % 256 = 3
  · obtain ⟨s, hs⟩ := ht a has hk
    have h1 := szText hs.1
    have h2 := TextAt.collect hg.vd h ha hs
    have h3 : old.getD a 0 = s.length * 256 + 3 := getD_of hs.1
    have e1 : objC old fin a = (s.length * 256 + 3) :: encT s := by
      unfold objC objW
      rw [if_pos hk, hs.bytes]
    rw [h1, Go.Proofs.YtdpnnclkkbfihaaDoor.chunk h2.1, e1]
    congr 1
    apply List.ext_getElem?
    intro j
    rcases Nat.lt_or_ge j (encT s).length with hj | hj
    · have h4 := h2.2 j _ (List.getElem?_eq_getElem hj)
      rw [List.getElem?_eq_getElem hj, List.getElem?_take_of_lt (by rw [encT_len] at hj; exact hj), List.getElem?_drop, h4]
    · rw [List.getElem?_eq_none hj, List.getElem?_eq_none (by rw [encT_len] at hj; rw [List.length_take]; omega)]
  · have e1 : objC old fin a = ((parts old a).length * 256 + old.getD a 0 % 256) :: (parts old a).map (there old fin) := by
      unfold objC objW
      rw [if_neg hk, List.length_map]
    have h1 : Go.Proofs.YtdpnnclkkbfihaaDoor.szAt old a = 1 + old.getD a 0 / 256 := by unfold Go.Proofs.YtdpnnclkkbfihaaDoor.szAt szO; rw [if_neg hk]
    have h2 : parts to (plc (Go.Proofs.YtdpnnclkkbfihaaDoor.szAt old) fin a) = (to.drop (plc (Go.Proofs.YtdpnnclkkbfihaaDoor.szAt old) fin a + 1)).take (old.getD a 0 / 256) := by
      unfold parts
      rw [hh, if_neg hk]
    rw [h1, Go.Proofs.YtdpnnclkkbfihaaDoor.chunk hge, e1, ← hp1, h2, parts_len hk hafit]
    congr 1
    omega
/-- what the collector leaves is what the reference writes out -/
theorem PI.out (h : PI old st fin to mv to.length) (hg : GoodH old st) (ht : TxI old st) : to = outW old fin := by
  have key : ∀ n k, k + n = fin.length → (to.drop (tot (Go.Proofs.YtdpnnclkkbfihaaDoor.szAt old) (fin.take k))) = (fin.drop k).flatMap (objC old fin) := by
    intro n
    induction n with
    | zero =>
      intro k hk
      rw [List.take_of_length_le (by omega), show fin.drop k = [] from List.drop_eq_nil_of_le (by omega), ← h.ltot, List.drop_length]
      rfl
    | succ n ih =>
      intro k hk
      have hkl : k < fin.length := by omega
      have hka : fin[k]? = some fin[k] := List.getElem?_eq_getElem hkl
      have hp := plc_take (sz := Go.Proofs.YtdpnnclkkbfihaaDoor.szAt old) h.nd hka
      have hc := h.chunk hg ht (List.getElem_mem hkl)
      have ih2 := ih (k + 1) (by omega)
      have e1 : tot (Go.Proofs.YtdpnnclkkbfihaaDoor.szAt old) (fin.take (k + 1)) = tot (Go.Proofs.YtdpnnclkkbfihaaDoor.szAt old) (fin.take k) + Go.Proofs.YtdpnnclkkbfihaaDoor.szAt old fin[k] := by
        rw [List.take_add_one, hka, Option.toList_some, tot_app, tot_cons, tot_nil, Nat.add_zero]
      rw [e1, ← List.drop_drop] at ih2
      rw [List.drop_eq_getElem_cons hkl, List.flatMap_cons, ← hc, ← ih2, hp, List.take_append_drop]
  have := key fin.length 0 (by omega)
  simpa [tot, outW] using this
theorem TxI.collect (ht : TxI old st) (hg : GoodH old st) (h : PI old st fin to mv to.length) : TxI to (fin.map (plc (Go.Proofs.YtdpnnclkkbfihaaDoor.szAt old) fin)) := by
  intro a' ha' hk
  obtain ⟨a, ha, rfl⟩ := List.mem_map.1 ha'
  rw [h.head ha] at hk
  obtain ⟨s, hs⟩ := ht a (h.sub a ha) hk
  exact ⟨s, TextAt.collect hg.vd h ha hs⟩
end
/-! ### an object more -/
theorem TextAt.more {mem r : List Nat} {a : Nat} {s : List UInt8} (h : TextAt mem a s) : TextAt (mem ++ r) a s :=
  ⟨by rw [List.getElem?_append_left (List.getElem?_eq_some_iff.1 h.1).1]; exact h.1, fun j x hj => by have := h.2 j x hj; rw [List.getElem?_append_left (List.getElem?_eq_some_iff.1 this).1]; exact this⟩
theorem TxI.more {mem st r : List Nat} {hd : Nat} (h : TxI mem st) (hv : Vd mem st) (hn : hd % 256 = 3 → ∃ s, TextAt (mem ++ hd :: r) mem.length s) : TxI (mem ++ hd :: r) (st ++ [mem.length]) := by
  intro a ha hk
  rcases List.mem_append.1 ha with ha | ha
  · rw [getD_app_l (hv.in ha).1] at hk
    obtain ⟨s, hs⟩ := h a ha hk
    exact ⟨s, hs.more⟩
  · simp at ha
    subst ha
    refine hn ?_
    have e : (mem ++ hd :: r).getD mem.length 0 = hd := by simp
    rw [e] at hk
    exact hk
theorem textAt_new (mem : List Nat) (s : List UInt8) : TextAt (mem ++ (s.length * 256 + 3) :: encT s) mem.length s :=
  ⟨by simp, fun j x hj => by
    rw [List.getElem?_append_right (by omega), show mem.length + 1 + j - mem.length = j + 1 by omega, List.getElem?_cons_succ]
    exact hj⟩
theorem GoodH.more {mem st r : List Nat} {hd : Nat} (h : GoodH mem st) (hs : szO hd = 1 + r.length) (hw : ∀ y ∈ hd :: r, y < 18446744073709551616) (hp : hd % 256 ≠ 3 → ∀ x ∈ r, x % 2 = 1 ∨ x / 2 ∈ st) (hk : 1 ≤ hd % 256 ∧ hd % 256 ≤ 6) : GoodH (mem ++ hd :: r) (st ++ [mem.length]) := by
  refine ⟨h.vd.put hs hw hp, fun a ha => ?_⟩
  rcases List.mem_append.1 ha with ha | ha
  · rw [getD_app_l (h.vd.in ha).1]; exact h.kd a ha
  · simp at ha
    subst ha
    have e : (mem ++ hd :: r).getD mem.length 0 = hd := by simp
    rw [e]
    exact hk
/-! ### a part changed -/
theorem Tile.apart {old : List Nat} : ∀ {st : List Nat} {p a b : Nat}, Tile old p st → a ∈ st → b ∈ st → a ≠ b → a + szAt old a ≤ b ∨ b + szAt old b ≤ a
  | [], p, a, b, _, h, _, _ => by cases h
  | c :: r, p, a, b, h, ha, hb, hn => by
    obtain ⟨rfl, h1, h2⟩ := h
    rcases List.mem_cons.1 ha with e1 | ha1
    · rcases List.mem_cons.1 hb with e2 | hb1
      · exact absurd (e1.trans e2.symm) hn
      · subst e1; exact .inl (Tile.mem h2 hb1).1
    · rcases List.mem_cons.1 hb with e2 | hb1
      · subst e2; exact .inr (Tile.mem h2 ha1).1
      · exact Tile.apart h2 ha1 hb1 hn
theorem Tile.same {old new : List Nat} (hl : new.length = old.length) : ∀ {st : List Nat} {p : Nat}, Tile old p st → (∀ b ∈ st, szAt new b = szAt old b) → Tile new p st
  | [], p, h, _ => by simp only [Tile] at h ⊢; omega
  | c :: r, p, h, hs => by
    obtain ⟨rfl, h1, h2⟩ := h
    have e := hs c (by simp)
    refine ⟨rfl, by omega, ?_⟩
    rw [e]
    exact Tile.same hl h2 (fun b hb => hs b (by simp [hb]))
section
variable {mem st : List Nat} {a i z : Nat}
theorem set_getD_ne {l : List Nat} {k j z : Nat} (h : k ≠ j) : (l.set k z).getD j 0 = l.getD j 0 := by
  rw [List.getD_eq_getElem?_getD, List.getElem?_set_ne h, ← List.getD_eq_getElem?_getD]
theorem set_off (hv : Vd mem st) (ha : a ∈ st) (hi : 1 + i < szAt mem a) {b d : Nat} (hb : b ∈ st) (hd : d < szAt mem b) (hn : b ≠ a ∨ d ≠ 1 + i) : a + 1 + i ≠ b + d := by
  by_cases e : b = a
  · subst e
    rcases hn with h | h
    · exact absurd rfl h
    · omega
  · rcases hv.tile.apart ha hb (fun h => e h.symm) with h | h <;> omega
theorem set_head (hv : Vd mem st) (ha : a ∈ st) (hi : 1 + i < szAt mem a) {b : Nat} (hb : b ∈ st) : (mem.set (a + 1 + i) z).getD b 0 = mem.getD b 0 :=
  set_getD_ne (by have := set_off hv ha hi hb (d := 0) (szAt_pos _ _) (.inr (by omega)); omega)
theorem GoodH.set (hg : GoodH mem st) (ha : a ∈ st) (hk : mem.getD a 0 % 256 ≠ 3) (hi : 1 + i < szAt mem a) (hz : z < 18446744073709551616 ∧ (z % 2 = 1 ∨ z / 2 ∈ st)) : GoodH (mem.set (a + 1 + i) z) st := by
  have hh : ∀ b ∈ st, (mem.set (a + 1 + i) z).getD b 0 = mem.getD b 0 := fun b hb => set_head hg.vd ha hi hb
  refine ⟨⟨hg.vd.tile.same (by rw [List.length_set]) (fun b hb => by unfold szAt; rw [hh b hb]), fun b hb x hx => ?_, fun y hy => ?_⟩, fun b hb => by rw [hh b hb]; exact hg.kd b hb⟩
  · obtain ⟨hbl, hbf⟩ := hg.vd.in hb
    unfold parts at hx
    rw [hh b hb] at hx
    split at hx
    · cases hx
    · rename_i hkb
      obtain ⟨j, hj, hje⟩ := List.mem_iff_getElem.1 hx
      have hj0 : ((mem.set (a + 1 + i) z).drop (b + 1)).take (mem.getD b 0 / 256) = ((mem.set (a + 1 + i) z).drop (b + 1)).take (mem.getD b 0 / 256) := rfl
      have hjl := hj
      rw [List.length_take, List.length_drop, List.length_set] at hjl
      have e1 := List.getElem?_eq_getElem hj
      rw [hje, List.getElem?_take_of_lt (by omega), List.getElem?_drop] at e1
      by_cases e2 : a + 1 + i = b + 1 + j
      · rw [← e2, List.getElem?_set_self (by omega)] at e1
        injection e1 with e1
        subst e1
        exact hz.2
      · rw [List.getElem?_set_ne e2] at e1
        refine hg.vd.refs b hb x ?_
        unfold parts
        rw [if_neg hkb]
        apply List.mem_of_getElem? (i := j)
        rw [List.getElem?_take_of_lt (by omega), List.getElem?_drop]
        exact e1
  · rcases List.mem_or_eq_of_mem_set hy with h | h
    · exact hg.vd.w64 y h
    · rw [h]; exact hz.1
theorem TxI.set (ht : TxI mem st) (hg : GoodH mem st) (ha : a ∈ st) (hk : mem.getD a 0 % 256 ≠ 3) (hi : 1 + i < szAt mem a) : TxI (mem.set (a + 1 + i) z) st := by
  intro b hb hkb
  rw [set_head hg.vd ha hi hb] at hkb
  obtain ⟨s, hs⟩ := ht b hb hkb
  have hne : b ≠ a := fun e => hk (e ▸ hkb)
  have hsz := szText hs.1
  refine ⟨s, ?_, fun j x hj => ?_⟩
  · rw [List.getElem?_set_ne (by have := set_off hg.vd ha hi hb (d := 0) (szAt_pos _ _) (.inl hne); omega)]
    exact hs.1
  · have hjl := (List.getElem?_eq_some_iff.1 hj).1
    rw [encT_len] at hjl
    rw [List.getElem?_set_ne (by have := set_off hg.vd ha hi hb (d := 1 + j) (by omega) (.inl hne); omega)]
    exact hs.2 j x hj
end
end Go.Proofs.YtdpnnclkkbfihaaDoor

/-
  HeapPlays: an object is made (the law's put).
-/
namespace Go.Proofs.YtdpnnclkkbfihaaDoor
open Go
set_option linter.unusedSimpArgs false
set_option linter.unusedVariables false

def okV (m : Nat) : Value := .tuple #[.int .u64 ((2 * m : Nat) : Int), .int .i64 0]
def noV : Value := .tuple #[.int .u64 0, .int .i64 11]
def PutS (mem st ys ps : List Nat) (q kd : Nat) (s : List UInt8) (v : Value) (mem' ys' : List Nat) : Prop :=
  (need9 kd ps.length s + mem.length ≤ q ∧ v = okV mem.length ∧ mem' = mem ++ objW kd ps s ∧ ys' = ys) ∨
  (¬ need9 kd ps.length s + mem.length ≤ q ∧ ∃ fin to mv, Bfs mem 0 ((ys ++ ps).foldl come []) fin ∧ (∀ x ∈ ys ++ ps, x % 2 = 1 ∨ x / 2 ∈ fin) ∧ PI mem st fin to mv to.length ∧ ys' = ys.map (there mem fin) ∧
    ((need9 kd ps.length s + to.length ≤ q ∧ v = okV to.length ∧ mem' = to ++ objW kd (ps.map (there mem fin)) s) ∨ (¬ need9 kd ps.length s + to.length ≤ q ∧ v = noV ∧ mem' = to)))
theorem PX.puts {w0 w' : World} {gr gp q kd n N : Nat} {ys ps mem st mem' : List Nat} {s : List UInt8} {v : Value} (hk : kd ≠ 3) (h : PX w0 (rowAt gr ys.length) (rowAt gp ps.length) ys ps mem st q (ps.length * 256 + kd) n w' v mem' N) (hd : ∀ (k o o' : Nat), (k, o) ∈ rowAt gr ys.length → (k, o') ∉ rowAt gp ps.length) :
    ∃ ys', ys'.length = ys.length ∧ N ≤ n + 1 ∧ Roots w0 w' (rowAt gr ys.length) ys' ∧ PutS mem st ys ps q kd s v mem' ys' := by
  obtain ⟨M, ys', ps', hl1, hl2, hro, hc, hy1, hy2⟩ := h
  have en : need9 kd ps.length s = 1 + ps.length := if_neg hk
  have eo : ∀ l : List Nat, l.length = ps.length → objW kd l s = (ps.length * 256 + kd) :: l := fun l hl => by unfold objW; rw [if_neg hk, hl]
  refine ⟨ys', hl1, ?_, hro.left (by rw [rowAt_len, hl1]) hd, ?_⟩
  · rcases hc with h | h <;> omega
  · rcases hc with ⟨h1, rfl, rfl, rfl, rfl⟩ | ⟨h1, rfl, fin, mv, h2, h3, h4, rfl, rfl⟩
    · obtain ⟨e1, e2⟩ := hy1 h1
      exact .inl ⟨by omega, e1, by rw [e2, eo _ rfl, List.append_assoc]; rfl, rfl⟩
    · refine .inr ⟨by omega, fin, M, mv, h2, h3, h4, rfl, ?_⟩
      by_cases h5 : 1 + ps.length + M.length ≤ q
      · obtain ⟨e1, e2⟩ := hy1 h5
        exact .inl ⟨by omega, e1, by rw [e2, eo _ hl2, List.append_assoc]; rfl⟩
      · obtain ⟨e1, e2⟩ := hy2 h5
        exact .inr ⟨by omega, e1, e2⟩
theorem RX.puts {w0 w' : World} {gr q n N : Nat} {ys mem st mem' M : List Nat} {s : List UInt8} {v : Value} (h : RX w0 (rowAt gr ys.length) ys mem st q (textN s) n w' M N)
    (h1 : textN s + M.length ≤ q → v = .tuple #[.int .u64 ((2 * M.length : Nat) : Int), .int .i64 0] ∧ mem' = M ++ [s.length * 256 + 3] ++ encT s) (h2 : ¬ textN s + M.length ≤ q → v = .tuple #[.int .u64 0, .int .i64 11] ∧ mem' = M) :
    ∃ ys', ys'.length = ys.length ∧ N ≤ n + 1 ∧ Roots w0 w' (rowAt gr ys.length) ys' ∧ PutS mem st ys [] q 3 s v mem' ys' := by
  have en : need9 3 ([] : List Nat).length s = textN s := if_pos rfl
  have eo : ∀ l : List Nat, objW 3 l s = (s.length * 256 + 3) :: encT s := fun l => if_pos rfl
  rcases h with ⟨a1, rfl, rfl, a4⟩ | ⟨a1, rfl, fin, mv, a3, a4, a5, a6⟩
  · obtain ⟨e1, e2⟩ := h1 a1
    exact ⟨ys, rfl, by omega, a4, .inl ⟨by rw [en]; exact a1, e1, by rw [e2, eo, List.append_assoc]; rfl, rfl⟩⟩
  · refine ⟨_, by rw [List.length_map], by omega, a6, .inr ⟨by rw [en]; exact a1, fin, M, mv, by rw [List.append_nil]; exact a3, by rw [List.append_nil]; exact a4, a5, rfl, ?_⟩⟩
    rw [en]
    by_cases h5 : textN s + M.length ≤ q
    · obtain ⟨e1, e2⟩ := h1 h5
      exact .inl ⟨h5, e1, by rw [e2, eo, List.append_assoc]; rfl⟩
    · obtain ⟨e1, e2⟩ := h2 h5
      exact .inr ⟨h5, e1, e2⟩
set_option maxHeartbeats 4000000 in
theorem lput_ok {w : World} {G Gp Gr : Nat → Prop} {p : Nat} {A AO : Option Addr} {c cO nO : Nat} {mem st ys ps : List Nat} {q n kd : Nat} {vP vR : Value} {s : List UInt8} (hH : HS w G p A c mem q n) (hn : n + 1 ≤ 1000000000) (hv : Vd mem st)
    (hPo : Own w Gp tWord 1 vP ps.length (ps.map Wd)) (hP0 : ps.length = 0 → ∃ c, vP = .slice none 0 c) (hRo : Own w Gr tWord 1 vR ys.length (ys.map Wd)) (hPG : ∀ k, Gp k → k ≠ p ∧ ¬ G k ∧ ¬ Gr k ∧ k < w.heap.size) (hRG : ∀ k, Gr k → k ≠ p ∧ ¬ G k ∧ k < w.heap.size)
    (hx : ∀ x ∈ ys ++ ps, x < 18446744073709551616 ∧ (x % 2 = 1 ∨ x / 2 ∈ st)) (hyl : ys.length ≤ 1000) (hpl : ps.length ≤ 1000) (hkd : kd < 256) (h3 : kd = 3 → ps = []) (hs : s.length ≤ 1000000) :
    Ret Tryd.prog 33 #[.pointer (some ⟨p, 0, none⟩), .agg #[.int .u8 (kd : Int), .slice AO nO cO, .string ⟨s.toArray⟩], vP, vR] w fun v w' => ∃ G' A' c' mem' N ys', HS w' G' p A' c' mem' q N ∧ ys'.length = ys.length ∧ N ≤ n + 1 ∧ (∀ k, G' k → G k ∨ w.heap.size ≤ k) ∧ Own w' Gr tWord 1 vR ys.length (ys'.map Wd) ∧ Upd (fun k => k = p ∨ G k ∨ Gr k ∨ Gp k) w w' ∧ PutS mem st ys ps q kd s v mem' ys' := by
  have hlp := hH.hd.lt
  have hlG := hH.lt
  obtain ⟨AP, cP, rfl, hcP⟩ := hPo.form
  obtain ⟨AR, cR, rfl, hcR⟩ := hRo.form
  obtain ⟨gp, Ap, cp2, hvp, hposp, -⟩ := hPo.roots
  injection hvp with hvp _ _
  rw [← hvp] at hposp
  have hAP : AP = if 0 < ps.length then some ⟨gp, 0, none⟩ else none := by
    split
    · rename_i h; exact (hposp h).1
    · rename_i h
      obtain ⟨c9, e9⟩ := hP0 (by omega)
      injection e9
  refine enterRet (vs := [_, _, _, _]) (N := 30) Tryd.func33 rfl rfl rfl ?_
  have hU := Upd.refl (fun k => k = p ∨ G k ∨ Gr k ∨ Gp k) w
  refine WC.keep [(0, _), (1, _), (2, _), (3, _)] ⟨rfl, rfl, rfl, rfl, trivial⟩ ?_
  refine WC.seq ?_
  refine WC.region ?_
  refine WL.cons (SO.alloc rfl rfl rfl rfl (r_boxAgg rfl (ev_t rfl)) ?_)
  intro w1 hu1 hB1 hz1
  have hs1 := hu1.size
  replace hU := hU.trans hu1 (by exact (fun _ _ h => h.elim))
  replace hH := hH.upd hu1 (fun k hk hl hS => by exact (show False from hS).elim)
  replace hPo := hPo.upd hu1 (fun k hk hl hS => by first | exact (show False from hS).elim)
  replace hRo := hRo.upd hu1 (fun k hk hl hS => by first | exact (show False from hS).elim)
  refine WL.val rfl rfl rfl rfl (r_assign rfl ev_c) ?_
  refine WL.val rfl rfl rfl rfl (r_assign rfl ev_c) ?_
  refine WL.nil ?_
  refine WX.keep [(0, _), (2, _), (3, _), (5, _)] ⟨rfl, rfl, rfl, rfl, trivial⟩ ?_
  have hbO := hB1
  obtain ⟨bO, hbOe⟩ : ∃ g, g = w.heap.size := ⟨_, rfl⟩
  rw [← hbOe] at hbO ⊢
  have hbn : ¬ (fun k => k = p ∨ G k ∨ Gr k ∨ Gp k) bO := fun h => by
    rcases h with h | h | h | h
    · omega
    · have := hlG _ h; omega
    · have := (hRG _ h).2.2; omega
    · have := (hPG _ h).2.2.2; omega
  refine WX.next ?_
  refine WC.seq ?_
  refine WC.seq ?_
  refine WC.region ?_
  refine WL.val rfl rfl rfl rfl (r_field0 rfl (ev_t rfl) fld_56_0) ?_
  refine WL.val rfl rfl rfl rfl (r_load rfl (ev_t rfl) flat_5 (Blk.cell hbO rfl)) ?_
  refine WL.val rfl rfl rfl rfl (r_eql rfl (ev_t rfl) ev_c) ?_
  refine WL.nil ?_
  refine WX.keep [(0, _), (2, _), (3, _), (5, _), (12, _)] ⟨rfl, rfl, rfl, rfl, rfl, trivial⟩ ?_
  refine WX.next ?_
  refine WC.cond rfl (ev_t rfl) (fun hc1 => ?_) (fun hc1 => ?_)
  · try (exfalso; first | (simp at hc1; done) | (simp only [decide_eq_true_eq, decide_eq_false_iff_not, Bool.not_eq_true', Bool.not_eq_false', Bool.not_eq_true, Bool.not_eq_false] at hc1; omega) | omega)
    all_goals
     try simp only [decide_eq_true_eq, decide_eq_false_iff_not, Bool.not_eq_true', Bool.not_eq_false', Bool.not_eq_true, Bool.not_eq_false, Option.isNone_none, Option.isNone_some, Option.isSome_none, Option.isSome_some, ne_eq, Decidable.not_not] at hc1
     refine WC.seq ?_
     refine WC.draws' (fun u0_ u1_ => Upd (fun k => k = p ∨ G k ∨ Gr k ∨ Gp k) u0_ u1_) (fun j => [0, 0, 0, 0, 1, 2, 0, 0, 0, 0].getD j 0) (.calm 0 (.calm 1 (.calm 3 (.held 2 (.one 4 (.one 5 (.calm 6 (.calm 7 (.calm 8 (.calm 9 (.done))))))))))) mixed (by kernel_rfl) (by repeat (first | with_reducible exact Deaf.body | with_reducible apply Deaf.then)) ?_
     intro w2 hu2
     have hz2 := congrArg Array.size hu2.2.2.2
     replace hu2 := Upd.of_draw hu2
     have hs2 := hu2.size
     replace hU := hU.trans hu2 (by exact (fun _ _ h => h.elim))
     replace hH := hH.upd hu2 (fun k hk hl hS => by exact (show False from hS).elim)
     replace hPo := hPo.upd hu2 (fun k hk hl hS => by first | exact (show False from hS).elim)
     replace hRo := hRo.upd hu2 (fun k hk hl hS => by first | exact (show False from hS).elim)
     replace hbO := hbO.upd hu2 (fun hS => by first | exact (show False from hS))
     have hS2 := Upd.refl (fun k => k = p ∨ G k ∨ Gr k ∨ Gp k) w2
     refine WN.calm _ rfl rfl rfl rfl rfl (fun _ => r_move rfl (ev_t rfl)) ?_
     refine WN.calm _ rfl rfl rfl rfl rfl (fun _ => r_field0 rfl (ev_t rfl) fld_56_2) ?_
     refine WN.calm _ rfl rfl rfl rfl rfl (fun _ => r_move rfl (ev_t rfl)) ?_
     refine WN.held _ rfl rfl rfl rfl rfl hS2 (fun w' hS => r_load rfl (ev_t rfl) flat_9 (Blk.cell (hbO.upd hS hbn) rfl)) ?_
     obtain ⟨g1, A1, c1, hv1, hpos1, -⟩ := hRo.roots
     injection hv1 with hv1 _ _
     rw [← hv1] at hpos1
     have hsz0 := hU.size
     refine WN.step _ rfl (SO.call (pointers_ok (g := g1) (hRo.rd (by omega)) (fun h => (hpos1 h).1) (by omega)) rfl body_13 ⟨(ev_t rfl), trivial⟩ rfl rfl rfl rfl ?_)
     rintro v w3 ⟨hQ, hu3⟩
     have hs3 := hu3.size
     replace hS2 := Upd.trans hS2 hu3 (by intro k hl hk; exact (show False from hk).elim)
     replace hU := hU.trans hu3 (by exact (fun _ _ h => h.elim))
     replace hH := hH.upd hu3 (fun k hk hl hS => by exact (show False from hS).elim)
     replace hPo := hPo.upd hu3 (fun k hk hl hS => by first | exact (show False from hS).elim)
     replace hRo := hRo.upd hu3 (fun k hk hl hS => by first | exact (show False from hS).elim)
     replace hbO := hbO.upd hu3 (fun hS => by first | exact (show False from hS))
     have hsq := (hu3).size
     have hk3 : kd = 3 := by omega
     subst hk3
     obtain rfl := h3 rfl
     obtain ⟨g2, A2, c2, hv2, hpos2, hro2, hbl2, hback2⟩ := hRo.roots
     injection hv2 with hv2 _ _
     rw [← hv2] at hpos2
     have hrow : rowAt g1 ys.length = rowAt g2 ys.length := by
       rcases Nat.eq_zero_or_pos ys.length with h0 | h0
       · rw [h0]; rfl
       · have e1 := (hpos1 h0).1
         rw [(hpos2 h0).1] at e1
         injection e1 with e1
         injection e1 with e1
         rw [e1]
     rw [hrow] at hQ
     have hg2 : ∀ k o, (k, o) ∈ rowAt g2 ys.length → Gr k ∧ k < (w3).heap.size := fun k o ho => by
       obtain ⟨rfl, ho2⟩ := rowAt_mem ho
       exact (hpos2 (by omega)).2
     have hg1 : ∀ k o, (k, o) ∈ rowAt g2 ys.length → k < (w2).heap.size := fun k o ho => by
       rw [← hrow] at ho
       obtain ⟨rfl, ho2⟩ := rowAt_mem ho
       exact (hpos1 (by omega)).2.2
     refine ⟨hS2, ?_⟩
     refine WN.step _ rfl (SO.call (puttextG_ok (S := fun k => k = p ∨ ∃ o, (k, o) ∈ rowAt g2 ys.length) (X := fun w' M N => RX w3 (rowAt g2 ys.length) ys mem st q (textN s) n w' M N) hH hs (roomR_ok (d := textN s) hH hn hv (hQ.bound.rd (by rw [rowAt_len]; omega)) (rowAt_nodup _ _) hro2 hbl2 (fun e he => (hRG _ (hg2 e.1 e.2 he).1).2.1) (fun k hk o ho => by have h5 := hk.1; simp only [New] at h5; have := hg1 k o ho; omega) (fun k hk => hk.2) (fun h => by have h5 := h.1; simp only [New] at h5; have := hH.hd.lt; have := hsz0; omega) (fun x hx2 => hx x (by simp [hx2])) (by rw [rowAt_len]; omega) (by unfold textN; omega)) (fun w1 w2 M N hsz h hu => h.upd hu (fun k ⟨o, ho⟩ hl hS => by have h5 := hg2 k o ho; rcases hS with h | h | h; exact (hRG k h5.1).1 h; exact (hRG k h5.1).2.1 h; omega))) rfl body_12 ⟨(ev_t rfl), (ev_t rfl), (ev_t rfl), trivial⟩ rfl rfl rfl rfl ?_)
     rintro v9 w4 ⟨G', A', c', mem', M, N, hH2, hG', hu4, hRX, hfit, hnof⟩
     have hs4 := hu4.size
     try replace hS2 := Upd.trans hS2 hu4 (by intro k hl hk; (rcases hk with h | h | h | ⟨o, h⟩; exact .inl h; exact .inr (.inl h); exact .inl h; exact .inr (.inr (.inl (hg2 _ _ h).1))))
     replace hU := hU.trans hu4 (by (intro k hl hk; first | exact (show False from hk).elim | exact hk | (simp only [At] at hk; (exfalso; omega)) | (rcases hk with h | h | h | ⟨o, h⟩; exact .inl h; exact .inr (.inl h); exact .inl h; exact .inr (.inr (.inl (hg2 _ _ h).1))) | (rcases hk with h | h | ⟨o, h⟩; exact .inl h; exact .inr (.inl h); rcases List.mem_append.1 h with h | h; exact .inr (.inr (.inl (hg2 _ _ h).1)); exact .inr (.inr (.inr (hg3 _ _ h).1)))))
     have hsz1 := (hu3).size
     obtain ⟨ys', hyl', hN, hro3, hps⟩ := hRX.puts hfit hnof
     have hRo2 := hback2 w4 _ _ hu4 (fun h0 k hk hl hS => by rcases hS with h | h | h | ⟨o, h⟩; exact (hRG k hk).1 h; exact (hRG k hk).2.1 h; exact (hRG k hk).1 h; have := (rowAt_mem h).2; omega) hro3
     obtain ⟨z1, z2, hz9⟩ : ∃ z1 z2, v9 = .tuple #[z1, z2] := by
       rcases hps with ⟨_, h, _⟩ | ⟨_, _, _, _, _, _, _, _, ⟨_, h, _⟩ | ⟨_, h, _⟩⟩ <;> exact ⟨_, _, h⟩
     subst hz9
     refine ⟨trivial, ?_⟩
     refine WN.calm _ rfl rfl rfl rfl rfl (fun _ => r_extract rfl (ev_t rfl) rfl) ?_
     refine WN.calm _ rfl rfl rfl rfl rfl (fun _ => r_extract rfl (ev_t rfl) rfl) ?_
     refine WN.calm _ rfl rfl rfl rfl rfl (fun _ => r_assign rfl (ev_t rfl)) ?_
     refine WN.calm _ rfl rfl rfl rfl rfl (fun _ => r_assign rfl (ev_t rfl)) ?_
     refine WN.done ?_
     refine WX.keep [(8, _), (9, _)] ⟨rfl, rfl, trivial⟩ ?_
     refine WX.next ?_
     refine WC.ret ?_
     refine WX.thenRet ?_
     refine WX.retE2 rfl rfl rfl ?_
     exact ⟨G', A', c', mem', N, ys', hH2, hyl', hN, fun k hk => by rcases hG' k hk with h | h; exact .inl h; exact .inr (by omega), hRo2, hU, hps⟩
  · try (exfalso; first | (simp at hc1; done) | (simp only [decide_eq_true_eq, decide_eq_false_iff_not, Bool.not_eq_true', Bool.not_eq_false', Bool.not_eq_true, Bool.not_eq_false] at hc1; omega) | omega)
    all_goals
     try simp only [decide_eq_true_eq, decide_eq_false_iff_not, Bool.not_eq_true', Bool.not_eq_false', Bool.not_eq_true, Bool.not_eq_false, Option.isNone_none, Option.isNone_some, Option.isSome_none, Option.isSome_some, ne_eq, Decidable.not_not] at hc1
     refine WC.skip ?_
     refine WX.next ?_
     refine WC.seq ?_
     refine WC.draws' (fun u0_ u1_ => Upd (fun k => k = p ∨ G k ∨ Gr k ∨ Gp k) u0_ u1_) (fun j => [0, 0, 0, 0, 0, 1, 2, 0, 0, 0, 0].getD j 0) (.calm 0 (.calm 1 (.calm 3 (.calm 4 (.held 2 (.one 5 (.one 6 (.calm 7 (.calm 8 (.calm 9 (.calm 10 (.done)))))))))))) mixed (by kernel_rfl) (by repeat (first | with_reducible exact Deaf.body | with_reducible apply Deaf.then)) ?_
     intro w5 hu5
     have hz5 := congrArg Array.size hu5.2.2.2
     replace hu5 := Upd.of_draw hu5
     have hs5 := hu5.size
     replace hU := hU.trans hu5 (by exact (fun _ _ h => h.elim))
     replace hH := hH.upd hu5 (fun k hk hl hS => by exact (show False from hS).elim)
     replace hPo := hPo.upd hu5 (fun k hk hl hS => by first | exact (show False from hS).elim)
     replace hRo := hRo.upd hu5 (fun k hk hl hS => by first | exact (show False from hS).elim)
     replace hbO := hbO.upd hu5 (fun hS => by first | exact (show False from hS))
     have hS3 := Upd.refl (fun k => k = p ∨ G k ∨ Gr k ∨ Gp k) w5
     refine WN.calm _ rfl rfl rfl rfl rfl (fun _ => r_move rfl (ev_t rfl)) ?_
     refine WN.calm _ rfl rfl rfl rfl rfl (fun _ => r_field0 rfl (ev_t rfl) fld_56_0) ?_
     refine WN.calm _ rfl rfl rfl rfl rfl (fun _ => r_move rfl (ev_t rfl)) ?_
     refine WN.calm _ rfl rfl rfl rfl rfl (fun _ => r_move rfl (ev_t rfl)) ?_
     refine WN.held _ rfl rfl rfl rfl rfl hS3 (fun w' hS => r_load rfl (ev_t rfl) flat_5 (Blk.cell (hbO.upd hS hbn) rfl)) ?_
     obtain ⟨g1, A1, c1, hv1, hpos1, -⟩ := hRo.roots
     injection hv1 with hv1 _ _
     rw [← hv1] at hpos1
     have hsz0 := hU.size
     refine WN.step _ rfl (SO.call (pointers_ok (g := g1) (hRo.rd (by omega)) (fun h => (hpos1 h).1) (by omega)) rfl body_13 ⟨(ev_t rfl), trivial⟩ rfl rfl rfl rfl ?_)
     rintro v w6 ⟨hQ, hu6⟩
     have hs6 := hu6.size
     replace hS3 := Upd.trans hS3 hu6 (by intro k hl hk; exact (show False from hk).elim)
     replace hU := hU.trans hu6 (by exact (fun _ _ h => h.elim))
     replace hH := hH.upd hu6 (fun k hk hl hS => by exact (show False from hS).elim)
     replace hPo := hPo.upd hu6 (fun k hk hl hS => by first | exact (show False from hS).elim)
     replace hRo := hRo.upd hu6 (fun k hk hl hS => by first | exact (show False from hS).elim)
     replace hbO := hbO.upd hu6 (fun hS => by first | exact (show False from hS))
     have hsq := (hu6).size
     have hk3 : kd ≠ 3 := by omega
     obtain ⟨g2, A2, c2, hv2, hpos2, hro2, hbl2, hback2⟩ := hRo.roots
     injection hv2 with hv2 _ _
     rw [← hv2] at hpos2
     have hrow : rowAt g1 ys.length = rowAt g2 ys.length := by
       rcases Nat.eq_zero_or_pos ys.length with h0 | h0
       · rw [h0]; rfl
       · have e1 := (hpos1 h0).1
         rw [(hpos2 h0).1] at e1
         injection e1 with e1
         injection e1 with e1
         rw [e1]
     rw [hrow] at hQ
     have hg2 : ∀ k o, (k, o) ∈ rowAt g2 ys.length → Gr k ∧ k < (w6).heap.size := fun k o ho => by
       obtain ⟨rfl, ho2⟩ := rowAt_mem ho
       exact (hpos2 (by omega)).2
     have hg3 : ∀ k o, (k, o) ∈ rowAt gp ps.length → Gp k ∧ k < w.heap.size := fun k o ho => by
       obtain ⟨rfl, ho2⟩ := rowAt_mem ho
       exact (hposp (by omega)).2
     refine ⟨hS3, ?_⟩
     refine WN.step _ rfl (SO.call (putR_ok (gp := gp) hH hn hv (hQ.bound.rd (by rw [rowAt_len]; omega)) (rowAt_nodup _ _) hro2 hbl2 (fun e he => (hRG _ (hg2 e.1 e.2 he).1).2.1) (fun k hk => hk.2) hPo ⟨cP, by rw [hAP]⟩ (fun k hk => ⟨(hPG k hk).1, (hPG k hk).2.1, fun o ho => (hPG k hk).2.2.1 (hg2 k o ho).1⟩) hx (by rw [rowAt_len]; omega) hpl ⟨hkd, hk3⟩) rfl body_38 ⟨(ev_t rfl), (ev_t rfl), (ev_t rfl), (ev_t rfl), trivial⟩ rfl rfl rfl rfl ?_)
     rintro v9 w7 ⟨G', A', c', mem', N, hH2, hG', hu7, hPX⟩
     have hs7 := hu7.size
     try replace hS3 := Upd.trans hS3 hu7 (by intro k hl hk; (rcases hk with h | h | ⟨o, h⟩; exact .inl h; exact .inr (.inl h); rcases List.mem_append.1 h with h | h; exact .inr (.inr (.inl (hg2 _ _ h).1)); exact .inr (.inr (.inr (hg3 _ _ h).1))))
     replace hU := hU.trans hu7 (by (intro k hl hk; first | exact (show False from hk).elim | exact hk | (simp only [At] at hk; (exfalso; omega)) | (rcases hk with h | h | h | ⟨o, h⟩; exact .inl h; exact .inr (.inl h); exact .inl h; exact .inr (.inr (.inl (hg2 _ _ h).1))) | (rcases hk with h | h | ⟨o, h⟩; exact .inl h; exact .inr (.inl h); rcases List.mem_append.1 h with h | h; exact .inr (.inr (.inl (hg2 _ _ h).1)); exact .inr (.inr (.inr (hg3 _ _ h).1)))))
     have hsz1 := (hu6).size
     obtain ⟨ys', hyl', hN, hro3, hps⟩ := hPX.puts (s := s) hk3 (fun k o o' h1 h2 => (hPG k (hg3 k o' h2).1).2.2.1 (hg2 k o h1).1)
     have hRo2 := hback2 w7 _ _ hu7 (fun h0 k hk hl hS => by rcases hS with h | h | ⟨o, h⟩; exact (hRG k hk).1 h; exact (hRG k hk).2.1 h; rcases List.mem_append.1 h with h | h; have := (rowAt_mem h).2; omega; exact (hPG k (hg3 k o h).1).2.2.1 hk) hro3
     obtain ⟨z1, z2, hz9⟩ : ∃ z1 z2, v9 = .tuple #[z1, z2] := by
       rcases hps with ⟨_, h, _⟩ | ⟨_, _, _, _, _, _, _, _, ⟨_, h, _⟩ | ⟨_, h, _⟩⟩ <;> exact ⟨_, _, h⟩
     subst hz9
     refine ⟨trivial, ?_⟩
     refine WN.calm _ rfl rfl rfl rfl rfl (fun _ => r_extract rfl (ev_t rfl) rfl) ?_
     refine WN.calm _ rfl rfl rfl rfl rfl (fun _ => r_extract rfl (ev_t rfl) rfl) ?_
     refine WN.calm _ rfl rfl rfl rfl rfl (fun _ => r_assign rfl (ev_t rfl)) ?_
     refine WN.calm _ rfl rfl rfl rfl rfl (fun _ => r_assign rfl (ev_t rfl)) ?_
     refine WN.done ?_
     refine WX.keep [(8, _), (9, _)] ⟨rfl, rfl, trivial⟩ ?_
     refine WX.next ?_
     refine WC.ret ?_
     refine WX.retE2 rfl rfl rfl ?_
     exact ⟨G', A', c', mem', N, ys', hH2, hyl', hN, fun k hk => by rcases hG' k hk with h | h; exact .inl h; exact .inr (by omega), hRo2, hU, hps⟩
end Go.Proofs.YtdpnnclkkbfihaaDoor
