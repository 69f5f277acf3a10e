/-
  The law's back; the reference's Right; Load of good words.
-/
import Derived.Test.YtdpnnclkkbfihaaDoorHeva
namespace Go.Proofs.YtdpnnclkkbfihaaDoor
open Go
set_option linter.unusedSimpArgs false
set_option linter.unusedVariables false

theorem back_ok {w : World} {F : Nat → Prop} {v : Value} {l : List Nat} (hr : Rd w F v l.length 1 (l.map Wd)) (hn : l.length ≤ 1000000000) :
    Ret Tryd.prog 27 #[v] w fun v' w' => Own w' (New w w') tWord 1 v' l.length (l.map Wd) ∧ Upd No w w' := by
  replace hr := hr.bound
  obtain ⟨A, c, rfl, hc⟩ := hr.slice_form
  generalize hF : (fun k => F k ∧ k < w.heap.size) = F' at hr
  have hFl : ∀ k, F' k → k < w.heap.size := by subst hF; exact fun k h => h.2
  refine enterRet (vs := [_]) (N := 19) Tryd.func27 rfl rfl rfl ?_
  have hU := Upd.refl No w
  refine WC.keep [(0, _)] ⟨rfl, trivial⟩ ?_
  refine WC.seq ?_
  refine WC.region ?_
  refine WL.val rfl rfl rfl rfl (r_assign rfl ev_c) ?_
  refine WL.nil ?_
  refine WX.keep [(0, _)] ⟨rfl, trivial⟩ ?_
  refine WX.next ?_
  refine WC.seq ?_
  refine WC.region ?_
  refine WL.val rfl rfl rfl rfl (r_assign rfl ev_c) ?_
  refine WL.nil ?_
  refine WX.keep [(0, _), (3, _)] ⟨rfl, rfl, trivial⟩ ?_
  refine WX.next ?_
  refine WC.seq ?_
  refine WC.seq ?_
  refine WC.region ?_
  refine WL.val rfl rfl rfl rfl (r_assign rfl ev_c) ?_
  refine WL.nil ?_
  refine WX.keep [(0, _), (3, _), (4, _)] ⟨rfl, rfl, rfl, trivial⟩ ?_
  refine WX.next ?_
  refine WC.block ?_
  -- loop 1: live [0, 3, 4]
  refine WC.keep [(0, _), (3, _), (4, _)] ⟨rfl, rfl, rfl, trivial⟩ ?_
  refine WC.loop (fun qq E wC => ∃ (j : Nat) (v1 : Value), j ≤ l.length ∧ qq = l.length - j ∧ Upd No w wC ∧ Rd wC F' (.slice A l.length c) l.length 1 (l.map Wd) ∧ Own wC (New w wC) tWord 1 v1 j ((l.take j).map Wd) ∧ E = [(0, .slice A l.length c), (3, v1), (4, .int .i64 (j : Int))]) (l.length) ?_ ?_
  · exact ⟨0, _, by omega, by omega, hU, hr, by simpa using Own.nil _ _ _ _, rfl⟩
  · clear hU hr
    rintro qq E wC ⟨j, v1, hj, rfl, hU, hr, how, rfl⟩
    have hUs := hU.size
    refine WC.seq ?_
    refine WC.seq ?_
    refine WC.region ?_
    refine WL.val rfl rfl rfl rfl (r_move rfl (ev_t rfl)) ?_
    refine WL.val rfl rfl rfl rfl (r_move rfl (ev_t rfl)) ?_
    refine WL.val rfl rfl rfl rfl (r_lenSlice (ts := #[]) rfl (ev_t rfl) elem_46) ?_
    refine WL.val rfl rfl rfl rfl (r_lss rfl (ev_t rfl) (ev_t rfl)) ?_
    refine WL.nil ?_
    refine WX.keep [(0, _), (3, _), (4, _), (8, _)] ⟨rfl, rfl, rfl, rfl, trivial⟩ ?_
    refine WX.next ?_
    refine WC.cond rfl (ev_t rfl) (fun hc3 => ?_) (fun hc3 => ?_)
    · try (exfalso; first | (simp at hc3; done) | (simp only [decide_eq_true_eq, decide_eq_false_iff_not, Bool.not_eq_true', Bool.not_eq_false', Bool.not_eq_true, Bool.not_eq_false] at hc3; omega) | omega)
      all_goals
       try simp only [decide_eq_true_eq, decide_eq_false_iff_not, Bool.not_eq_true', Bool.not_eq_false', Bool.not_eq_true, Bool.not_eq_false, Option.isNone_none, Option.isNone_some, Option.isSome_none, Option.isSome_some, ne_eq, Decidable.not_not] at hc3
       have hjl : j < l.length := by simpa using hc3
       obtain ⟨b0, off, rfl, _⟩ := hr.open (by omega)
       refine WC.skip ?_
       refine WX.next ?_
       refine WC.seq ?_
       refine WC.block ?_
       refine WC.region ?_
       refine WL.val rfl rfl rfl rfl (r_move rfl (ev_t rfl)) ?_
       refine WL.val rfl rfl rfl rfl (r_move rfl (ev_t rfl)) ?_
       refine WL.val rfl rfl rfl rfl (r_move rfl (ev_t rfl)) ?_
       refine WL.val rfl rfl rfl rfl (r_indexAddr rfl (ev_t rfl) (ev_t rfl) elem_46 size_31 (by omega) (by omega)) ?_
       refine WL.val rfl rfl rfl rfl (r_load rfl (ev_t rfl) flat_31 (hr.cell (j := j) (u := Wd l[j]) (by omega) (by rw [List.getElem?_map, List.getElem?_eq_getElem hjl]; rfl))) ?_
       refine WL.cons (SO.alloc rfl rfl rfl rfl (r_buildSlice1 (vs := [_]) rfl ⟨(ev_t rfl), trivial⟩ rfl row_30 rfl rfl) ?_)
       intro w1 hu1 hB1 hz1
       have hs1 := hu1.size
       replace hU := hU.trans hu1 (by first | exact (fun _ _ h => h) | exact (fun _ _ h => h.elim) | (intro k hl hk; (try simp only [At, New, Grow, From, No] at hk ⊢); omega) | (intro k hl hk; first | exact (show False from hk).elim | (have h2 := hk.1; omega)))
       replace hr := hr.upd hu1 (fun k hk hl hS => by first | exact (show False from hS).elim | (have h1 := hFl k hk; have h2 := hS.1; omega))
       replace how := how.upd hu1 (fun k hk hl hS => (show False from hS).elim)
       refine WL.cons (SO.append how (show Rd _ _ _ 1 1 [Wd l[j]] from Rd.of_blk (F := At _) (n := 1) (sz := 1) hB1 rfl rfl (by omega)) row_30 (fun u hu => by simp at hu; subst hu; rfl) (le_maxLen (by omega)) (by omega) rfl (ev_t rfl) (ev_t rfl) rfl rfl rfl rfl ?_)
       intro v2 w2 how hu2
       have hs2 := hu2.size
       replace hU := hU.trans hu2 (by first | exact (fun _ _ h => h) | exact (fun _ _ h => h.elim) | (intro k hl hk; (try simp only [At, New, Grow, From, No] at hk ⊢); omega) | (intro k hl hk; first | exact (show False from hk).elim | (have h2 := hk.1; omega)))
       replace hr := hr.upd hu2 (fun k hk hl hS => by first | exact (show False from hS).elim | (have h1 := hFl k hk; have h2 := hS.1; omega))
       obtain ⟨A2, c2, rfl, hc2⟩ := Own.form how
       refine WL.val rfl rfl rfl rfl (r_assign rfl (ev_t rfl)) ?_
       refine WL.nil ?_
       refine WX.keep [(0, _), (3, _), (4, _)] ⟨rfl, rfl, rfl, trivial⟩ ?_
       refine WX.blockNormal ?_
       refine WX.next ?_
       refine WC.region ?_
       refine WL.val rfl rfl rfl rfl (r_move rfl (ev_t rfl)) ?_
       first | refine WL.val rfl rfl rfl rfl (r_addN rfl (ev_t rfl) ev_c (by simp only [inK]; omega)) ?_ | refine WL.val rfl rfl rfl rfl (r_add rfl (ev_t rfl) ev_c) ?_
       refine WL.val rfl rfl rfl rfl (r_assign rfl (ev_t rfl)) ?_
       refine WL.nil ?_
       refine WX.keep [(0, _), (3, _), (4, _)] ⟨rfl, rfl, rfl, trivial⟩ ?_
       refine WX.meet [(0, _), (3, _), (4, _)] ⟨rfl, rfl, rfl, trivial⟩ ?_
       refine ⟨l.length - (j + 1), by omega, j + 1, _, by omega, rfl, hU, hr, ?_, rfl⟩
       have e1 : (l.take j).map Wd ++ [Wd l[j]] = (l.take (j + 1)).map Wd := by rw [take_get (List.getElem?_eq_getElem hjl), List.map_append]; rfl
       rw [e1] at how
       have hUt := hU.size
       refine how.mono (fun k hk => ?_)
       simp only [Grow, New] at hk ⊢
       have hs9 := (hu2).size
       omega
    · try (exfalso; first | (simp at hc3; done) | (simp only [decide_eq_true_eq, decide_eq_false_iff_not, Bool.not_eq_true', Bool.not_eq_false', Bool.not_eq_true, Bool.not_eq_false] at hc3; omega) | omega)
      all_goals
       try simp only [decide_eq_true_eq, decide_eq_false_iff_not, Bool.not_eq_true', Bool.not_eq_false', Bool.not_eq_true, Bool.not_eq_false, Option.isNone_none, Option.isNone_some, Option.isSome_none, Option.isSome_some, ne_eq, Decidable.not_not] at hc3
       refine WC.exit ?_
       refine WX.thenExit ?_
       refine WX.thenExit ?_
       refine WX.blockHere ?_
       refine WX.next ?_
       refine WC.seq ?_
       refine WC.region ?_
       refine WL.val rfl rfl rfl rfl (r_move rfl (ev_t rfl)) ?_
       refine WL.val rfl rfl rfl rfl (r_assign rfl (ev_t rfl)) ?_
       refine WL.nil ?_
       refine WX.keep [(2, _)] ⟨rfl, trivial⟩ ?_
       refine WX.next ?_
       refine WC.ret ?_
       refine WX.retE1 rfl rfl ?_
       obtain rfl : j = l.length := by
         have : ¬ j < l.length := by simpa using hc3
         omega
       rw [List.take_length] at how
       exact ⟨how, hU⟩

/-! ### the places of the objects -/
def TP (l st : List Nat) (m : Nat) : Prop := ∀ rest, Tile l m rest → Tile l 0 (st ++ rest)
theorem TP.zero (l : List Nat) : TP l [] 0 := fun _ h => h
theorem TP.snoc {l st : List Nat} {m : Nat} (h : TP l st m) (hm : m + szAt l m ≤ l.length) : TP l (st ++ [m]) (m + szAt l m) := fun rest hr => by
  rw [List.append_assoc]
  exact h _ ⟨rfl, hm, hr⟩
/-- bools that say which places are the first ones of objects -/
def FL (l st : List Nat) (fl : List Bool) : Prop := fl.length = l.length ∧ ∀ x, x < l.length → fl[x]? = some (decide (x ∈ st))
theorem FL.zero (l : List Nat) : FL l [] (List.replicate l.length false) := ⟨by simp, fun x hx => by simp [List.getElem?_replicate, hx]⟩
theorem FL.snoc {l st : List Nat} {fl : List Bool} {m : Nat} (h : FL l st fl) (hm : m < l.length) : FL l (st ++ [m]) (fl.set m true) := by
  refine ⟨by rw [List.length_set]; exact h.1, fun x hx => ?_⟩
  rw [List.getElem?_set]
  by_cases e : m = x
  · subst e; rw [if_pos rfl, if_pos (by rw [h.1]; exact hm)]; simp
  · rw [if_neg e, h.2 x hx]; simp [e, Ne.symm e]
theorem flRow_set {fl : List Bool} {a : Nat} {y : Bool} : ((fl.map Value.bool).toArray.setIfInBounds a (.bool y)) = ((fl.set a y).map Value.bool).toArray := by
  rw [List.map_set]; simp
theorem flRow_new (n : Nat) : rowCells (.bool false) n = ((List.replicate n false).map Value.bool).toArray := by
  have : ∀ n, (rowCells (.bool false) n).toList = (List.replicate n false).map Value.bool := fun n => by
    unfold rowCells
    induction n with
    | zero => rfl
    | succ n ih =>
      rw [List.replicate_succ, List.replicate_succ, List.map_cons, List.flatten_cons]
      simp only at ih ⊢
      rw [ih]
      rfl
  rw [← this, Array.toArray_toList]
theorem valid_good {l : List Nat} {a : Nat} (h : validAt l a) : a < l.length ∧ a + szAt l a ≤ l.length ∧ 1 ≤ l.getD a 0 % 256 ∧ l.getD a 0 % 256 ≤ 6 := ⟨h.1, h.2.2.2.2, h.2.1, h.2.2.1⟩
theorem Tile.head_ {l st : List Nat} {m : Nat} (h : Tile l m st) (hm : m < l.length) : ∃ r, st = m :: r ∧ m + szAt l m ≤ l.length ∧ Tile l (m + szAt l m) r := by
  cases st with
  | nil => simp only [Tile] at h; omega
  | cons a r => obtain ⟨rfl, h1, h2⟩ := h; exact ⟨r, rfl, h1, h2⟩
theorem parts_mem {l : List Nat} {a x : Nat} (h : x ∈ parts l a) : x ∈ l := by
  unfold parts at h
  split at h
  · cases h
  · exact List.mem_of_mem_drop (List.mem_of_mem_take h)
theorem tdiv_two {z : Nat} (h : z < 18446744073709551616) : IntKind.u64.wrap ((z : Int).tdiv 2) = ((z / 2 : Nat) : Int) := by
  rw [show (z : Int).tdiv 2 = ((z / 2 : Nat) : Int) from rfl, wrap_u64]
  omega
theorem hd_u {x : Nat} : (x : Int) / 2 ^ Int.toNat 8 = ((x / 256 : Nat) : Int) := by
  rw [show (2 : Int) ^ Int.toNat 8 = 256 by decide]; omega
theorem even_half {x : Nat} : ((x : Int).tmod 2 = 0 ↔ x % 2 = 0) := by
  rw [show (x : Int).tmod 2 = ((x % 2 : Nat) : Int) from rfl]; omega
set_option maxHeartbeats 4000000 in
theorem right_ok {w : World} {F : Nat → Prop} {v : Value} {l : List Nat} (hr : Rd w F v l.length 1 (l.map Wd)) (hn : l.length ≤ 2000) (hF : ∀ k, F k → k < w.heap.size) (hw : ∀ y ∈ l, y < 18446744073709551616) :
    Ret Tryd.prog 25 #[v] w fun v' w' => ∃ b, v' = .bool b ∧ Upd No w w' ∧ (b = true → ∃ st, GoodH l st) := by
  obtain ⟨A, c, rfl, hc⟩ := hr.slice_form
  generalize hB : w.heap.size = B at *
  refine enterRet (vs := [_]) (N := 77) Tryd.func25 rfl rfl rfl ?_
  have hU := Upd.refl No w
  refine WC.keep [(0, _)] ⟨rfl, trivial⟩ ?_
  refine WC.seq ?_
  refine WC.region ?_
  refine WL.val rfl rfl rfl rfl (r_assign rfl ev_c) ?_
  refine WL.nil ?_
  refine WX.keep [(0, _)] ⟨rfl, trivial⟩ ?_
  refine WX.next ?_
  refine WC.seq ?_
  refine WC.region ?_
  refine WL.val rfl rfl rfl rfl (r_move rfl (ev_t rfl)) ?_
  refine WL.val rfl rfl rfl rfl (r_lenSlice (ts := #[]) rfl (ev_t rfl) elem_46) ?_
  refine WL.cons (SO.alloc rfl rfl rfl rfl (r_makeSlice (n := l.length) rfl (ev_t rfl) (ev_t rfl) row_93 (by omega) (by omega)) ?_)
  intro w1 hu1 hfl hzm
  obtain ⟨bF, hbF⟩ : ∃ g, g = w.heap.size := ⟨_, rfl⟩
  rw [← hbF] at hfl ⊢
  rw [flRow_new] at hfl
  have hs1 := hu1.size
  replace hU := hU.trans hu1 (by first | exact (fun _ _ h => h) | exact (fun _ _ h => h.elim) | (intro k hl hk; (try simp only [At, New, Grow, From, No] at hk ⊢); omega) | (intro k hl hk; first | exact (show False from hk).elim | (simp only [At] at hk; omega)))
  replace hr := hr.upd hu1 (fun k hk hl hS => by have h1 := hF k hk; first | exact (show False from hS).elim | (simp only [At] at hS; omega))
  refine WL.val rfl rfl rfl rfl (r_assign rfl (ev_t rfl)) ?_
  refine WL.nil ?_
  refine WX.keep [(0, _), (3, _)] ⟨rfl, rfl, trivial⟩ ?_
  refine WX.next ?_
  refine WC.seq ?_
  refine WC.seq ?_
  refine WC.region ?_
  refine WL.val rfl rfl rfl rfl (r_assign rfl ev_c) ?_
  refine WL.nil ?_
  refine WX.keep [(0, _), (3, _), (4, _)] ⟨rfl, rfl, rfl, trivial⟩ ?_
  refine WX.next ?_
  refine WC.block ?_
  -- loop 1: live [0, 3, 4]
  refine WC.keep [(0, _), (3, _), (4, _)] ⟨rfl, rfl, rfl, trivial⟩ ?_
  refine WC.loop (fun qq E wC => ∃ (m : Nat) (st : List Nat) (fl : List Bool), m ≤ l.length ∧ qq = l.length - m ∧ TP l st m ∧ FL l st fl ∧ (∀ a ∈ st, 1 ≤ l.getD a 0 % 256 ∧ l.getD a 0 % 256 ≤ 6) ∧ Upd No w wC ∧ Rd wC F (.slice A l.length c) l.length 1 (l.map Wd) ∧ Blk wC bF (fl.map Value.bool).toArray 4 ∧ E = [(0, .slice A l.length c), (3, .slice (some ⟨bF, 0, none⟩) l.length l.length), (4, .int .i64 (m : Int))]) (l.length) ?_ ?_
  · exact ⟨0, [], _, by omega, by omega, TP.zero l, FL.zero l, fun _ h => (by cases h), hU, hr, hfl, rfl⟩
  · clear hU hr hfl
    rintro qq E wC ⟨m, st, fl, hm, rfl, hTP, hFL, hkd, hU, hr, hfl, rfl⟩
    have hUs := hU.size
    have hbl := hfl.lt
    refine WC.seq ?_
    refine WC.seq ?_
    refine WC.region ?_
    refine WL.val rfl rfl rfl rfl (r_move rfl (ev_t rfl)) ?_
    refine WL.val rfl rfl rfl rfl (r_move rfl (ev_t rfl)) ?_
    refine WL.val rfl rfl rfl rfl (r_lenSlice (ts := #[]) rfl (ev_t rfl) elem_46) ?_
    refine WL.val rfl rfl rfl rfl (r_lss rfl (ev_t rfl) (ev_t rfl)) ?_
    refine WL.nil ?_
    refine WX.keep [(0, _), (3, _), (4, _), (18, _)] ⟨rfl, rfl, rfl, rfl, trivial⟩ ?_
    refine WX.next ?_
    refine WC.cond rfl (ev_t rfl) (fun hc3 => ?_) (fun hc3 => ?_)
    · try (exfalso; first | (simp at hc3; done) | (simp only [decide_eq_true_eq, decide_eq_false_iff_not, Bool.not_eq_true', Bool.not_eq_false', Bool.not_eq_true, Bool.not_eq_false] at hc3; omega) | omega)
      all_goals
       try simp only [decide_eq_true_eq, decide_eq_false_iff_not, Bool.not_eq_true', Bool.not_eq_false', Bool.not_eq_true, Bool.not_eq_false, Option.isNone_none, Option.isNone_some, Option.isSome_none, Option.isSome_some, ne_eq, Decidable.not_not] at hc3
       have hml : m < l.length := by omega
       refine WC.skip ?_
       refine WX.next ?_
       refine WC.block ?_
       refine WC.seq ?_
       refine WC.region ?_
       refine WL.val rfl rfl rfl rfl (r_move rfl (ev_t rfl)) ?_
       refine WL.val rfl rfl rfl rfl (r_move rfl (ev_t rfl)) ?_
       refine WL.cons (SO.call (at9_ok hr (by omega) (by omega) (fun k hk => by have := hF k hk; omega) hw) rfl body_28 ⟨(ev_t rfl), (ev_t rfl), trivial⟩ rfl rfl rfl rfl ?_)
       rintro v w2 ⟨kd, n9, vP, ps, s9, rfl, hP, hu2, hres⟩
       obtain ⟨AP, cP, rfl, _⟩ := hP.form
       have hs2 := hu2.size
       replace hU := hU.trans hu2 (by first | exact (fun _ _ h => h) | exact (fun _ _ h => h.elim) | (intro k hl hk; (try simp only [At, New, Grow, From, No] at hk ⊢); omega) | (intro k hl hk; first | exact (show False from hk).elim | (simp only [At] at hk; omega)))
       replace hr := hr.upd hu2 (fun k hk hl hS => by have h1 := hF k hk; first | exact (show False from hS).elim | (simp only [At] at hS; omega))
       replace hfl := hfl.upd hu2 (fun hS => by first | exact (show False from hS) | (simp only [At] at hS; omega))
       refine WL.val rfl rfl rfl rfl (r_move rfl (ev_t rfl)) ?_
       refine WL.val rfl rfl rfl rfl (r_extract rfl (ev_t rfl) rfl) ?_
       refine WL.val rfl rfl rfl rfl (r_extract rfl (ev_t rfl) rfl) ?_
       refine WL.cons (SO.alloc rfl rfl rfl rfl (r_alloc rfl zero_56) ?_)
       intro w3 hu3 hB3 hz3
       have hs3 := hu3.size
       replace hU := hU.trans hu3 (by first | exact (fun _ _ h => h) | exact (fun _ _ h => h.elim) | (intro k hl hk; (try simp only [At, New, Grow, From, No] at hk ⊢); omega) | (intro k hl hk; first | exact (show False from hk).elim | (simp only [At] at hk; omega)))
       replace hr := hr.upd hu3 (fun k hk hl hS => by have h1 := hF k hk; first | exact (show False from hS).elim | (simp only [At] at hS; omega))
       replace hfl := hfl.upd hu3 (fun hS => by first | exact (show False from hS) | (simp only [At] at hS; omega))
       refine WL.cons (SO.storeAll (us := [_, _, _]) rfl (ev_t rfl) (ev_t rfl) size_56 hB3 rfl rfl rfl rfl rfl ?_)
       intro w4 hu4 hB3 hz4
       have hs4 := hu4.size
       replace hU := hU.trans hu4 (by first | exact (fun _ _ h => h) | exact (fun _ _ h => h.elim) | (intro k hl hk; (try simp only [At, New, Grow, From, No] at hk ⊢); omega) | (intro k hl hk; first | exact (show False from hk).elim | (simp only [At] at hk; omega)))
       replace hr := hr.upd hu4 (fun k hk hl hS => by have h1 := hF k hk; first | exact (show False from hS).elim | (simp only [At] at hS; omega))
       replace hfl := hfl.upd hu4 (fun hS => by first | exact (show False from hS) | (simp only [At] at hS; omega))
       refine WL.val rfl rfl rfl rfl (r_assign rfl (ev_t rfl)) ?_
       refine WL.nil ?_
       refine WX.keep [(0, _), (3, _), (4, _), (6, _)] ⟨rfl, rfl, rfl, rfl, trivial⟩ ?_
       refine WX.next ?_
       refine WC.seq ?_
       refine WC.seq ?_
       refine WC.region ?_
       refine WL.val rfl rfl rfl rfl (r_move rfl (ev_t rfl)) ?_
       refine WL.val rfl rfl rfl rfl (r_eql rfl (ev_t rfl) ev_c) ?_
       refine WL.nil ?_
       refine WX.keep [(0, _), (3, _), (4, _), (6, _), (26, _)] ⟨rfl, rfl, rfl, rfl, rfl, trivial⟩ ?_
       refine WX.next ?_
       refine WC.cond rfl (ev_t rfl) (fun hc5 => ?_) (fun hc5 => ?_)
       · try (exfalso; first | (simp at hc5; done) | (simp only [decide_eq_true_eq, decide_eq_false_iff_not, Bool.not_eq_true', Bool.not_eq_false', Bool.not_eq_true, Bool.not_eq_false] at hc5; omega) | omega)
         all_goals
          try simp only [decide_eq_true_eq, decide_eq_false_iff_not, Bool.not_eq_true', Bool.not_eq_false', Bool.not_eq_true, Bool.not_eq_false, Option.isNone_none, Option.isNone_some, Option.isSome_none, Option.isSome_some, ne_eq, Decidable.not_not] at hc5
          refine WC.seq ?_
          refine WC.region ?_
          refine WL.val rfl rfl rfl rfl (r_assign rfl ev_c) ?_
          refine WL.nil ?_
          refine WX.keep [(2, _)] ⟨rfl, trivial⟩ ?_
          refine WX.next ?_
          refine WC.ret ?_
          refine WX.thenRet ?_
          refine WX.blockRet ?_
          refine WX.thenRet ?_
          refine WX.blockRet ?_
          refine WX.thenRet ?_
          refine WX.retE1 rfl rfl ?_
          exact ⟨false, rfl, hU, fun h => by cases h⟩
       · try (exfalso; first | (simp at hc5; done) | (simp only [decide_eq_true_eq, decide_eq_false_iff_not, Bool.not_eq_true', Bool.not_eq_false', Bool.not_eq_true, Bool.not_eq_false] at hc5; omega) | omega)
         all_goals
          try simp only [decide_eq_true_eq, decide_eq_false_iff_not, Bool.not_eq_true', Bool.not_eq_false', Bool.not_eq_true, Bool.not_eq_false, Option.isNone_none, Option.isNone_some, Option.isSome_none, Option.isSome_some, ne_eq, Decidable.not_not] at hc5
          have hv9 : validAt l m ∧ n9 = szAt l m := by
            rcases hres with ⟨_, h⟩ | ⟨h1, h2, _⟩
            · exfalso; omega
            · exact ⟨h1, h2⟩
          obtain ⟨hval, rfl⟩ := hv9
          obtain ⟨_, g1, g2, g3⟩ := valid_good hval
          refine WC.skip ?_
          refine WX.next ?_
          refine WC.seq ?_
          refine WC.region ?_
          refine WL.val rfl rfl rfl rfl (r_move rfl (ev_t rfl)) ?_
          refine WL.val rfl rfl rfl rfl (r_move rfl (ev_t rfl)) ?_
          refine WL.val rfl rfl rfl rfl (r_indexAddr rfl (ev_t rfl) (ev_t rfl) elem_93 size_4 (by omega) (by omega)) ?_
          refine WL.cons (SO.store rfl (ev_t rfl) ev_c size_4 hfl (by rw [Nat.blt_eq]; simp [hFL.1]; omega) rfl rfl rfl rfl ?_)
          intro w5 hu5 hfl2 hz3
          rw [show 0 + (m : Int).toNat * 1 = m by omega, flRow_set] at hfl2
          have hs5 := hu5.size
          replace hU := hU.trans hu5 (by first | exact (fun _ _ h => h) | exact (fun _ _ h => h.elim) | (intro k hl hk; (try simp only [At, New, Grow, From, No] at hk ⊢); omega) | (intro k hl hk; first | exact (show False from hk).elim | (simp only [At] at hk; omega)))
          replace hr := hr.upd hu5 (fun k hk hl hS => by have h1 := hF k hk; first | exact (show False from hS).elim | (simp only [At] at hS; omega))
          have hfl := hfl2
          refine WL.nil ?_
          refine WX.keep [(0, _), (3, _), (4, _), (6, _)] ⟨rfl, rfl, rfl, rfl, trivial⟩ ?_
          refine WX.next ?_
          refine WC.region ?_
          refine WL.val rfl rfl rfl rfl (r_move rfl (ev_t rfl)) ?_
          refine WL.val rfl rfl rfl rfl (r_move rfl (ev_t rfl)) ?_
          first | refine WL.val rfl rfl rfl rfl (r_addN rfl (ev_t rfl) (ev_t rfl) (by simp only [inK]; omega)) ?_ | refine WL.val rfl rfl rfl rfl (r_add rfl (ev_t rfl) (ev_t rfl)) ?_
          refine WL.val rfl rfl rfl rfl (r_assign rfl (ev_t rfl)) ?_
          refine WL.nil ?_
          refine WX.keep [(0, _), (3, _), (4, _)] ⟨rfl, rfl, rfl, trivial⟩ ?_
          refine WX.blockNormal ?_
          refine WX.meet [(0, _), (3, _), (4, _)] ⟨rfl, rfl, rfl, trivial⟩ ?_
          refine ⟨l.length - (m + szAt l m), by have := szAt_pos l m; omega, m + szAt l m, st ++ [m], _, by omega, rfl, hTP.snoc g1, hFL.snoc hml, ?_, hU, hr, hfl, rfl⟩
          intro a ha
          rcases List.mem_append.1 ha with ha | ha
          · exact hkd a ha
          · simp at ha; subst ha; exact ⟨g2, g3⟩
    · try (exfalso; first | (simp at hc3; done) | (simp only [decide_eq_true_eq, decide_eq_false_iff_not, Bool.not_eq_true', Bool.not_eq_false', Bool.not_eq_true, Bool.not_eq_false] at hc3; omega) | omega)
      all_goals
       try simp only [decide_eq_true_eq, decide_eq_false_iff_not, Bool.not_eq_true', Bool.not_eq_false', Bool.not_eq_true, Bool.not_eq_false, Option.isNone_none, Option.isNone_some, Option.isSome_none, Option.isSome_some, ne_eq, Decidable.not_not] at hc3
       refine WC.exit ?_
       refine WX.thenExit ?_
       refine WX.thenExit ?_
       refine WX.blockHere ?_
       refine WX.next ?_
       refine WC.seq ?_
       refine WC.seq ?_
       obtain rfl : m = l.length := by omega
       have hTl : Tile l 0 st := by have := hTP [] rfl; simpa using this
       refine WC.region ?_
       refine WL.val rfl rfl rfl rfl (r_assign rfl ev_c) ?_
       refine WL.nil ?_
       refine WX.keep [(0, _), (3, _), (7, _)] ⟨rfl, rfl, rfl, trivial⟩ ?_
       refine WX.next ?_
       refine WC.block ?_
       -- loop 2: live [0, 3, 7]
       refine WC.keep [(0, _), (3, _), (7, _)] ⟨rfl, rfl, rfl, trivial⟩ ?_
       refine WC.loop (fun qq E wC => ∃ (m k : Nat), m ≤ l.length ∧ qq = l.length - m ∧ Tile l m (st.drop k) ∧ (∀ j a, j < k → st[j]? = some a → ∀ x ∈ parts l a, x % 2 = 1 ∨ x / 2 ∈ st) ∧ Upd No w wC ∧ Rd wC F (.slice A l.length c) l.length 1 (l.map Wd) ∧ Blk wC bF (fl.map Value.bool).toArray 4 ∧ E = [(0, .slice A l.length c), (3, .slice (some ⟨bF, 0, none⟩) l.length l.length), (7, .int .i64 (m : Int))]) (l.length) ?_ ?_
       · exact ⟨0, 0, by omega, by omega, hTl, fun j a h => absurd h (by omega), hU, hr, hfl, rfl⟩
       · clear hU hr hfl
         rintro qq E wC ⟨m, k, hm, rfl, hTm, hrefs, hU, hr, hfl, rfl⟩
         have hUs := hU.size
         have hbl := hfl.lt
         refine WC.seq ?_
         refine WC.seq ?_
         refine WC.region ?_
         refine WL.val rfl rfl rfl rfl (r_move rfl (ev_t rfl)) ?_
         refine WL.val rfl rfl rfl rfl (r_move rfl (ev_t rfl)) ?_
         refine WL.val rfl rfl rfl rfl (r_lenSlice (ts := #[]) rfl (ev_t rfl) elem_46) ?_
         refine WL.val rfl rfl rfl rfl (r_lss rfl (ev_t rfl) (ev_t rfl)) ?_
         refine WL.nil ?_
         refine WX.keep [(0, _), (3, _), (7, _), (36, _)] ⟨rfl, rfl, rfl, rfl, trivial⟩ ?_
         refine WX.next ?_
         refine WC.cond rfl (ev_t rfl) (fun hc10 => ?_) (fun hc10 => ?_)
         · try (exfalso; first | (simp at hc10; done) | (simp only [decide_eq_true_eq, decide_eq_false_iff_not, Bool.not_eq_true', Bool.not_eq_false', Bool.not_eq_true, Bool.not_eq_false] at hc10; omega) | omega)
           all_goals
            try simp only [decide_eq_true_eq, decide_eq_false_iff_not, Bool.not_eq_true', Bool.not_eq_false', Bool.not_eq_true, Bool.not_eq_false, Option.isNone_none, Option.isNone_some, Option.isSome_none, Option.isSome_some, ne_eq, Decidable.not_not] at hc10
            have hml : m < l.length := by omega
            obtain ⟨rest, hdr, g1, hTn⟩ := hTm.head_ hml
            have hk : st[k]? = some m := by rw [← List.head?_drop, hdr]; rfl
            have hdr2 : st.drop (k + 1) = rest := by rw [← List.tail_drop, hdr]; rfl
            have hms : m ∈ st := List.mem_of_getElem? hk
            refine WC.skip ?_
            refine WX.next ?_
            refine WC.block ?_
            refine WC.seq ?_
            refine WC.region ?_
            refine WL.val rfl rfl rfl rfl (r_move rfl (ev_t rfl)) ?_
            refine WL.val rfl rfl rfl rfl (r_move rfl (ev_t rfl)) ?_
            refine WL.cons (SO.call (at9_ok hr (by omega) (by omega) (fun k hk => by have := hF k hk; omega) hw) rfl body_28 ⟨(ev_t rfl), (ev_t rfl), trivial⟩ rfl rfl rfl rfl ?_)
            rintro v w6 ⟨kd, n9, vP, ps, s9, rfl, hP, hu6, hres⟩
            obtain ⟨AP, cP, rfl, _⟩ := hP.form
            have hs6 := hu6.size
            replace hU := hU.trans hu6 (by first | exact (fun _ _ h => h) | exact (fun _ _ h => h.elim) | (intro k hl hk; (try simp only [At, New, Grow, From, No] at hk ⊢); omega) | (intro k hl hk; first | exact (show False from hk).elim | (simp only [At] at hk; omega)))
            replace hr := hr.upd hu6 (fun k hk hl hS => by have h1 := hF k hk; first | exact (show False from hS).elim | (simp only [At] at hS; omega))
            replace hfl := hfl.upd hu6 (fun hS => by first | exact (show False from hS) | (simp only [At] at hS; omega))
            have hval : validAt l m := ⟨hml, (hkd m hms).1, (hkd m hms).2, by unfold szAt szO at g1; split at g1 <;> omega, g1⟩
            have hv9 : n9 = szAt l m ∧ ps = parts l m := by
              rcases hres with ⟨h, _⟩ | ⟨h1, h2, _, h3, _⟩
              · exact absurd hval h
              · exact ⟨h2, h3⟩
            obtain ⟨rfl, rfl⟩ := hv9
            obtain ⟨z0, hz0⟩ : ∃ z, z = (w6).heap.size := ⟨_, rfl⟩
            refine WL.val rfl rfl rfl rfl (r_move rfl (ev_t rfl)) ?_
            refine WL.val rfl rfl rfl rfl (r_extract rfl (ev_t rfl) rfl) ?_
            refine WL.val rfl rfl rfl rfl (r_extract rfl (ev_t rfl) rfl) ?_
            refine WL.cons (SO.alloc rfl rfl rfl rfl (r_alloc rfl zero_56) ?_)
            intro w7 hu7 hB7 hz7
            have hs7 := hu7.size
            replace hU := hU.trans hu7 (by first | exact (fun _ _ h => h) | exact (fun _ _ h => h.elim) | (intro k hl hk; (try simp only [At, New, Grow, From, No] at hk ⊢); omega) | (intro k hl hk; first | exact (show False from hk).elim | (simp only [At] at hk; omega)))
            replace hr := hr.upd hu7 (fun k hk hl hS => by have h1 := hF k hk; first | exact (show False from hS).elim | (simp only [At] at hS; omega))
            replace hfl := hfl.upd hu7 (fun hS => by first | exact (show False from hS) | (simp only [At] at hS; omega))
            replace hP := hP.upd hu7 (fun k hk hl hS => by first | exact (show False from hS).elim | (simp only [At] at hS; have := hk.2; omega))
            refine WL.cons (SO.storeAll (us := [_, _, _]) rfl (ev_t rfl) (ev_t rfl) size_56 hB7 rfl rfl rfl rfl rfl ?_)
            intro w8 hu8 hB7 hz8
            have hs8 := hu8.size
            replace hU := hU.trans hu8 (by first | exact (fun _ _ h => h) | exact (fun _ _ h => h.elim) | (intro k hl hk; (try simp only [At, New, Grow, From, No] at hk ⊢); omega) | (intro k hl hk; first | exact (show False from hk).elim | (simp only [At] at hk; omega)))
            replace hr := hr.upd hu8 (fun k hk hl hS => by have h1 := hF k hk; first | exact (show False from hS).elim | (simp only [At] at hS; omega))
            replace hfl := hfl.upd hu8 (fun hS => by first | exact (show False from hS) | (simp only [At] at hS; omega))
            replace hP := hP.upd hu8 (fun k hk hl hS => by first | exact (show False from hS).elim | (simp only [At] at hS; have := hk.2; omega))
            refine WL.val rfl rfl rfl rfl (r_assign rfl (ev_t rfl)) ?_
            refine WL.nil ?_
            refine WX.keep [(0, _), (3, _), (7, _), (8, _), (9, _)] ⟨rfl, rfl, rfl, rfl, rfl, trivial⟩ ?_
            have hbO := hB7
            obtain ⟨bO, hbO1⟩ : ∃ g, g = z0 := ⟨_, rfl⟩
            rw [← hz0, ← hbO1] at hbO ⊢
            have hps : (parts l m).length ≤ 2000 := by
              unfold parts; split
              · simp
              · rw [List.length_take, List.length_drop]; omega
            refine WX.next ?_
            refine WC.seq ?_
            refine WC.seq ?_
            refine WC.region ?_
            refine WL.val rfl rfl rfl rfl (r_assign rfl ev_c) ?_
            refine WL.nil ?_
            refine WX.keep [(0, _), (3, _), (7, _), (8, _), (9, _), (10, _)] ⟨rfl, rfl, rfl, rfl, rfl, rfl, trivial⟩ ?_
            refine WX.next ?_
            refine WC.block ?_
            -- loop 3: live [0, 3, 7, 8, 9, 10]
            refine WC.keep [(0, _), (3, _), (7, _), (8, _), (9, _), (10, _)] ⟨rfl, rfl, rfl, rfl, rfl, rfl, trivial⟩ ?_
            refine WC.loop (fun qq E wD => ∃ (i : Nat), i ≤ (parts l m).length ∧ qq = (parts l m).length - i ∧ (∀ j x, j < i → (parts l m)[j]? = some x → x % 2 = 1 ∨ x / 2 ∈ st) ∧ Upd No w wD ∧ Rd wD F (.slice A l.length c) l.length 1 (l.map Wd) ∧ Blk wD bF (fl.map Value.bool).toArray 4 ∧ (∃ Gp, Own wD Gp 31 1 (.slice AP (parts l m).length cP) (parts l m).length ((parts l m).map Wd)) ∧ (∃ zk zs, Blk wD bO #[zk, .slice AP (parts l m).length cP, zs] 56) ∧ E = [(0, .slice A l.length c), (3, .slice (some ⟨bF, 0, none⟩) l.length l.length), (7, .int .i64 (m : Int)), (8, .pointer (some ⟨bO, 0, none⟩)), (9, .int .i64 ((szAt l m : Nat) : Int)), (10, .int .i64 (i : Int))]) ((parts l m).length) ?_ ?_
            · exact ⟨0, by omega, by omega, fun j x h => absurd h (by omega), hU, hr, hfl, ⟨_, hP⟩, ⟨_, _, hbO⟩, rfl⟩
            · clear hU hr hfl hP hbO
              rintro qq E wD ⟨i, hi, rfl, hpr, hU, hr, hfl, ⟨Gp, hP⟩, ⟨zk, zs, hbO⟩, rfl⟩
              have hUs := hU.size
              have hPr := hP.rd (by omega)
              refine WC.seq ?_
              refine WC.seq ?_
              refine WC.region ?_
              refine WL.val rfl rfl rfl rfl (r_move rfl (ev_t rfl)) ?_
              first | refine WL.val rfl rfl rfl rfl (r_field0 rfl (ev_t rfl) fld_56_1) ?_ | refine WL.val rfl rfl rfl rfl (r_fieldAt rfl (ev_t rfl) fld_56_1) ?_
              refine WL.val rfl rfl rfl rfl (r_load rfl (ev_t rfl) flat_46 (Blk.cell hbO rfl)) ?_
              refine WL.val rfl rfl rfl rfl (r_lenSlice (ts := #[]) rfl (ev_t rfl) elem_46) ?_
              refine WL.val rfl rfl rfl rfl (r_lss rfl (ev_t rfl) (ev_t rfl)) ?_
              refine WL.nil ?_
              refine WX.keep [(0, _), (3, _), (7, _), (8, _), (9, _), (10, _), (47, _)] ⟨rfl, rfl, rfl, rfl, rfl, rfl, rfl, trivial⟩ ?_
              refine WX.next ?_
              refine WC.cond rfl (ev_t rfl) (fun hc13 => ?_) (fun hc13 => ?_)
              · try (exfalso; first | (simp at hc13; done) | (simp only [decide_eq_true_eq, decide_eq_false_iff_not, Bool.not_eq_true', Bool.not_eq_false', Bool.not_eq_true, Bool.not_eq_false] at hc13; omega) | omega)
                all_goals
                 try simp only [decide_eq_true_eq, decide_eq_false_iff_not, Bool.not_eq_true', Bool.not_eq_false', Bool.not_eq_true, Bool.not_eq_false, Option.isNone_none, Option.isNone_some, Option.isSome_none, Option.isSome_some, ne_eq, Decidable.not_not] at hc13
                 have hil : i < (parts l m).length := by omega
                 obtain ⟨bp, op, rfl, _⟩ := hPr.open (by omega)
                 obtain ⟨x, hxi⟩ : ∃ x, (parts l m)[i]? = some x := ⟨_, List.getElem?_eq_getElem hil⟩
                 have hx64 := hw x (parts_mem (List.mem_of_getElem? hxi))
                 refine WC.skip ?_
                 refine WX.next ?_
                 refine WC.seq ?_
                 refine WC.block ?_
                 refine WC.seq ?_
                 refine WC.region ?_
                 first | refine WL.val rfl rfl rfl rfl (r_field0 rfl (ev_t rfl) fld_56_1) ?_ | refine WL.val rfl rfl rfl rfl (r_fieldAt rfl (ev_t rfl) fld_56_1) ?_
                 refine WL.val rfl rfl rfl rfl (r_load rfl (ev_t rfl) flat_46 (Blk.cell hbO rfl)) ?_
                 refine WL.val rfl rfl rfl rfl (r_move rfl (ev_t rfl)) ?_
                 refine WL.val rfl rfl rfl rfl (r_indexAddr rfl (ev_t rfl) (ev_t rfl) elem_46 size_31 (by omega) (by omega)) ?_
                 refine WL.val rfl rfl rfl rfl (r_load rfl (ev_t rfl) flat_31 (hPr.cell (j := i) (u := Wd x) (show op + (i : Int).toNat * 1 = op + i by omega) (by rw [List.getElem?_map, hxi]; rfl))) ?_
                 refine WL.val rfl rfl rfl rfl (r_assign rfl (ev_t rfl)) ?_
                 refine WL.nil ?_
                 refine WX.keep [(0, _), (3, _), (7, _), (8, _), (9, _), (10, _), (11, _)] ⟨rfl, rfl, rfl, rfl, rfl, rfl, rfl, trivial⟩ ?_
                 refine WX.next ?_
                 refine WC.seq ?_
                 refine WC.region ?_
                 refine WL.val rfl rfl rfl rfl (r_move rfl (ev_t rfl)) ?_
                 first | refine WL.val rfl rfl rfl rfl (r_remN rfl (ev_t rfl) ev_c (by omega) (by omega)) ?_ | refine WL.val rfl rfl rfl rfl (r_rem rfl (ev_t rfl) ev_c (by omega)) ?_
                 refine WL.val rfl rfl rfl rfl (r_eql rfl (ev_t rfl) ev_c) ?_
                 refine WL.val rfl rfl rfl rfl (r_move rfl (ev_t rfl)) ?_
                 refine WL.cases 58 rfl (fun hb16_3 => ?_) (fun hb16_3 => ?_)
                 · try (exfalso; first | (simp at hb16_3; done) | (simp only [decide_eq_true_eq, decide_eq_false_iff_not, Bool.not_eq_true', Bool.not_eq_false', Bool.not_eq_true, Bool.not_eq_false] at hb16_3; omega) | omega)
                   all_goals
                    try simp only [decide_eq_true_eq, decide_eq_false_iff_not, Bool.not_eq_true', Bool.not_eq_false', Bool.not_eq_true, Bool.not_eq_false, Option.isNone_none, Option.isNone_some, Option.isSome_none, Option.isSome_some, ne_eq, Decidable.not_not] at hb16_3
                    refine WL.val rfl rfl rfl rfl (r_move rfl (ev_t rfl)) ?_
                    first | refine WL.val rfl rfl rfl rfl (r_quoN rfl (ev_t rfl) ev_c (by omega) (by omega) (by simp only [inK]; omega)) ?_ | refine WL.val rfl rfl rfl rfl (r_quo rfl (ev_t rfl) ev_c (by omega)) ?_
                    try rw [tdiv_two hx64]
                    refine WL.val rfl rfl rfl rfl (r_move rfl (ev_t rfl)) ?_
                    refine WL.val rfl rfl rfl rfl (r_lenSlice (ts := #[]) rfl (ev_t rfl) elem_46) ?_
                    first | refine WL.val rfl rfl rfl rfl (r_convN rfl (ev_t rfl) some_3 int_31 (by simp only [inK]; omega)) ?_ | refine WL.val rfl rfl rfl rfl (r_conv rfl (ev_t rfl) some_3 int_31) ?_
                    refine WL.val rfl rfl rfl rfl (r_geq rfl (ev_t rfl) (ev_t rfl)) ?_
                    refine WL.val rfl rfl rfl rfl (r_move rfl (ev_t rfl)) ?_
                    refine WL.cases 65 rfl (fun hb16_10 => ?_) (fun hb16_10 => ?_)
                    · try (exfalso; first | (simp at hb16_10; done) | (simp only [decide_eq_true_eq, decide_eq_false_iff_not, Bool.not_eq_true', Bool.not_eq_false', Bool.not_eq_true, Bool.not_eq_false] at hb16_10; omega) | omega)
                      all_goals
                       try simp only [decide_eq_true_eq, decide_eq_false_iff_not, Bool.not_eq_true', Bool.not_eq_false', Bool.not_eq_true, Bool.not_eq_false, Option.isNone_none, Option.isNone_some, Option.isSome_none, Option.isSome_some, ne_eq, Decidable.not_not] at hb16_10
                       refine WL.skip rfl rfl rfl ?_
                       refine WL.skip rfl rfl rfl ?_
                       refine WL.skip rfl rfl rfl ?_
                       refine WL.skip rfl rfl rfl ?_
                       refine WL.skip rfl rfl rfl ?_
                       refine WL.skip rfl rfl rfl ?_
                       refine WL.val rfl rfl rfl rfl (r_pickT rfl (ev_t rfl) ev_c) ?_
                       refine WL.val rfl rfl rfl rfl (r_pickT rfl (ev_t rfl) (ev_t rfl)) ?_
                       refine WL.nil ?_
                       refine WX.keep [(0, _), (3, _), (7, _), (8, _), (9, _), (10, _), (73, _)] ⟨rfl, rfl, rfl, rfl, rfl, rfl, rfl, trivial⟩ ?_
                       refine WX.next ?_
                       refine WC.cond_true rfl (ev_t rfl) ?_
                       refine WC.seq ?_
                       refine WC.region ?_
                       refine WL.val rfl rfl rfl rfl (r_assign rfl ev_c) ?_
                       refine WL.nil ?_
                       refine WX.keep [(2, _)] ⟨rfl, trivial⟩ ?_
                       refine WX.next ?_
                       refine WC.ret ?_
                       refine WX.blockRet ?_
                       refine WX.thenRet ?_
                       refine WX.thenRet ?_
                       refine WX.blockRet ?_
                       refine WX.thenRet ?_
                       refine WX.blockRet ?_
                       refine WX.thenRet ?_
                       refine WX.blockRet ?_
                       refine WX.thenRet ?_
                       refine WX.retE1 rfl rfl ?_
                       exact ⟨false, rfl, hU, fun h => by cases h⟩
                    · try (exfalso; first | (simp at hb16_10; done) | (simp only [decide_eq_true_eq, decide_eq_false_iff_not, Bool.not_eq_true', Bool.not_eq_false', Bool.not_eq_true, Bool.not_eq_false] at hb16_10; omega) | omega)
                      all_goals
                       try simp only [decide_eq_true_eq, decide_eq_false_iff_not, Bool.not_eq_true', Bool.not_eq_false', Bool.not_eq_true, Bool.not_eq_false, Option.isNone_none, Option.isNone_some, Option.isSome_none, Option.isSome_some, ne_eq, Decidable.not_not] at hb16_10
                       refine WL.val rfl rfl rfl rfl (r_move rfl (ev_t rfl)) ?_
                       refine WL.val rfl rfl rfl rfl (r_move rfl (ev_t rfl)) ?_
                       first | refine WL.val rfl rfl rfl rfl (r_quoN rfl (ev_t rfl) ev_c (by omega) (by omega) (by simp only [inK]; omega)) ?_ | refine WL.val rfl rfl rfl rfl (r_quo rfl (ev_t rfl) ev_c (by omega)) ?_
                       try rw [tdiv_two hx64]
                       refine WL.val rfl rfl rfl rfl (r_indexAddr rfl (ev_t rfl) (ev_t rfl) elem_93 size_4 (by omega) (by omega)) ?_
                       refine WL.val rfl rfl rfl rfl (r_load rfl (ev_t rfl) flat_4 (Blk.cell hfl (by (first | rw [show 0 + ((x / 2 : Nat) : Int).toNat * 1 = x / 2 by omega] | rw [show 0 + ((x : Int) / 2).toNat * 1 = x / 2 by omega]); rw [List.getElem?_toArray, List.getElem?_map, hFL.2 _ (by omega)]; rfl))) ?_
                       refine WL.val rfl rfl rfl rfl (r_not rfl (ev_t rfl)) ?_
                       refine WL.val rfl rfl rfl rfl (r_pickF rfl (ev_t rfl) (ev_t rfl)) ?_
                       refine WL.val rfl rfl rfl rfl (r_pickT rfl (ev_t rfl) (ev_t rfl)) ?_
                       refine WL.nil ?_
                       refine WX.keep [(0, _), (3, _), (7, _), (8, _), (9, _), (10, _), (73, _)] ⟨rfl, rfl, rfl, rfl, rfl, rfl, rfl, trivial⟩ ?_
                       refine WX.next ?_
                       refine WC.cond rfl (ev_t rfl) (fun hc16 => ?_) (fun hc16 => ?_)
                       · try (exfalso; first | (simp at hc16; done) | (simp only [decide_eq_true_eq, decide_eq_false_iff_not, Bool.not_eq_true', Bool.not_eq_false', Bool.not_eq_true, Bool.not_eq_false] at hc16; omega) | omega)
                         all_goals
                          try simp only [decide_eq_true_eq, decide_eq_false_iff_not, Bool.not_eq_true', Bool.not_eq_false', Bool.not_eq_true, Bool.not_eq_false, Option.isNone_none, Option.isNone_some, Option.isSome_none, Option.isSome_some, ne_eq, Decidable.not_not] at hc16
                          refine WC.seq ?_
                          refine WC.region ?_
                          refine WL.val rfl rfl rfl rfl (r_assign rfl ev_c) ?_
                          refine WL.nil ?_
                          refine WX.keep [(2, _)] ⟨rfl, trivial⟩ ?_
                          refine WX.next ?_
                          refine WC.ret ?_
                          refine WX.blockRet ?_
                          refine WX.thenRet ?_
                          refine WX.thenRet ?_
                          refine WX.blockRet ?_
                          refine WX.thenRet ?_
                          refine WX.blockRet ?_
                          refine WX.thenRet ?_
                          refine WX.blockRet ?_
                          refine WX.thenRet ?_
                          refine WX.retE1 rfl rfl ?_
                          exact ⟨false, rfl, hU, fun h => by cases h⟩
                       · try (exfalso; first | (simp at hc16; done) | (simp only [decide_eq_true_eq, decide_eq_false_iff_not, Bool.not_eq_true', Bool.not_eq_false', Bool.not_eq_true, Bool.not_eq_false] at hc16; omega) | omega)
                         all_goals
                          try simp only [decide_eq_true_eq, decide_eq_false_iff_not, Bool.not_eq_true', Bool.not_eq_false', Bool.not_eq_true, Bool.not_eq_false, Option.isNone_none, Option.isNone_some, Option.isSome_none, Option.isSome_some, ne_eq, Decidable.not_not] at hc16
                          refine WC.skip ?_
                          refine WX.blockNormal ?_
                          refine WX.next ?_
                          refine WC.region ?_
                          refine WL.val rfl rfl rfl rfl (r_move rfl (ev_t rfl)) ?_
                          first | refine WL.val rfl rfl rfl rfl (r_addN rfl (ev_t rfl) ev_c (by simp only [inK]; omega)) ?_ | refine WL.val rfl rfl rfl rfl (r_add rfl (ev_t rfl) ev_c) ?_
                          refine WL.val rfl rfl rfl rfl (r_assign rfl (ev_t rfl)) ?_
                          refine WL.nil ?_
                          refine WX.keep [(0, _), (3, _), (7, _), (8, _), (9, _), (10, _)] ⟨rfl, rfl, rfl, rfl, rfl, rfl, trivial⟩ ?_
                          refine WX.meet [(0, _), (3, _), (7, _), (8, _), (9, _), (10, _)] ⟨rfl, rfl, rfl, rfl, rfl, rfl, trivial⟩ ?_
                          have hxx : x % 2 = 1 ∨ x / 2 ∈ st := by
                            first
                            | (left; omega)
                            | (right; simpa using hc16)
                            | trace_state
                          refine ⟨(parts l m).length - (i + 1), by omega, i + 1, by omega, rfl, ?_, hU, hr, hfl, ⟨_, hP⟩, ⟨_, _, hbO⟩, rfl⟩
                          intro j x2 hj hx2
                          rcases Nat.lt_or_ge j i with h | h
                          · exact hpr j x2 h hx2
                          · obtain rfl : j = i := by omega
                            rw [hxi] at hx2
                            injection hx2 with hx2
                            rw [← hx2]
                            exact hxx
                 · try (exfalso; first | (simp at hb16_3; done) | (simp only [decide_eq_true_eq, decide_eq_false_iff_not, Bool.not_eq_true', Bool.not_eq_false', Bool.not_eq_true, Bool.not_eq_false] at hb16_3; omega) | omega)
                   all_goals
                    try simp only [decide_eq_true_eq, decide_eq_false_iff_not, Bool.not_eq_true', Bool.not_eq_false', Bool.not_eq_true, Bool.not_eq_false, Option.isNone_none, Option.isNone_some, Option.isSome_none, Option.isSome_some, ne_eq, Decidable.not_not] at hb16_3
                    refine WL.skip rfl rfl rfl ?_
                    refine WL.skip rfl rfl rfl ?_
                    refine WL.skip rfl rfl rfl ?_
                    refine WL.skip rfl rfl rfl ?_
                    refine WL.skip rfl rfl rfl ?_
                    refine WL.skip rfl rfl rfl ?_
                    refine WL.skip rfl rfl rfl ?_
                    refine WL.skip rfl rfl rfl ?_
                    refine WL.skip rfl rfl rfl ?_
                    refine WL.skip rfl rfl rfl ?_
                    refine WL.skip rfl rfl rfl ?_
                    refine WL.skip rfl rfl rfl ?_
                    refine WL.skip rfl rfl rfl ?_
                    refine WL.skip rfl rfl rfl ?_
                    refine WL.val rfl rfl rfl rfl (r_pickF rfl (ev_t rfl) ev_c) ?_
                    refine WL.nil ?_
                    refine WX.keep [(0, _), (3, _), (7, _), (8, _), (9, _), (10, _), (73, _)] ⟨rfl, rfl, rfl, rfl, rfl, rfl, rfl, trivial⟩ ?_
                    refine WX.next ?_
                    refine WC.cond_false rfl (ev_t rfl) ?_
                    refine WC.skip ?_
                    refine WX.blockNormal ?_
                    refine WX.next ?_
                    refine WC.region ?_
                    refine WL.val rfl rfl rfl rfl (r_move rfl (ev_t rfl)) ?_
                    first | refine WL.val rfl rfl rfl rfl (r_addN rfl (ev_t rfl) ev_c (by simp only [inK]; omega)) ?_ | refine WL.val rfl rfl rfl rfl (r_add rfl (ev_t rfl) ev_c) ?_
                    refine WL.val rfl rfl rfl rfl (r_assign rfl (ev_t rfl)) ?_
                    refine WL.nil ?_
                    refine WX.keep [(0, _), (3, _), (7, _), (8, _), (9, _), (10, _)] ⟨rfl, rfl, rfl, rfl, rfl, rfl, trivial⟩ ?_
                    refine WX.meet [(0, _), (3, _), (7, _), (8, _), (9, _), (10, _)] ⟨rfl, rfl, rfl, rfl, rfl, rfl, trivial⟩ ?_
                    have hxx : x % 2 = 1 ∨ x / 2 ∈ st := by
                      first
                      | (left; omega)
                      | (right; simpa using hc16)
                      | trace_state
                    refine ⟨(parts l m).length - (i + 1), by omega, i + 1, by omega, rfl, ?_, hU, hr, hfl, ⟨_, hP⟩, ⟨_, _, hbO⟩, rfl⟩
                    intro j x2 hj hx2
                    rcases Nat.lt_or_ge j i with h | h
                    · exact hpr j x2 h hx2
                    · obtain rfl : j = i := by omega
                      rw [hxi] at hx2
                      injection hx2 with hx2
                      rw [← hx2]
                      exact hxx
              · try (exfalso; first | (simp at hc13; done) | (simp only [decide_eq_true_eq, decide_eq_false_iff_not, Bool.not_eq_true', Bool.not_eq_false', Bool.not_eq_true, Bool.not_eq_false] at hc13; omega) | omega)
                all_goals
                 try simp only [decide_eq_true_eq, decide_eq_false_iff_not, Bool.not_eq_true', Bool.not_eq_false', Bool.not_eq_true, Bool.not_eq_false, Option.isNone_none, Option.isNone_some, Option.isSome_none, Option.isSome_some, ne_eq, Decidable.not_not] at hc13
                 refine WC.exit ?_
                 refine WX.thenExit ?_
                 refine WX.thenExit ?_
                 refine WX.blockHere ?_
                 refine WX.next ?_
                 refine WC.region ?_
                 refine WL.val rfl rfl rfl rfl (r_move rfl (ev_t rfl)) ?_
                 refine WL.val rfl rfl rfl rfl (r_move rfl (ev_t rfl)) ?_
                 first | refine WL.val rfl rfl rfl rfl (r_addN rfl (ev_t rfl) (ev_t rfl) (by simp only [inK]; omega)) ?_ | refine WL.val rfl rfl rfl rfl (r_add rfl (ev_t rfl) (ev_t rfl)) ?_
                 refine WL.val rfl rfl rfl rfl (r_assign rfl (ev_t rfl)) ?_
                 refine WL.nil ?_
                 refine WX.keep [(0, _), (3, _), (7, _)] ⟨rfl, rfl, rfl, trivial⟩ ?_
                 refine WX.blockNormal ?_
                 refine WX.meet [(0, _), (3, _), (7, _)] ⟨rfl, rfl, rfl, trivial⟩ ?_
                 refine ⟨l.length - (m + szAt l m), by have := szAt_pos l m; omega, m + szAt l m, k + 1, by omega, rfl, by rw [hdr2]; exact hTn, ?_, hU, hr, hfl, rfl⟩
                 intro j a hj ha x hx
                 rcases Nat.lt_or_ge j k with h | h
                 · exact hrefs j a h ha x hx
                 · obtain rfl : j = k := by omega
                   rw [hk] at ha
                   injection ha with ha
                   subst ha
                   obtain ⟨i2, hi2, rfl⟩ := List.mem_iff_getElem.1 hx
                   exact hpr i2 _ (by omega) (List.getElem?_eq_getElem hi2)
         · try (exfalso; first | (simp at hc10; done) | (simp only [decide_eq_true_eq, decide_eq_false_iff_not, Bool.not_eq_true', Bool.not_eq_false', Bool.not_eq_true, Bool.not_eq_false] at hc10; omega) | omega)
           all_goals
            try simp only [decide_eq_true_eq, decide_eq_false_iff_not, Bool.not_eq_true', Bool.not_eq_false', Bool.not_eq_true, Bool.not_eq_false, Option.isNone_none, Option.isNone_some, Option.isSome_none, Option.isSome_some, ne_eq, Decidable.not_not] at hc10
            refine WC.exit ?_
            refine WX.thenExit ?_
            refine WX.thenExit ?_
            refine WX.blockHere ?_
            refine WX.next ?_
            refine WC.seq ?_
            refine WC.region ?_
            refine WL.val rfl rfl rfl rfl (r_assign rfl ev_c) ?_
            refine WL.nil ?_
            refine WX.keep [(2, _)] ⟨rfl, trivial⟩ ?_
            refine WX.next ?_
            refine WC.ret ?_
            refine WX.retE1 rfl rfl ?_
            refine ⟨true, rfl, hU, fun _ => ⟨st, ⟨hTl, ?_, hw⟩, hkd⟩⟩
            obtain rfl : m = l.length := by omega
            have hk0 : st.drop k = [] := by
              cases hd : st.drop k with
              | nil => rfl
              | cons b r =>
                rw [hd] at hTm
                obtain ⟨rfl, h1, _⟩ := hTm
                have := szAt_pos l l.length
                omega
            intro a ha x hx
            obtain ⟨j, hj, rfl⟩ := List.mem_iff_getElem.1 ha
            have hjk : j < k := by
              rcases Nat.lt_or_ge j k with h | h
              · exact h
              · have := List.drop_eq_nil_iff.1 hk0; omega
            exact hrefs j _ hjk (List.getElem?_eq_getElem hj) x hx
end Go.Proofs.YtdpnnclkkbfihaaDoor
