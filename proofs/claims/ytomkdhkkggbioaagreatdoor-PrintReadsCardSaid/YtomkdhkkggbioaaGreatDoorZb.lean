/-
  Several texts put together: Lxb, Lxc, Lxd, Lxe, PaM, Paa, PaN, Prf.
-/
import Derived.Test.YtomkdhkkggbioaaGreatDoorZa
/-
 The reference's lexer: words, numbers, blanks, texts.
-/
namespace Go.Proofs.YtomkdhkkggbioaaGreatDoor
open Go
set_option linter.unusedSimpArgs false
set_option linter.unusedVariables false

theorem lword_ok {w : World} {s : List UInt8} : Ret Tryz.prog 78 #[Sv s] w fun v w' => v = .bool (wordF s) ∧ Upd No w w' := by
 refine enterRet (vs := [_]) (N := 18) Tryz.func78 rfl rfl rfl ?_
 have hU := Upd.refl No w
 refine WC.keep [(0, _)] ⟨rfl, trivial⟩ (WC.seq (WC.region (WL.val rfl rfl rfl rfl (r_assign rfl ev_c) ?_)))
 refine WL.nil (WX.keep [(0, _)] ⟨rfl, trivial⟩ (WX.next (WC.seq (WC.region (WL.cons (SO.alloc rfl rfl rfl rfl (r_buildSlice1 (vs := [_, _, _, _, _, _, _, _, _, _, _, _, _, _, _]) rfl ⟨ev_c, ev_c, ev_c, ev_c, ev_c, ev_c, ev_c, ev_c, ev_c, ev_c, ev_c, ev_c, ev_c, ev_c, ev_c, trivial⟩ rfl row_66 rfl rfl) ?_))))))
 intro w1 hu1 hB1 hz1
 have hs1 := hu1.size
 replace hU := hU.transA hu1
 refine WL.val rfl rfl rfl rfl (r_assign rfl (ev_t rfl)) ?_
 refine WL.nil (WX.keep [(0, _), (3, _)] ⟨rfl, rfl, trivial⟩ ?_)
 have hb := hB1
 change Blk _ _ (wordsL.map Sv).toArray _ at hb
 refine WX.next (WC.seq (WC.seq (WC.region (WL.val rfl rfl rfl rfl (r_assign rfl ev_c) ?_))))
 refine WL.nil (WX.keep [(0, _), (3, _), (4, _)] ⟨rfl, rfl, rfl, trivial⟩ (WX.next (WC.block ?_)))
 -- loop 1: live [0, 3, 4]
 refine WC.keep [(0, _), (3, _), (4, _)] ⟨rfl, rfl, rfl, trivial⟩ (WC.loop (fun qq E wC => ∃ j : Nat, j ≤ 15 ∧ qq = 15 - j ∧ Upd No w wC ∧ Blk wC w.heap.size (wordsL.map Sv).toArray 9 ∧ (∀ x ∈ wordsL.take j, x ≠ s) ∧ E = [(0, Sv s), (3, .slice (some ⟨w.heap.size, 0, none⟩) 15 15), (4, .int .i64 (j : Int))]) (15) ?_ ?_)
 ·exact ⟨0, by omega, by omega, hU, hb, by simp, rfl⟩
 ·clear hU hb
  rintro qq E wC ⟨j, hj, rfl, hU, hb, hall, rfl⟩
  refine WC.seq (WC.seq (WC.region (WL.val rfl rfl rfl rfl (r_move rfl (ev_t rfl)) ?_)))
  refine WL.val rfl rfl rfl rfl (r_move rfl (ev_t rfl)) ?_
  refine WL.val rfl rfl rfl rfl (r_lenSlice (ts := #[]) rfl (ev_t rfl) elem_66) ?_
  refine WL.val rfl rfl rfl rfl (r_lss rfl (ev_t rfl) (ev_t rfl)) ?_
  refine WL.nil (WX.keep [(0, _), (3, _), (4, _), (9, _)] ⟨rfl, rfl, rfl, rfl, trivial⟩ (WX.next (WC.cond rfl (ev_t rfl) (fun hc3 => ?_) (fun hc3 => ?_))))
  ·try simp only [cS, ne_eq, Decidable.not_not] at hc3
   have hjl : j < 15 := by omega
   have hgu : wordsL[j]? = some (wordsL[j]'hjl) := List.getElem?_eq_getElem hjl
   generalize wordsL[j]'hjl = u at hgu
   refine WC.skip (WX.next (WC.seq (WC.block (WC.seq (WC.region (WL.val rfl rfl rfl rfl (r_move rfl (ev_t rfl)) ?_))))))
   refine WL.val rfl rfl rfl rfl (r_move rfl (ev_t rfl)) ?_
   refine WL.val rfl rfl rfl rfl (r_indexAddr rfl (ev_t rfl) (ev_t rfl) elem_66 size_9 (by omega) (by omega)) ?_
   refine WL.val rfl rfl rfl rfl (r_load rfl (ev_t rfl) flat_9 (Blk.cell hb (v := Sv u) (by rw [show 0 + (j : Int).toNat * 1 = j by omega, List.getElem?_toArray, List.getElem?_map, hgu]; rfl))) ?_
   refine WL.val rfl rfl rfl rfl (r_move rfl (ev_t rfl)) ?_
   refine WL.val rfl rfl rfl rfl (r_eqlStrL (s := u) (s' := s) rfl (ev_t rfl) (ev_t rfl)) ?_
   refine WL.nil (WX.keep [(0, _), (3, _), (4, _), (17, _)] ⟨rfl, rfl, rfl, rfl, trivial⟩ (WX.next (WC.cond rfl (ev_t rfl) (fun hc5 => ?_) (fun hc5 => ?_))))
   ·try simp only [cS, ne_eq, Decidable.not_not] at hc5
    refine WC.seq (WC.region (WL.val rfl rfl rfl rfl (r_assign rfl ev_c) ?_))
    refine WL.nil (WX.keep [(2, _)] ⟨rfl, trivial⟩ (WX.next (WC.ret (WX.blockRet (WX.thenRet (WX.thenRet (WX.blockRet (WX.thenRet (WX.retE1 rfl rfl ?_)))))))))
    refine ⟨?_, hU⟩
    have h9 : u = s := by first | exact hc5 | simpa using hc5
    subst h9
    simp [wordF, List.mem_of_getElem? hgu]
   ·try simp only [cS, ne_eq, Decidable.not_not] at hc5
    refine WC.skip (WX.blockNormal (WX.next (WC.region (WL.val rfl rfl rfl rfl (r_move rfl (ev_t rfl)) ?_))))
    first | refine WL.val rfl rfl rfl rfl (r_addN rfl (ev_t rfl) ev_c (by simp only [inK]; omega)) ?_ | refine WL.val rfl rfl rfl rfl (r_add rfl (ev_t rfl) ev_c) ?_
    refine WL.val rfl rfl rfl rfl (r_assign rfl (ev_t rfl)) ?_
    refine WL.nil (WX.keep [(0, _), (3, _), (4, _)] ⟨rfl, rfl, rfl, trivial⟩ (WX.meet [(0, _), (3, _), (4, _)] ⟨rfl, rfl, rfl, trivial⟩ ?_))
    exact ⟨15 - (j + 1), by omega, j + 1, by omega, rfl, hU, hb, fun x hx => by
      rw [List.take_add_one, hgu] at hx
      rcases List.mem_append.1 hx with h | h
      · exact hall x h
      · obtain rfl : x = u := by simpa using h
        first | exact hc5 | simpa using hc5, rfl⟩
  ·try simp only [cS, ne_eq, Decidable.not_not] at hc3
   obtain rfl : j = 15 := by omega
   rw [show wordsL.take 15 = wordsL from rfl] at hall
   refine WC.exit (WX.thenExit (WX.thenExit (WX.blockHere (WX.next (WC.seq (WC.region (WL.val rfl rfl rfl rfl (r_assign rfl ev_c) ?_)))))))
   refine WL.nil (WX.keep [(2, _)] ⟨rfl, trivial⟩ (WX.next (WC.ret (WX.retE1 rfl rfl ?_))))
   refine ⟨?_, hU⟩
   have h9 : ¬ s ∈ wordsL := fun h => hall s h rfl
   simp [wordF, h9]
theorem lnumber_ok {w : World} {s : List UInt8} (hs : s.length ≤ 1000000) (hd : s.all dgB = true) : Ret Tryz.prog 80 #[Sv s] w fun v w' => v = .tuple #[.int .i64 (((numF 0 s).getD 0 : Nat) : Int), .bool (numF 0 s).isSome] ∧ Upd No w w' := by
 refine enterRet (vs := [_]) (N := 28) Tryz.func80 rfl rfl rfl ?_
 have hU := Upd.refl No w
 refine WC.keep [(0, _)] ⟨rfl, trivial⟩ (WC.seq (WC.region (WL.val rfl rfl rfl rfl (r_assign rfl ev_c) ?_)))
 refine WL.val rfl rfl rfl rfl (r_assign rfl ev_c) ?_
 refine WL.nil (WX.keep [(0, _)] ⟨rfl, trivial⟩ (WX.next (WC.seq (WC.region (WL.val rfl rfl rfl rfl (r_assign rfl ev_c) ?_)))))
 refine WL.nil (WX.keep [(0, _), (4, _)] ⟨rfl, rfl, trivial⟩ (WX.next (WC.seq (WC.seq (WC.region (WL.val rfl rfl rfl rfl (r_assign rfl ev_c) ?_))))))
 refine WL.nil (WX.keep [(0, _), (4, _), (5, _)] ⟨rfl, rfl, rfl, trivial⟩ (WX.next (WC.block ?_)))
 -- loop 1: live [0, 4, 5]
 refine WC.keep [(0, _), (4, _), (5, _)] ⟨rfl, rfl, rfl, trivial⟩ (WC.loop (fun qq E wC => ∃ j n : Nat, j ≤ s.length ∧ qq = s.length - j ∧ Upd No w wC ∧ n ≤ 4611686018427387903 ∧ numF 0 s = numF n (s.drop j) ∧ E = [(0, Sv s), (4, .int .i64 (n : Int)), (5, .int .i64 (j : Int))]) (s.length) ?_ ?_)
 ·exact ⟨0, 0, by omega, by omega, hU, by omega, rfl, rfl⟩
 ·clear hU
  rintro qq E wC ⟨j, n, hj, rfl, hU, hn, he, rfl⟩
  refine WC.seq (WC.seq (WC.region (WL.val rfl rfl rfl rfl (r_move rfl (ev_t rfl)) ?_)))
  refine WL.val rfl rfl rfl rfl (r_move rfl (ev_t rfl)) ?_
  refine WL.val rfl rfl rfl rfl (r_lenStrL rfl (ev_t rfl) str_9) ?_
  refine WL.val rfl rfl rfl rfl (r_lss rfl (ev_t rfl) (ev_t rfl)) ?_
  refine WL.nil (WX.keep [(0, _), (4, _), (5, _), (10, _)] ⟨rfl, rfl, rfl, rfl, trivial⟩ (WX.next (WC.cond rfl (ev_t rfl) (fun hc3 => ?_) (fun hc3 => ?_))))
  ·try simp only [cS, ne_eq, Decidable.not_not] at hc3
   have hjl : j < s.length := by omega
   have hg : s[j]? = some (s[j]'hjl) := List.getElem?_eq_getElem hjl
   have hcd := List.all_eq_true.1 hd _ (List.getElem_mem hjl)
   rw [List.drop_eq_getElem_cons hjl] at he
   generalize s[j]'hjl = c at hg hcd he
   have hc := c.toNat_lt
   simp only [dgB, decide_eq_true_eq] at hcd
   refine WC.skip (WX.next (WC.seq (WC.block (WC.seq (WC.region (WL.val rfl rfl rfl rfl (r_move rfl (ev_t rfl)) ?_))))))
   refine WL.val rfl rfl rfl rfl (r_move rfl (ev_t rfl)) ?_
   refine WL.val rfl rfl rfl rfl (r_indexStr (j := j) (c := c) rfl (ev_t rfl) (ev_t rfl) Tryz.underlying9 rfl (by rw [mk_toList]; exact hg)) ?_
   first | refine WL.val rfl rfl rfl rfl (r_subN rfl (ev_t rfl) ev_c (by simp only [inK]; omega)) ?_ | refine WL.val rfl rfl rfl rfl (r_sub rfl (ev_t rfl) ev_c) ?_
   first | refine WL.val rfl rfl rfl rfl (r_convN rfl (ev_t rfl) some_5 int_2 (by simp only [inK]; omega)) ?_ | refine WL.val rfl rfl rfl rfl (r_conv rfl (ev_t rfl) some_5 int_2) ?_
   refine WL.val rfl rfl rfl rfl (r_assign rfl (ev_t rfl)) ?_
   refine WL.nil (WX.keep [(0, _), (4, _), (5, _), (6, _)] ⟨rfl, rfl, rfl, rfl, trivial⟩ (WX.next (WC.seq (WC.seq ?_))))
   rw [numF] at he
   refine WC.region (WL.val rfl rfl rfl rfl (r_move rfl (ev_t rfl)) ?_)
   refine WL.val rfl rfl rfl rfl (r_move rfl (ev_t rfl)) ?_
   first | refine WL.val rfl rfl rfl rfl (r_subN rfl ev_c (ev_t rfl) (by simp only [inK]; omega)) ?_ | refine WL.val rfl rfl rfl rfl (r_sub rfl ev_c (ev_t rfl)) ?_
   first | refine WL.val rfl rfl rfl rfl (r_quoN rfl (ev_t rfl) ev_c (by omega) (by omega) (by simp only [inK]; omega)) ?_ | refine WL.val rfl rfl rfl rfl (r_quo rfl (ev_t rfl) ev_c (by omega)) ?_
   refine WL.val rfl rfl rfl rfl (r_gtr rfl (ev_t rfl) (ev_t rfl)) ?_
   refine WL.nil (WX.keep [(0, _), (4, _), (5, _), (6, _), (22, _)] ⟨rfl, rfl, rfl, rfl, rfl, trivial⟩ (WX.next (WC.cond rfl (ev_t rfl) (fun hc6 => ?_) (fun hc6 => ?_))))
   ·try simp only [cS, ne_eq, Decidable.not_not] at hc6
    refine WC.seq (WC.region (WL.val rfl rfl rfl rfl (r_assign rfl ev_c) ?_))
    refine WL.val rfl rfl rfl rfl (r_assign rfl ev_c) ?_
    refine WL.nil (WX.keep [(2, _), (3, _)] ⟨rfl, rfl, trivial⟩ (WX.next (WC.ret (WX.thenRet (WX.blockRet (WX.thenRet (WX.thenRet (WX.blockRet (WX.thenRet (WX.retE2 rfl rfl rfl ?_))))))))))
    refine ⟨?_, hU⟩
    rw [if_pos (by omega)] at he
    rw [he]
    rfl
   ·try simp only [cS, ne_eq, Decidable.not_not] at hc6
    refine WC.skip (WX.next ?_)
    rw [if_neg (by omega)] at he
    refine WC.region (WL.val rfl rfl rfl rfl (r_move rfl (ev_t rfl)) ?_)
    first | refine WL.val rfl rfl rfl rfl (r_mulN rfl (ev_t rfl) ev_c (by simp only [inK]; omega)) ?_ | refine WL.val rfl rfl rfl rfl (r_mul rfl (ev_t rfl) ev_c) ?_
    refine WL.val rfl rfl rfl rfl (r_move rfl (ev_t rfl)) ?_
    first | refine WL.val rfl rfl rfl rfl (r_addN rfl (ev_t rfl) (ev_t rfl) (by simp only [inK]; omega)) ?_ | refine WL.val rfl rfl rfl rfl (r_add rfl (ev_t rfl) (ev_t rfl)) ?_
    refine WL.val rfl rfl rfl rfl (r_assign rfl (ev_t rfl)) ?_
    refine WL.nil (WX.keep [(0, _), (4, _), (5, _)] ⟨rfl, rfl, rfl, trivial⟩ (WX.blockNormal (WX.next (WC.region (WL.val rfl rfl rfl rfl (r_move rfl (ev_t rfl)) ?_)))))
    first | refine WL.val rfl rfl rfl rfl (r_addN rfl (ev_t rfl) ev_c (by simp only [inK]; omega)) ?_ | refine WL.val rfl rfl rfl rfl (r_add rfl (ev_t rfl) ev_c) ?_
    refine WL.val rfl rfl rfl rfl (r_assign rfl (ev_t rfl)) ?_
    refine WL.nil (WX.keep [(0, _), (4, _), (5, _)] ⟨rfl, rfl, rfl, trivial⟩ (WX.meet [(0, _), (4, _), (5, _)] ⟨rfl, rfl, rfl, trivial⟩ ?_))
    exact ⟨s.length - (j + 1), by omega, j + 1, n * 10 + (c.toNat - 48), by omega, rfl, hU, by omega, he, by simp only [Int.natCast_add, Int.natCast_mul, Int.natCast_sub hcd.1]; rfl⟩
  ·try simp only [cS, ne_eq, Decidable.not_not] at hc3
   obtain rfl : j = s.length := by omega
   rw [List.drop_length, numF] at he
   refine WC.exit (WX.thenExit (WX.thenExit (WX.blockHere (WX.next (WC.seq (WC.region (WL.val rfl rfl rfl rfl (r_move rfl (ev_t rfl)) ?_)))))))
   refine WL.val rfl rfl rfl rfl (r_assign rfl (ev_t rfl)) ?_
   refine WL.val rfl rfl rfl rfl (r_assign rfl ev_c) ?_
   refine WL.nil (WX.keep [(2, _), (3, _)] ⟨rfl, rfl, trivial⟩ (WX.next (WC.ret (WX.retE2 rfl rfl rfl ?_))))
   refine ⟨?_, hU⟩
   rw [he]
   rfl
theorem atF_drop {s w : List UInt8} {k : Nat} : atF s k w = atF (s.drop k) 0 w := by simp [atF]
theorem atF_le {s w : List UInt8} {k : Nat} (h : atF s k w = true) : k + w.length ≤ s.length ∨ w = [] := by
 simp only [atF, decide_eq_true_eq] at h
 have h1 := congrArg List.length h
 rw [List.length_take, List.length_drop] at h1
 cases w with
 | nil => exact .inr rfl
 | cons a r => left; simp only [List.length_cons] at h1 ⊢; omega
theorem atF_le2 {s : List UInt8} {k : Nat} {a b : UInt8} (h : atF s k [a, b] = true) : k + 2 ≤ s.length := by
 rcases atF_le h with h | h
 ·exact h
 ·cases h
theorem lblank_ok {w : World} {s : List UInt8} {i : Nat} (hi : i ≤ s.length) (hs : s.length ≤ 1000000) : Ret Tryz.prog 55 #[Sv s, .int .i64 (i : Int)] w fun v w' => (∃ n : Int, v = .int .i64 n ∧ -3000000 ≤ n ∧ n ≤ 3000000 ∧ match skipF (s.drop i) with | none => n < 0 | some q => ∃ k : Nat, i ≤ k ∧ k ≤ s.length ∧ q = s.drop k ∧ n = (k : Int) - i) ∧ Upd No w w' := by
 refine enterRet (vs := [_, _]) (N := 71) Tryz.func55 rfl rfl rfl ?_
 have hU := Upd.refl No w
 refine WC.keep [(0, _), (1, _)] ⟨rfl, rfl, trivial⟩ (WC.seq (WC.region (WL.val rfl rfl rfl rfl (r_assign rfl ev_c) ?_)))
 refine WL.nil (WX.keep [(0, _), (1, _)] ⟨rfl, rfl, trivial⟩ (WX.next (WC.seq (WC.region (WL.val rfl rfl rfl rfl (r_move rfl (ev_t rfl)) ?_)))))
 refine WL.val rfl rfl rfl rfl (r_assign rfl (ev_t rfl)) ?_
 refine WL.nil (WX.keep [(0, _), (1, _), (5, _)] ⟨rfl, rfl, rfl, trivial⟩ (WX.next (WC.seq (WC.block ?_))))
 -- loop 1: live [0, 1, 5]
 refine WC.keep [(0, _), (1, _), (5, _)] ⟨rfl, rfl, rfl, trivial⟩ (WC.loop (fun qq E wC => ∃ k : Nat, i ≤ k ∧ k ≤ s.length ∧ qq = s.length - k ∧ Upd No w wC ∧ skipF (s.drop i) = skipF (s.drop k) ∧ E = [(0, Sv s), (1, .int .i64 (k : Int)), (5, .int .i64 (i : Int))]) (s.length - i) ?_ ?_)
 ·exact ⟨i, by omega, by omega, by omega, hU, rfl, rfl⟩
 ·clear hU
  rintro qq E wC ⟨k, hk, hk2, rfl, hU, he, rfl⟩
  refine WC.seq (WC.seq (WC.region (WL.val rfl rfl rfl rfl (r_move rfl (ev_t rfl)) ?_)))
  refine WL.val rfl rfl rfl rfl (r_move rfl (ev_t rfl)) ?_
  refine WL.val rfl rfl rfl rfl (r_lenStrL rfl (ev_t rfl) str_9) ?_
  refine WL.val rfl rfl rfl rfl (r_lss rfl (ev_t rfl) (ev_t rfl)) ?_
  refine WL.nil (WX.keep [(0, _), (1, _), (5, _), (13, _)] ⟨rfl, rfl, rfl, rfl, trivial⟩ (WX.next (WC.cond rfl (ev_t rfl) (fun hc2 => ?_) (fun hc2 => ?_))))
  ·try simp only [cS, ne_eq, Decidable.not_not] at hc2
   have hkl : k < s.length := by omega
   have hg : s[k]? = some (s[k]'hkl) := List.getElem?_eq_getElem hkl
   have hdr := List.drop_eq_getElem_cons hkl
   generalize s[k]'hkl = c at hg hdr
   refine WC.skip (WX.next (WC.block (WC.seq (WC.region (WL.val rfl rfl rfl rfl (r_move rfl (ev_t rfl)) ?_)))))
   refine WL.val rfl rfl rfl rfl (r_move rfl (ev_t rfl)) ?_
   refine WL.val rfl rfl rfl rfl (r_indexStr (j := k) (c := c) rfl (ev_t rfl) (ev_t rfl) Tryz.underlying9 rfl (by rw [mk_toList]; exact hg)) ?_
   refine WL.val rfl rfl rfl rfl (r_assign rfl (ev_t rfl)) ?_
   refine WL.nil (WX.keep [(0, _), (1, _), (5, _), (6, _)] ⟨rfl, rfl, rfl, rfl, trivial⟩ (WX.next (WC.seq (WC.seq (WC.region (WL.val rfl rfl rfl rfl (r_move rfl (ev_t rfl)) ?_))))))
   refine WL.val rfl rfl rfl rfl (r_eql rfl (ev_t rfl) ev_c) ?_
   refine WL.val rfl rfl rfl rfl (r_move rfl (ev_t rfl)) ?_
   refine WL.cases 19 rfl (fun hb4_2 => ?_) (fun hb4_2 => ?_)
   ·try simp only [cS, ne_eq, Decidable.not_not] at hb4_2
    refine WL.skip rfl rfl rfl (WL.skip rfl rfl rfl (WL.val rfl rfl rfl rfl (r_pickT rfl (ev_t rfl) ev_c) ?_))
    refine WL.val rfl rfl rfl rfl (r_move rfl (ev_t rfl)) ?_
    refine WL.skip rfl rfl rfl (WL.skip rfl rfl rfl (WL.val rfl rfl rfl rfl (r_pickT rfl (ev_t rfl) ev_c) ?_))
    refine WL.val rfl rfl rfl rfl (r_move rfl (ev_t rfl)) ?_
    refine WL.skip rfl rfl rfl (WL.skip rfl rfl rfl (WL.val rfl rfl rfl rfl (r_pickT rfl (ev_t rfl) ev_c) ?_))
    refine WL.nil (WX.keep [(0, _), (1, _), (5, _), (30, _)] ⟨rfl, rfl, rfl, rfl, trivial⟩ (WX.next (WC.cond_true rfl (ev_t rfl) ?_)))
    refine WC.seq ?_
    have hws : wsB c = true := by simp only [wsB, decide_eq_true_eq]; omega
    refine WC.region (WL.val rfl rfl rfl rfl (r_move rfl (ev_t rfl)) ?_)
    first | refine WL.val rfl rfl rfl rfl (r_addN rfl (ev_t rfl) ev_c (by simp only [inK]; omega)) ?_ | refine WL.val rfl rfl rfl rfl (r_add rfl (ev_t rfl) ev_c) ?_
    refine WL.val rfl rfl rfl rfl (r_assign rfl (ev_t rfl)) ?_
    refine WL.nil (WX.keep [(0, _), (1, _), (5, _)] ⟨rfl, rfl, rfl, trivial⟩ (WX.next (WC.exit (WX.thenExit (WX.blockHere (WX.meet [(0, _), (1, _), (5, _)] ⟨rfl, rfl, rfl, trivial⟩ ?_))))))
    first
     | exact ⟨s.length - (k + 1), by omega, k + 1, by omega, by omega, rfl, hU, by rw [he, hdr, skipF_ws hws], rfl⟩
     | exact ⟨s.length - (m + 2), by omega, m + 2, by omega, by omega, rfl, hU, by rw [he, hdr, skipF_rem hws (by rw [← hdr, ← atF_drop]; exact ha) (by rw [← hdr, hr, if_pos (by omega)])], rfl⟩
   ·try simp only [cS, ne_eq, Decidable.not_not] at hb4_2
    refine WL.val rfl rfl rfl rfl (r_move rfl (ev_t rfl)) ?_
    refine WL.val rfl rfl rfl rfl (r_eql rfl (ev_t rfl) ev_c) ?_
    refine WL.val rfl rfl rfl rfl (r_pickF rfl (ev_t rfl) (ev_t rfl)) ?_
    refine WL.val rfl rfl rfl rfl (r_move rfl (ev_t rfl)) ?_
    refine WL.cases 23 rfl (fun hb4_6 => ?_) (fun hb4_6 => ?_)
    ·try simp only [cS, ne_eq, Decidable.not_not] at hb4_6
     refine WL.skip rfl rfl rfl (WL.skip rfl rfl rfl (WL.val rfl rfl rfl rfl (r_pickT rfl (ev_t rfl) ev_c) ?_))
     refine WL.val rfl rfl rfl rfl (r_move rfl (ev_t rfl)) ?_
     refine WL.skip rfl rfl rfl (WL.skip rfl rfl rfl (WL.val rfl rfl rfl rfl (r_pickT rfl (ev_t rfl) ev_c) ?_))
     refine WL.nil (WX.keep [(0, _), (1, _), (5, _), (30, _)] ⟨rfl, rfl, rfl, rfl, trivial⟩ (WX.next (WC.cond_true rfl (ev_t rfl) ?_)))
     refine WC.seq ?_
     have hws : wsB c = true := by simp only [wsB, decide_eq_true_eq]; omega
     refine WC.region (WL.val rfl rfl rfl rfl (r_move rfl (ev_t rfl)) ?_)
     first | refine WL.val rfl rfl rfl rfl (r_addN rfl (ev_t rfl) ev_c (by simp only [inK]; omega)) ?_ | refine WL.val rfl rfl rfl rfl (r_add rfl (ev_t rfl) ev_c) ?_
     refine WL.val rfl rfl rfl rfl (r_assign rfl (ev_t rfl)) ?_
     refine WL.nil (WX.keep [(0, _), (1, _), (5, _)] ⟨rfl, rfl, rfl, trivial⟩ (WX.next (WC.exit (WX.thenExit (WX.blockHere (WX.meet [(0, _), (1, _), (5, _)] ⟨rfl, rfl, rfl, trivial⟩ ?_))))))
     first
      | exact ⟨s.length - (k + 1), by omega, k + 1, by omega, by omega, rfl, hU, by rw [he, hdr, skipF_ws hws], rfl⟩
      | exact ⟨s.length - (m + 2), by omega, m + 2, by omega, by omega, rfl, hU, by rw [he, hdr, skipF_rem hws (by rw [← hdr, ← atF_drop]; exact ha) (by rw [← hdr, hr, if_pos (by omega)])], rfl⟩
    ·try simp only [cS, ne_eq, Decidable.not_not] at hb4_6
     refine WL.val rfl rfl rfl rfl (r_move rfl (ev_t rfl)) ?_
     refine WL.val rfl rfl rfl rfl (r_eql rfl (ev_t rfl) ev_c) ?_
     refine WL.val rfl rfl rfl rfl (r_pickF rfl (ev_t rfl) (ev_t rfl)) ?_
     refine WL.val rfl rfl rfl rfl (r_move rfl (ev_t rfl)) ?_
     refine WL.cases 27 rfl (fun hb4_10 => ?_) (fun hb4_10 => ?_)
     ·try simp only [cS, ne_eq, Decidable.not_not] at hb4_10
      refine WL.skip rfl rfl rfl (WL.skip rfl rfl rfl (WL.val rfl rfl rfl rfl (r_pickT rfl (ev_t rfl) ev_c) ?_))
      refine WL.nil (WX.keep [(0, _), (1, _), (5, _), (30, _)] ⟨rfl, rfl, rfl, rfl, trivial⟩ (WX.next (WC.cond_true rfl (ev_t rfl) ?_)))
      refine WC.seq ?_
      have hws : wsB c = true := by simp only [wsB, decide_eq_true_eq]; omega
      refine WC.region (WL.val rfl rfl rfl rfl (r_move rfl (ev_t rfl)) ?_)
      first | refine WL.val rfl rfl rfl rfl (r_addN rfl (ev_t rfl) ev_c (by simp only [inK]; omega)) ?_ | refine WL.val rfl rfl rfl rfl (r_add rfl (ev_t rfl) ev_c) ?_
      refine WL.val rfl rfl rfl rfl (r_assign rfl (ev_t rfl)) ?_
      refine WL.nil (WX.keep [(0, _), (1, _), (5, _)] ⟨rfl, rfl, rfl, trivial⟩ (WX.next (WC.exit (WX.thenExit (WX.blockHere (WX.meet [(0, _), (1, _), (5, _)] ⟨rfl, rfl, rfl, trivial⟩ ?_))))))
      first
       | exact ⟨s.length - (k + 1), by omega, k + 1, by omega, by omega, rfl, hU, by rw [he, hdr, skipF_ws hws], rfl⟩
       | exact ⟨s.length - (m + 2), by omega, m + 2, by omega, by omega, rfl, hU, by rw [he, hdr, skipF_rem hws (by rw [← hdr, ← atF_drop]; exact ha) (by rw [← hdr, hr, if_pos (by omega)])], rfl⟩
     ·try simp only [cS, ne_eq, Decidable.not_not] at hb4_10
      refine WL.val rfl rfl rfl rfl (r_move rfl (ev_t rfl)) ?_
      refine WL.val rfl rfl rfl rfl (r_eql rfl (ev_t rfl) ev_c) ?_
      refine WL.val rfl rfl rfl rfl (r_pickF rfl (ev_t rfl) (ev_t rfl)) ?_
      refine WL.nil (WX.keep [(0, _), (1, _), (5, _), (30, _)] ⟨rfl, rfl, rfl, rfl, trivial⟩ (WX.next (WC.cond rfl (ev_t rfl) (fun hc4 => ?_) (fun hc4 => ?_))))
      ·try simp only [cS, ne_eq, Decidable.not_not] at hc4
       refine WC.seq ?_
       have hws : wsB c = true := by simp only [wsB, decide_eq_true_eq]; omega
       refine WC.region (WL.val rfl rfl rfl rfl (r_move rfl (ev_t rfl)) ?_)
       first | refine WL.val rfl rfl rfl rfl (r_addN rfl (ev_t rfl) ev_c (by simp only [inK]; omega)) ?_ | refine WL.val rfl rfl rfl rfl (r_add rfl (ev_t rfl) ev_c) ?_
       refine WL.val rfl rfl rfl rfl (r_assign rfl (ev_t rfl)) ?_
       refine WL.nil (WX.keep [(0, _), (1, _), (5, _)] ⟨rfl, rfl, rfl, trivial⟩ (WX.next (WC.exit (WX.thenExit (WX.blockHere (WX.meet [(0, _), (1, _), (5, _)] ⟨rfl, rfl, rfl, trivial⟩ ?_))))))
       first
        | exact ⟨s.length - (k + 1), by omega, k + 1, by omega, by omega, rfl, hU, by rw [he, hdr, skipF_ws hws], rfl⟩
        | exact ⟨s.length - (m + 2), by omega, m + 2, by omega, by omega, rfl, hU, by rw [he, hdr, skipF_rem hws (by rw [← hdr, ← atF_drop]; exact ha) (by rw [← hdr, hr, if_pos (by omega)])], rfl⟩
      ·try simp only [cS, ne_eq, Decidable.not_not] at hc4
       refine WC.skip (WX.next (WC.seq (WC.seq (WC.region ?_))))
       have hws : wsB c = false := by simp only [wsB, decide_eq_false_iff_not]; omega
       refine WL.val rfl rfl rfl rfl (r_move rfl (ev_t rfl)) ?_
       refine WL.val rfl rfl rfl rfl (r_move rfl (ev_t rfl)) ?_
       refine WL.cons (SO.call (lat_ok (s := s) (t := [40, 42]) (i := k) (by omega) (by omega) (by simp)) rfl body_74 ⟨(ev_t rfl), (ev_t rfl), ev_c, trivial⟩ rfl rfl rfl rfl ?_)
       rintro v9 w1 ⟨rfl, hu1⟩
       have hs1 := hu1.size
       replace hU := hU.transA hu1
       refine WL.val rfl rfl rfl rfl (r_not rfl (ev_t rfl)) ?_
       refine WL.nil (WX.keep [(0, _), (1, _), (5, _), (36, _)] ⟨rfl, rfl, rfl, rfl, trivial⟩ (WX.next (WC.cond rfl (ev_t rfl) (fun hc6 => ?_) (fun hc6 => ?_))))
       ·try simp only [cS, ne_eq, Decidable.not_not] at hc6
        have ha : atF s k [40, 42] = false := by simpa using hc6
        refine WC.exit (WX.thenExit (WX.blockPast rfl (WX.thenExit (WX.blockHere (WX.next (WC.seq (WC.region (WL.val rfl rfl rfl rfl (r_move rfl (ev_t rfl)) ?_))))))))
        refine WL.val rfl rfl rfl rfl (r_move rfl (ev_t rfl)) ?_
        first | refine WL.val rfl rfl rfl rfl (r_subN rfl (ev_t rfl) (ev_t rfl) (by simp only [inK]; omega)) ?_ | refine WL.val rfl rfl rfl rfl (r_sub rfl (ev_t rfl) (ev_t rfl)) ?_
        refine WL.val rfl rfl rfl rfl (r_assign rfl (ev_t rfl)) ?_
        refine WL.nil (WX.keep [(4, _)] ⟨rfl, trivial⟩ (WX.next (WC.ret (WX.retE1 rfl rfl ?_))))
        refine ⟨⟨_, rfl, by omega, by omega, ?_⟩, hU⟩
        first
         | (rw [he, hdr, skipF_stop hws (by rw [← hdr, ← atF_drop]; exact ha)]; exact ⟨k, hk, hk2, hdr.symm, rfl⟩)
         | (obtain rfl : k = s.length := by omega
            rw [he, List.drop_length, skipF_nil]
            exact ⟨s.length, hk, hk2, by rw [List.drop_length], rfl⟩)
       ·try simp only [cS, ne_eq, Decidable.not_not] at hc6
        have ha : atF s k [40, 42] = true := by simpa using hc6
        refine WC.skip (WX.next (WC.seq (WC.region (WL.val rfl rfl rfl rfl (r_assign rfl ev_c) ?_))))
        refine WL.nil (WX.keep [(0, _), (1, _), (5, _), (7, _)] ⟨rfl, rfl, rfl, rfl, trivial⟩ (WX.next (WC.seq (WC.region (WL.val rfl rfl rfl rfl (r_move rfl (ev_t rfl)) ?_)))))
        refine WL.val rfl rfl rfl rfl (r_assign rfl (ev_t rfl)) ?_
        refine WL.nil (WX.keep [(0, _), (1, _), (5, _), (7, _), (8, _)] ⟨rfl, rfl, rfl, rfl, rfl, trivial⟩ (WX.next (WC.seq (WC.block ?_))))
        -- loop 2: live [0, 1, 5, 7, 8]
        refine WC.keep [(0, _), (1, _), (5, _), (7, _), (8, _)] ⟨rfl, rfl, rfl, rfl, rfl, trivial⟩ (WC.loop (fun qq E wC => ∃ (d m : Nat), k ≤ m ∧ m ≤ s.length ∧ d ≤ m ∧ qq = s.length - m ∧ Upd No w wC ∧ remF 0 (s.drop k) = remF d (s.drop m) ∧ (m = k ∧ d = 0 ∨ 0 < d) ∧ E = [(0, Sv s), (1, .int .i64 (k : Int)), (5, .int .i64 (i : Int)), (7, .int .i64 (d : Int)), (8, .int .i64 (m : Int))]) (s.length - k) ?_ ?_)
        ·exact ⟨0, k, by omega, by omega, by omega, by omega, hU, rfl, .inl ⟨rfl, rfl⟩, rfl⟩
        ·clear hU
         rintro qq E wD ⟨d, m, hm, hm2, hd, rfl, hU, hr, hd0, rfl⟩
         refine WC.block (WC.seq (WC.block (WC.seq (WC.region (WL.val rfl rfl rfl rfl (r_move rfl (ev_t rfl)) ?_)))))
         refine WL.val rfl rfl rfl rfl (r_move rfl (ev_t rfl)) ?_
         refine WL.val rfl rfl rfl rfl (r_lenStrL rfl (ev_t rfl) str_9) ?_
         refine WL.val rfl rfl rfl rfl (r_geq rfl (ev_t rfl) (ev_t rfl)) ?_
         refine WL.val rfl rfl rfl rfl (r_assign rfl (ev_t rfl)) ?_
         refine WL.nil (WX.keep [(0, _), (1, _), (5, _), (7, _), (8, _), (40, _)] ⟨rfl, rfl, rfl, rfl, rfl, rfl, trivial⟩ (WX.next (WC.cond rfl (ev_t rfl) (fun hc10 => ?_) (fun hc10 => ?_))))
         ·try simp only [cS, ne_eq, Decidable.not_not] at hc10
          refine WC.seq (WC.region (WL.val rfl rfl rfl rfl (r_move rfl (ev_t rfl)) ?_))
          refine WL.val rfl rfl rfl rfl (r_move rfl (ev_t rfl)) ?_
          first | refine WL.val rfl rfl rfl rfl (r_subN rfl (ev_t rfl) (ev_t rfl) (by simp only [inK]; omega)) ?_ | refine WL.val rfl rfl rfl rfl (r_sub rfl (ev_t rfl) (ev_t rfl)) ?_
          first | refine WL.val rfl rfl rfl rfl (r_subN rfl ev_c (ev_t rfl) (by simp only [inK]; omega)) ?_ | refine WL.val rfl rfl rfl rfl (r_sub rfl ev_c (ev_t rfl)) ?_
          refine WL.val rfl rfl rfl rfl (r_assign rfl (ev_t rfl)) ?_
          refine WL.nil (WX.keep [(4, _)] ⟨rfl, trivial⟩ (WX.next (WC.ret (WX.blockRet (WX.thenRet (WX.blockRet (WX.thenRet (WX.blockRet (WX.thenRet (WX.blockRet (WX.thenRet (WX.blockRet (WX.thenRet (WX.retE1 rfl rfl ?_))))))))))))))
          obtain rfl : m = s.length := by omega
          rw [List.drop_length, remF_end] at hr
          refine ⟨⟨_, rfl, by omega, by omega, ?_⟩, hU⟩
          rw [he, hdr, skipF_none hws (by rw [← hdr, ← atF_drop]; exact ha) (by rw [← hdr, hr])]
          show _ < _
          omega
         ·try simp only [cS, ne_eq, Decidable.not_not] at hc10
          refine WC.seq (WC.region (WL.val rfl rfl rfl rfl (r_move rfl (ev_t rfl)) ?_))
          refine WL.val rfl rfl rfl rfl (r_move rfl (ev_t rfl)) ?_
          refine WL.cons (SO.call (lat_ok (s := s) (t := [40, 42]) (i := m) (by omega) (by omega) (by simp)) rfl body_74 ⟨(ev_t rfl), (ev_t rfl), ev_c, trivial⟩ rfl rfl rfl rfl ?_)
          rintro v9 w2 ⟨rfl, hu2⟩
          have hs2 := hu2.size
          replace hU := hU.transA hu2
          refine WL.val rfl rfl rfl rfl (r_assign rfl (ev_t rfl)) ?_
          refine WL.nil (WX.keep [(0, _), (1, _), (5, _), (7, _), (8, _), (49, _)] ⟨rfl, rfl, rfl, rfl, rfl, rfl, trivial⟩ (WX.next (WC.cond rfl (ev_t rfl) (fun hc12 => ?_) (fun hc12 => ?_))))
          ·have ho : atF s m [40, 42] = true := by simpa using hc12
           have hm3 := atF_le2 ho
           rw [remF_open ho] at hr
           refine WC.seq (WC.region (WL.val rfl rfl rfl rfl (r_move rfl (ev_t rfl)) ?_))
           first | refine WL.val rfl rfl rfl rfl (r_addN rfl (ev_t rfl) ev_c (by simp only [inK]; omega)) ?_ | refine WL.val rfl rfl rfl rfl (r_add rfl (ev_t rfl) ev_c) ?_
           refine WL.val rfl rfl rfl rfl (r_assign rfl (ev_t rfl)) ?_
           refine WL.nil (WX.keep [(0, _), (1, _), (5, _), (7, _), (8, _)] ⟨rfl, rfl, rfl, rfl, rfl, trivial⟩ (WX.next (WC.region (WL.val rfl rfl rfl rfl (r_move rfl (ev_t rfl)) ?_))))
           first | refine WL.val rfl rfl rfl rfl (r_addN rfl (ev_t rfl) ev_c (by simp only [inK]; omega)) ?_ | refine WL.val rfl rfl rfl rfl (r_add rfl (ev_t rfl) ev_c) ?_
           refine WL.val rfl rfl rfl rfl (r_assign rfl (ev_t rfl)) ?_
           refine WL.nil (WX.keep [(0, _), (1, _), (5, _), (7, _), (8, _)] ⟨rfl, rfl, rfl, rfl, rfl, trivial⟩ (WX.blockNormal (WX.next (WC.seq (WC.region (WL.val rfl rfl rfl rfl (r_move rfl (ev_t rfl)) ?_))))))
           refine WL.val rfl rfl rfl rfl (r_eql rfl (ev_t rfl) ev_c) ?_
           refine WL.nil (WX.keep [(0, _), (1, _), (5, _), (7, _), (8, _), (66, _)] ⟨rfl, rfl, rfl, rfl, rfl, rfl, trivial⟩ (WX.next (WC.cond rfl (ev_t rfl) (fun hc18 => ?_) (fun hc18 => ?_))))
           ·exfalso; (simp only [cS] at hc18; omega)
           ·try simp only [cS, ne_eq, Decidable.not_not] at hc18
            refine WC.skip (WX.blockNormal (WX.meet [(0, _), (1, _), (5, _), (7, _), (8, _)] ⟨rfl, rfl, rfl, rfl, rfl, trivial⟩ ?_))
            first
             | exact ⟨s.length - (m + 2), by omega, d + 1, m + 2, by omega, by omega, by omega, rfl, hU, hr, .inr (by omega), rfl⟩
             | exact ⟨s.length - (m + 2), by omega, d, m + 2, by omega, by omega, by omega, rfl, hU, by rw [hr, if_neg (by omega)], .inr (by omega), by simp only [Int.natCast_add, Int.natCast_one, Int.add_sub_cancel]; rfl⟩
             | exact ⟨s.length - (m + 1), by omega, d + 1, m + 1, by omega, by omega, by omega, rfl, hU, hr, .inr (by omega), rfl⟩
          ·have ho : atF s m [40, 42] = false := by simpa using hc12
           obtain ⟨d, rfl⟩ : ∃ e, d = e + 1 := by
            rcases hd0 with ⟨rfl, _⟩ | h
            ·rw [ho] at ha; cases ha
            ·exact ⟨d - 1, by omega⟩
           refine WC.seq (WC.region (WL.val rfl rfl rfl rfl (r_move rfl (ev_t rfl)) ?_))
           refine WL.val rfl rfl rfl rfl (r_move rfl (ev_t rfl)) ?_
           refine WL.cons (SO.call (lat_ok (s := s) (t := [42, 41]) (i := m) (by omega) (by omega) (by simp)) rfl body_74 ⟨(ev_t rfl), (ev_t rfl), ev_c, trivial⟩ rfl rfl rfl rfl ?_)
           rintro v9 w3 ⟨rfl, hu3⟩
           have hs3 := hu3.size
           replace hU := hU.transA hu3
           refine WL.val rfl rfl rfl rfl (r_assign rfl (ev_t rfl)) ?_
           refine WL.nil (WX.keep [(0, _), (1, _), (5, _), (7, _), (8, _), (57, _)] ⟨rfl, rfl, rfl, rfl, rfl, rfl, trivial⟩ (WX.next (WC.cond rfl (ev_t rfl) (fun hc15 => ?_) (fun hc15 => ?_))))
           ·have hq : atF s m [42, 41] = true := by simpa using hc15
            have hm3 := atF_le2 hq
            rw [remF_close hq] at hr
            refine WC.seq (WC.region (WL.val rfl rfl rfl rfl (r_move rfl (ev_t rfl)) ?_))
            first | refine WL.val rfl rfl rfl rfl (r_subN rfl (ev_t rfl) ev_c (by simp only [inK]; omega)) ?_ | refine WL.val rfl rfl rfl rfl (r_sub rfl (ev_t rfl) ev_c) ?_
            refine WL.val rfl rfl rfl rfl (r_assign rfl (ev_t rfl)) ?_
            refine WL.nil (WX.keep [(0, _), (1, _), (5, _), (7, _), (8, _)] ⟨rfl, rfl, rfl, rfl, rfl, trivial⟩ (WX.next (WC.region (WL.val rfl rfl rfl rfl (r_move rfl (ev_t rfl)) ?_))))
            first | refine WL.val rfl rfl rfl rfl (r_addN rfl (ev_t rfl) ev_c (by simp only [inK]; omega)) ?_ | refine WL.val rfl rfl rfl rfl (r_add rfl (ev_t rfl) ev_c) ?_
            refine WL.val rfl rfl rfl rfl (r_assign rfl (ev_t rfl)) ?_
            refine WL.nil (WX.keep [(0, _), (1, _), (5, _), (7, _), (8, _)] ⟨rfl, rfl, rfl, rfl, rfl, trivial⟩ (WX.blockNormal (WX.next (WC.seq (WC.region (WL.val rfl rfl rfl rfl (r_move rfl (ev_t rfl)) ?_))))))
            refine WL.val rfl rfl rfl rfl (r_eql rfl (ev_t rfl) ev_c) ?_
            refine WL.nil (WX.keep [(0, _), (1, _), (5, _), (7, _), (8, _), (66, _)] ⟨rfl, rfl, rfl, rfl, rfl, rfl, trivial⟩ (WX.next (WC.cond rfl (ev_t rfl) (fun hc18 => ?_) (fun hc18 => ?_))))
            ·try simp only [cS, ne_eq, Decidable.not_not] at hc18
             refine WC.exit (WX.blockPast rfl (WX.thenExit (WX.blockHere (WX.next (WC.region (WL.val rfl rfl rfl rfl (r_move rfl (ev_t rfl)) ?_))))))
             refine WL.val rfl rfl rfl rfl (r_assign rfl (ev_t rfl)) ?_
             refine WL.nil (WX.keep [(0, _), (1, _), (5, _)] ⟨rfl, rfl, rfl, trivial⟩ (WX.blockNormal (WX.meet [(0, _), (1, _), (5, _)] ⟨rfl, rfl, rfl, trivial⟩ ?_)))
             first
              | exact ⟨s.length - (k + 1), by omega, k + 1, by omega, by omega, rfl, hU, by rw [he, hdr, skipF_ws hws], rfl⟩
              | exact ⟨s.length - (m + 2), by omega, m + 2, by omega, by omega, rfl, hU, by rw [he, hdr, skipF_rem hws (by rw [← hdr, ← atF_drop]; exact ha) (by rw [← hdr, hr, if_pos (by omega)])], rfl⟩
            ·try simp only [cS, ne_eq, Decidable.not_not] at hc18
             refine WC.skip (WX.blockNormal (WX.meet [(0, _), (1, _), (5, _), (7, _), (8, _)] ⟨rfl, rfl, rfl, rfl, rfl, trivial⟩ ?_))
             first
              | exact ⟨s.length - (m + 2), by omega, d + 1, m + 2, by omega, by omega, by omega, rfl, hU, hr, .inr (by omega), rfl⟩
              | exact ⟨s.length - (m + 2), by omega, d, m + 2, by omega, by omega, by omega, rfl, hU, by rw [hr, if_neg (by omega)], .inr (by omega), by simp only [Int.natCast_add, Int.natCast_one, Int.add_sub_cancel]; rfl⟩
              | exact ⟨s.length - (m + 1), by omega, d + 1, m + 1, by omega, by omega, by omega, rfl, hU, hr, .inr (by omega), rfl⟩
           ·have hq : atF s m [42, 41] = false := by simpa using hc15
            rw [remF_other (by omega) ho hq] at hr
            refine WC.region (WL.val rfl rfl rfl rfl (r_move rfl (ev_t rfl)) ?_)
            first | refine WL.val rfl rfl rfl rfl (r_addN rfl (ev_t rfl) ev_c (by simp only [inK]; omega)) ?_ | refine WL.val rfl rfl rfl rfl (r_add rfl (ev_t rfl) ev_c) ?_
            refine WL.val rfl rfl rfl rfl (r_assign rfl (ev_t rfl)) ?_
            refine WL.nil (WX.keep [(0, _), (1, _), (5, _), (7, _), (8, _)] ⟨rfl, rfl, rfl, rfl, rfl, trivial⟩ (WX.blockNormal (WX.next (WC.seq (WC.region (WL.val rfl rfl rfl rfl (r_move rfl (ev_t rfl)) ?_))))))
            refine WL.val rfl rfl rfl rfl (r_eql rfl (ev_t rfl) ev_c) ?_
            refine WL.nil (WX.keep [(0, _), (1, _), (5, _), (7, _), (8, _), (66, _)] ⟨rfl, rfl, rfl, rfl, rfl, rfl, trivial⟩ (WX.next (WC.cond rfl (ev_t rfl) (fun hc18 => ?_) (fun hc18 => ?_))))
            ·exfalso; (simp only [cS] at hc18; omega)
            ·try simp only [cS, ne_eq, Decidable.not_not] at hc18
             refine WC.skip (WX.blockNormal (WX.meet [(0, _), (1, _), (5, _), (7, _), (8, _)] ⟨rfl, rfl, rfl, rfl, rfl, trivial⟩ ?_))
             first
              | exact ⟨s.length - (m + 2), by omega, d + 1, m + 2, by omega, by omega, by omega, rfl, hU, hr, .inr (by omega), rfl⟩
              | exact ⟨s.length - (m + 2), by omega, d, m + 2, by omega, by omega, by omega, rfl, hU, by rw [hr, if_neg (by omega)], .inr (by omega), by simp only [Int.natCast_add, Int.natCast_one, Int.add_sub_cancel]; rfl⟩
              | exact ⟨s.length - (m + 1), by omega, d + 1, m + 1, by omega, by omega, by omega, rfl, hU, hr, .inr (by omega), rfl⟩
  ·try simp only [cS, ne_eq, Decidable.not_not] at hc2
   refine WC.exit (WX.thenExit (WX.thenExit (WX.blockHere (WX.next (WC.seq (WC.region (WL.val rfl rfl rfl rfl (r_move rfl (ev_t rfl)) ?_)))))))
   refine WL.val rfl rfl rfl rfl (r_move rfl (ev_t rfl)) ?_
   first | refine WL.val rfl rfl rfl rfl (r_subN rfl (ev_t rfl) (ev_t rfl) (by simp only [inK]; omega)) ?_ | refine WL.val rfl rfl rfl rfl (r_sub rfl (ev_t rfl) (ev_t rfl)) ?_
   refine WL.val rfl rfl rfl rfl (r_assign rfl (ev_t rfl)) ?_
   refine WL.nil (WX.keep [(4, _)] ⟨rfl, trivial⟩ (WX.next (WC.ret (WX.retE1 rfl rfl ?_))))
   refine ⟨⟨_, rfl, by omega, by omega, ?_⟩, hU⟩
   first
    | (rw [he, hdr, skipF_stop hws (by rw [← hdr, ← atF_drop]; exact ha)]; exact ⟨k, hk, hk2, hdr.symm, rfl⟩)
    | (obtain rfl : k = s.length := by omega
       rw [he, List.drop_length, skipF_nil]
       exact ⟨s.length, hk, hk2, by rw [List.drop_length], rfl⟩)
end Go.Proofs.YtomkdhkkggbioaaGreatDoor

/-
  The reference's lexer: texts.
-/
namespace Go.Proofs.YtomkdhkkggbioaaGreatDoor
open Go
set_option linter.unusedSimpArgs false
set_option linter.unusedVariables false

/-- what the reference tells of a token at a place -/
def oneV (r : Option (Tok × List UInt8)) (s : List UInt8) (i : Nat) (v : Value) : Prop := match r with
  | some (t, q) => ∃ k : Nat, i < k ∧ k ≤ s.length ∧ q = s.drop k ∧ v = .tuple #[.agg #[.int .u8 (t.k : Int), Sv t.s, .int .i64 0], .int .i64 (k : Int), .int .i64 0, .int .i64 0]
  | none => ∃ (k b : Int), v = .tuple #[.agg #[.int .u8 0, .string ⟨#[]⟩, .int .i64 0], .int .i64 k, .int .i64 b, .int .i64 4]
theorem textF_q {t r : List UInt8} {c : UInt8} (h : c.toNat = 34) : textF t (c :: r) = some (t, r) := by unfold textF; rw [if_pos h]
theorem textF_c {t r : List UInt8} {c : UInt8} (h : c.toNat ≠ 34) (h2 : c.toNat ≠ 92) : textF t (c :: r) = textF (t ++ [c]) r := by rw [textF.eq_def]; simp only; rw [if_neg h, if_pos h2]
theorem textF_e0 {t : List UInt8} {c : UInt8} (h : c.toNat = 92) : textF t [c] = none := by unfold textF; simp [h]
theorem textF_e {t r : List UInt8} {c d : UInt8} (h : c.toNat = 92) : textF t (c :: d :: r) = if d.toNat = 110 then textF (t ++ [10]) r else if d.toNat = 116 then textF (t ++ [9]) r else if d.toNat = 34 then textF (t ++ [34]) r else if d.toNat = 92 then textF (t ++ [92]) r else none := by rw [textF.eq_def]; simp [h]
theorem textF_nil {t : List UInt8} : textF t [] = none := by unfold textF; rfl
theorem ltext_ok {w : World} {s : List UInt8} {i : Nat} (hi : i < s.length) (hs : s.length ≤ 1000000) : Ret Tryz.prog 81 #[Sv s, .int .i64 (i : Int)] w fun v w' => oneV ((textF [] (s.drop (i + 1))).map fun p => (⟨5, p.1⟩, p.2)) s i v ∧ Upd No w w' := by
  refine enterRet (vs := [_, _]) (N := 69) Tryz.func81 rfl rfl rfl ?_
  have hU := Upd.refl No w
  refine WC.keep [(0, _), (1, _)] ⟨rfl, rfl, trivial⟩ (WC.seq (WC.region (WL.cons (SO.alloc rfl rfl rfl rfl (r_alloc rfl zero_81) ?_))))
  intro w1 hu1 hB1 hz1
  have hs1 := hu1.size
  replace hU := hU.transA hu1
  refine WL.val rfl rfl rfl rfl (r_assign rfl ev_c) ?_
  refine WL.val rfl rfl rfl rfl (r_assign rfl ev_c) ?_
  refine WL.val rfl rfl rfl rfl (r_assign rfl ev_c) ?_
  refine WL.nil (WX.keep [(0, _), (1, _), (4, _)] ⟨rfl, rfl, rfl, trivial⟩ ?_)
  have hb := hB1
  refine WX.next (WC.seq (WC.region (WL.val rfl rfl rfl rfl (r_assign rfl ev_c) ?_)))
  refine WL.nil (WX.keep [(0, _), (1, _), (4, _), (8, _)] ⟨rfl, rfl, rfl, rfl, trivial⟩ (WX.next (WC.seq (WC.seq (WC.region (WL.val rfl rfl rfl rfl (r_move rfl (ev_t rfl)) ?_))))))
  refine WL.val rfl rfl rfl rfl (r_addN rfl (ev_t rfl) ev_c (by simp only [inK]; omega)) ?_
  refine WL.val rfl rfl rfl rfl (r_assign rfl (ev_t rfl)) ?_
  refine WL.nil (WX.keep [(0, _), (4, _), (8, _), (9, _)] ⟨rfl, rfl, rfl, rfl, trivial⟩ (WX.next (WC.block ?_)))
  -- loop 1: live [0, 4, 8, 9]
  refine WC.keep [(0, _), (4, _), (8, _), (9, _)] ⟨rfl, rfl, rfl, rfl, trivial⟩ (WC.loop (fun qq E wC => ∃ (t : List UInt8) (k : Nat), i < k ∧ k ≤ s.length ∧ t.length ≤ k ∧ qq = s.length - k ∧ Upd No w wC ∧ (∃ a b c, Blk wC w.heap.size #[a, b, c] 81) ∧ textF [] (s.drop (i + 1)) = textF t (s.drop k) ∧ E = [(0, Sv s), (4, .pointer (some ⟨w.heap.size, 0, none⟩)), (8, Sv t), (9, .int .i64 (k : Int))]) (s.length - (i + 1)) ?_ ?_)
  · exact ⟨[], i + 1, by omega, by omega, by simp, by omega, hU, ⟨_, _, _, hb⟩, rfl, rfl⟩
  · clear hU hb
    rintro qq E wC ⟨t, k, hk, hk2, htl, rfl, hU, ⟨a0, b0, c0, hb⟩, he, rfl⟩
    refine WC.seq (WC.seq (WC.region (WL.val rfl rfl rfl rfl (r_move rfl (ev_t rfl)) ?_)))
    refine WL.val rfl rfl rfl rfl (r_move rfl (ev_t rfl)) ?_
    refine WL.val rfl rfl rfl rfl (r_lenStrL rfl (ev_t rfl) str_9) ?_
    refine WL.val rfl rfl rfl rfl (r_lss rfl (ev_t rfl) (ev_t rfl)) ?_
    refine WL.nil (WX.keep [(0, _), (4, _), (8, _), (9, _), (15, _)] ⟨rfl, rfl, rfl, rfl, rfl, trivial⟩ (WX.next (WC.cond rfl (ev_t rfl) (fun hc3 => ?_) (fun hc3 => ?_))))
    · try simp only [cS, ne_eq, Decidable.not_not] at hc3
      have hkl : k < s.length := by omega
      have hg : s[k]? = some (s[k]'hkl) := List.getElem?_eq_getElem hkl
      have hdr := List.drop_eq_getElem_cons hkl
      generalize s[k]'hkl = c at hg hdr
      rw [hdr] at he
      refine WC.skip (WX.next (WC.seq (WC.block (WC.seq (WC.seq (WC.region (WL.val rfl rfl rfl rfl (r_move rfl (ev_t rfl)) ?_)))))))
      refine WL.val rfl rfl rfl rfl (r_move rfl (ev_t rfl)) ?_
      refine WL.val rfl rfl rfl rfl (r_indexStr (j := k) (c := c) rfl (ev_t rfl) (ev_t rfl) Tryz.underlying9 rfl (by rw [mk_toList]; exact hg)) ?_
      refine WL.val rfl rfl rfl rfl (r_eql rfl (ev_t rfl) ev_c) ?_
      refine WL.nil (WX.keep [(0, _), (4, _), (8, _), (9, _), (21, _)] ⟨rfl, rfl, rfl, rfl, rfl, trivial⟩ (WX.next (WC.cond rfl (ev_t rfl) (fun hc5 => ?_) (fun hc5 => ?_))))
      · try simp only [cS, ne_eq, Decidable.not_not] at hc5
        refine WC.seq ?_
        rw [textF_q (by omega)] at he
        refine WC.region (WL.val rfl rfl rfl rfl (r_move rfl (ev_t rfl)) ?_)
        refine WL.val rfl rfl rfl rfl (r_build (cs := #[_, _, _]) (vs := [(0, _), (1, _)]) rfl ⟨⟨rfl, ev_c⟩, ⟨rfl, (ev_t rfl)⟩, trivial⟩ plc_81 zero_81 rfl) ?_
        refine WL.val rfl rfl rfl rfl (r_move rfl (ev_t rfl)) ?_
        refine WL.val rfl rfl rfl rfl (r_addN rfl (ev_t rfl) ev_c (by simp only [inK]; omega)) ?_
        refine WL.cons (SO.storeAll (us := [_, _, _]) rfl (ev_t rfl) (ev_t rfl) size_81 hb rfl rfl rfl rfl rfl ?_)
        intro w2 hu2 hb hz2
        have hs2 := hu2.size
        replace hU := hU.transA hu2
        refine WL.val rfl rfl rfl rfl (r_assign rfl (ev_t rfl)) ?_
        refine WL.val rfl rfl rfl rfl (r_assign rfl ev_c) ?_
        refine WL.val rfl rfl rfl rfl (r_assign rfl ev_c) ?_
        refine WL.nil (WX.keep [(4, _), (5, _), (6, _), (7, _)] ⟨rfl, rfl, rfl, rfl, trivial⟩ (WX.next (WC.ret (WX.thenRet (WX.blockRet (WX.thenRet (WX.thenRet (WX.blockRet (WX.thenRet (WX.retM (l := [.cell 4 81, .tmp 5, .tmp 6, .tmp 7]) (vs := [_, _, _, _]) rfl ⟨⟨_, [_, _, _], rfl, agg_81, size_81, (Blk.cellsL hb), rfl⟩, ⟨rfl, ⟨rfl, ⟨rfl, trivial⟩⟩⟩⟩ ?_))))))))))
        refine ⟨?_, hU⟩
        rw [he]
        exact ⟨k + 1, by omega, by omega, rfl, rfl⟩
      · try simp only [cS, ne_eq, Decidable.not_not] at hc5
        refine WC.skip (WX.next (WC.seq (WC.seq (WC.region (WL.val rfl rfl rfl rfl (r_move rfl (ev_t rfl)) ?_)))))
        refine WL.val rfl rfl rfl rfl (r_move rfl (ev_t rfl)) ?_
        refine WL.val rfl rfl rfl rfl (r_indexStr (j := k) (c := c) rfl (ev_t rfl) (ev_t rfl) Tryz.underlying9 rfl (by rw [mk_toList]; exact hg)) ?_
        refine WL.val rfl rfl rfl rfl (r_neq rfl (ev_t rfl) ev_c) ?_
        refine WL.nil (WX.keep [(0, _), (4, _), (8, _), (9, _), (29, _)] ⟨rfl, rfl, rfl, rfl, rfl, trivial⟩ (WX.next (WC.cond rfl (ev_t rfl) (fun hc7 => ?_) (fun hc7 => ?_))))
        · try simp only [cS, ne_eq, Decidable.not_not] at hc7
          refine WC.seq ?_
          rw [textF_c (by omega) (by omega)] at he
          have hsl : (s.drop k).take (k + 1 - k) = [c] := by rw [hdr, show k + 1 - k = 1 by omega]; rfl
          refine WC.region (WL.val rfl rfl rfl rfl (r_move rfl (ev_t rfl)) ?_)
          refine WL.val rfl rfl rfl rfl (r_move rfl (ev_t rfl)) ?_
          refine WL.val rfl rfl rfl rfl (r_move rfl (ev_t rfl)) ?_
          refine WL.val rfl rfl rfl rfl (r_move rfl (ev_t rfl)) ?_
          refine WL.val rfl rfl rfl rfl (r_addN rfl (ev_t rfl) ev_c (by simp only [inK]; omega)) ?_
          refine WL.val rfl rfl rfl rfl (r_sliceStr (l := k) (h := k + 1) rfl (ev_t rfl) str_9 (bnd_some (ev_t rfl) (by omega)) (bnd_some (ev_t rfl) (by omega)) (by omega) (by omega)) ?_
          refine WL.val rfl rfl rfl rfl (r_addStrL (s := t) (s' := (s.drop k).take (k + 1 - k)) rfl (ev_t rfl) (ev_t rfl) (by rw [hsl]; simp; omega)) ?_
          refine WL.val rfl rfl rfl rfl (r_assign rfl (ev_t rfl)) ?_
          refine WL.nil (WX.keep [(0, _), (4, _), (8, _), (9, _)] ⟨rfl, rfl, rfl, rfl, trivial⟩ (WX.next (WC.exit (WX.thenExit (WX.blockHere (WX.next (WC.region (WL.val rfl rfl rfl rfl (r_move rfl (ev_t rfl)) ?_))))))))
          refine WL.val rfl rfl rfl rfl (r_addN rfl (ev_t rfl) ev_c (by simp only [inK]; omega)) ?_
          refine WL.val rfl rfl rfl rfl (r_assign rfl (ev_t rfl)) ?_
          refine WL.nil (WX.keep [(0, _), (4, _), (8, _), (9, _)] ⟨rfl, rfl, rfl, rfl, trivial⟩ (WX.meet [(0, _), (4, _), (8, _), (9, _)] ⟨rfl, rfl, rfl, rfl, trivial⟩ ?_))
          first
            | exact ⟨s.length - (k + 1), by omega, t ++ [c], k + 1, by omega, by omega, by simp; omega, rfl, hU, ⟨_, _, _, hb⟩, he, by rw [hsl]; rfl⟩
            | exact ⟨s.length - (k + 2), by omega, _, k + 2, by omega, by omega, by rw [List.length_append]; simp only [List.length_cons, List.length_nil]; omega, rfl, hU, ⟨_, _, _, hb⟩, he, by simp only [Int.natCast_add, Int.add_assoc, Sv]; rfl⟩
            | fail
        · try simp only [cS, ne_eq, Decidable.not_not] at hc7
          refine WC.skip (WX.next (WC.seq (WC.region (WL.val rfl rfl rfl rfl (r_move rfl (ev_t rfl)) ?_))))
          refine WL.val rfl rfl rfl rfl (r_addN rfl (ev_t rfl) ev_c (by simp only [inK]; omega)) ?_
          refine WL.val rfl rfl rfl rfl (r_assign rfl (ev_t rfl)) ?_
          refine WL.nil (WX.keep [(0, _), (4, _), (8, _), (9, _)] ⟨rfl, rfl, rfl, rfl, trivial⟩ (WX.next (WC.seq (WC.seq (WC.region (WL.val rfl rfl rfl rfl (r_move rfl (ev_t rfl)) ?_))))))
          refine WL.val rfl rfl rfl rfl (r_move rfl (ev_t rfl)) ?_
          refine WL.val rfl rfl rfl rfl (r_lenStrL rfl (ev_t rfl) str_9) ?_
          refine WL.val rfl rfl rfl rfl (r_geq rfl (ev_t rfl) (ev_t rfl)) ?_
          refine WL.nil (WX.keep [(0, _), (4, _), (8, _), (9, _), (42, _)] ⟨rfl, rfl, rfl, rfl, rfl, trivial⟩ (WX.next (WC.cond rfl (ev_t rfl) (fun hc10 => ?_) (fun hc10 => ?_))))
          · try simp only [cS, ne_eq, Decidable.not_not] at hc10
            refine WC.seq ?_
            have hk9 : k + 1 = s.length := by omega
            rw [hk9, List.drop_length, textF_e0 (by omega)] at he
            refine WC.region (WL.val rfl rfl rfl rfl (r_build (cs := #[_, _, _]) (vs := []) rfl trivial plc_81 zero_81 rfl) ?_)
            refine WL.val rfl rfl rfl rfl (r_move rfl (ev_t rfl)) ?_
            refine WL.cons (SO.storeAll (us := [_, _, _]) rfl (ev_t rfl) (ev_t rfl) size_81 hb rfl rfl rfl rfl rfl ?_)
            intro w3 hu3 hb hz3
            have hs3 := hu3.size
            replace hU := hU.transA hu3
            refine WL.val rfl rfl rfl rfl (r_assign rfl ev_c) ?_
            refine WL.val rfl rfl rfl rfl (r_assign rfl (ev_t rfl)) ?_
            refine WL.val rfl rfl rfl rfl (r_assign rfl ev_c) ?_
            refine WL.nil (WX.keep [(4, _), (5, _), (6, _), (7, _)] ⟨rfl, rfl, rfl, rfl, trivial⟩ (WX.next (WC.ret (WX.thenRet (WX.blockRet (WX.thenRet (WX.thenRet (WX.blockRet (WX.thenRet (WX.retM (l := [.cell 4 81, .tmp 5, .tmp 6, .tmp 7]) (vs := [_, _, _, _]) rfl ⟨⟨_, [_, _, _], rfl, agg_81, size_81, (Blk.cellsL hb), rfl⟩, ⟨rfl, ⟨rfl, ⟨rfl, trivial⟩⟩⟩⟩ ?_))))))))))
            refine ⟨?_, hU⟩
            rw [he]
            exact ⟨_, _, rfl⟩
          · try simp only [cS, ne_eq, Decidable.not_not] at hc10
            have hkl2 : k + 1 < s.length := by omega
            have hg2 : s[k + 1]? = some (s[k + 1]'hkl2) := List.getElem?_eq_getElem hkl2
            have hdr2 := List.drop_eq_getElem_cons hkl2
            generalize s[k + 1]'hkl2 = d at hg2 hdr2
            rw [hdr2, textF_e (by omega)] at he
            refine WC.skip (WX.next (WC.seq (WC.region (WL.val rfl rfl rfl rfl (r_move rfl (ev_t rfl)) ?_))))
            refine WL.val rfl rfl rfl rfl (r_move rfl (ev_t rfl)) ?_
            refine WL.val rfl rfl rfl rfl (r_indexStr (j := k + 1) (c := d) rfl (ev_t rfl) (ev_t rfl) Tryz.underlying9 (by omega) (by rw [mk_toList]; exact hg2)) ?_
            refine WL.nil (WX.keep [(0, _), (4, _), (8, _), (9, _), (47, _)] ⟨rfl, rfl, rfl, rfl, rfl, trivial⟩ (WX.next (WC.block (WC.seq (WC.region (WL.val rfl rfl rfl rfl (r_eql rfl (ev_t rfl) ev_c) ?_))))))
            refine WL.val rfl rfl rfl rfl (r_assign rfl (ev_t rfl)) ?_
            refine WL.nil (WX.keep [(0, _), (4, _), (8, _), (9, _), (47, _), (50, _)] ⟨rfl, rfl, rfl, rfl, rfl, rfl, trivial⟩ (WX.next (WC.cond rfl (ev_t rfl) (fun hc14 => ?_) (fun hc14 => ?_))))
            · try simp only [cS, ne_eq, Decidable.not_not] at hc14
              rw [if_pos (by omega)] at he
              refine WC.region (WL.val rfl rfl rfl rfl (r_move rfl (ev_t rfl)) ?_)
              refine WL.val rfl rfl rfl rfl (r_addStrL (s := t) (s' := [10]) rfl (ev_t rfl) ev_c (by simp; omega)) ?_
              refine WL.val rfl rfl rfl rfl (r_assign rfl (ev_t rfl)) ?_
              refine WL.nil (WX.keep [(0, _), (4, _), (8, _), (9, _)] ⟨rfl, rfl, rfl, rfl, trivial⟩ (WX.blockNormal (WX.blockNormal (WX.next (WC.region (WL.val rfl rfl rfl rfl (r_move rfl (ev_t rfl)) ?_))))))
              refine WL.val rfl rfl rfl rfl (r_addN rfl (ev_t rfl) ev_c (by simp only [inK]; omega)) ?_
              refine WL.val rfl rfl rfl rfl (r_assign rfl (ev_t rfl)) ?_
              refine WL.nil (WX.keep [(0, _), (4, _), (8, _), (9, _)] ⟨rfl, rfl, rfl, rfl, trivial⟩ (WX.meet [(0, _), (4, _), (8, _), (9, _)] ⟨rfl, rfl, rfl, rfl, trivial⟩ ?_))
              first
                | exact ⟨s.length - (k + 1), by omega, t ++ [c], k + 1, by omega, by omega, by simp; omega, rfl, hU, ⟨_, _, _, hb⟩, he, by rw [hsl]; rfl⟩
                | exact ⟨s.length - (k + 2), by omega, _, k + 2, by omega, by omega, by rw [List.length_append]; simp only [List.length_cons, List.length_nil]; omega, rfl, hU, ⟨_, _, _, hb⟩, he, by simp only [Int.natCast_add, Int.add_assoc, Sv]; rfl⟩
                | fail
            · try simp only [cS, ne_eq, Decidable.not_not] at hc14
              refine WC.seq (WC.region (WL.val rfl rfl rfl rfl (r_eql rfl (ev_t rfl) ev_c) ?_))
              refine WL.val rfl rfl rfl rfl (r_assign rfl (ev_t rfl)) ?_
              refine WL.nil (WX.keep [(0, _), (4, _), (8, _), (9, _), (47, _), (54, _)] ⟨rfl, rfl, rfl, rfl, rfl, rfl, trivial⟩ (WX.next (WC.cond rfl (ev_t rfl) (fun hc16 => ?_) (fun hc16 => ?_))))
              · try simp only [cS, ne_eq, Decidable.not_not] at hc16
                rw [if_neg (by omega), if_pos (by omega)] at he
                refine WC.region (WL.val rfl rfl rfl rfl (r_move rfl (ev_t rfl)) ?_)
                refine WL.val rfl rfl rfl rfl (r_addStrL (s := t) (s' := [9]) rfl (ev_t rfl) ev_c (by simp; omega)) ?_
                refine WL.val rfl rfl rfl rfl (r_assign rfl (ev_t rfl)) ?_
                refine WL.nil (WX.keep [(0, _), (4, _), (8, _), (9, _)] ⟨rfl, rfl, rfl, rfl, trivial⟩ (WX.blockNormal (WX.blockNormal (WX.next (WC.region (WL.val rfl rfl rfl rfl (r_move rfl (ev_t rfl)) ?_))))))
                refine WL.val rfl rfl rfl rfl (r_addN rfl (ev_t rfl) ev_c (by simp only [inK]; omega)) ?_
                refine WL.val rfl rfl rfl rfl (r_assign rfl (ev_t rfl)) ?_
                refine WL.nil (WX.keep [(0, _), (4, _), (8, _), (9, _)] ⟨rfl, rfl, rfl, rfl, trivial⟩ (WX.meet [(0, _), (4, _), (8, _), (9, _)] ⟨rfl, rfl, rfl, rfl, trivial⟩ ?_))
                first
                  | exact ⟨s.length - (k + 1), by omega, t ++ [c], k + 1, by omega, by omega, by simp; omega, rfl, hU, ⟨_, _, _, hb⟩, he, by rw [hsl]; rfl⟩
                  | exact ⟨s.length - (k + 2), by omega, _, k + 2, by omega, by omega, by rw [List.length_append]; simp only [List.length_cons, List.length_nil]; omega, rfl, hU, ⟨_, _, _, hb⟩, he, by simp only [Int.natCast_add, Int.add_assoc, Sv]; rfl⟩
                  | fail
              · try simp only [cS, ne_eq, Decidable.not_not] at hc16
                refine WC.seq (WC.region (WL.val rfl rfl rfl rfl (r_eql rfl (ev_t rfl) ev_c) ?_))
                refine WL.val rfl rfl rfl rfl (r_assign rfl (ev_t rfl)) ?_
                refine WL.nil (WX.keep [(0, _), (4, _), (8, _), (9, _), (47, _), (58, _)] ⟨rfl, rfl, rfl, rfl, rfl, rfl, trivial⟩ (WX.next (WC.cond rfl (ev_t rfl) (fun hc18 => ?_) (fun hc18 => ?_))))
                · try simp only [cS, ne_eq, Decidable.not_not] at hc18
                  rw [if_neg (by omega), if_neg (by omega), if_pos (by omega)] at he
                  refine WC.region (WL.val rfl rfl rfl rfl (r_move rfl (ev_t rfl)) ?_)
                  refine WL.val rfl rfl rfl rfl (r_addStrL (s := t) (s' := [34]) rfl (ev_t rfl) ev_c (by simp; omega)) ?_
                  refine WL.val rfl rfl rfl rfl (r_assign rfl (ev_t rfl)) ?_
                  refine WL.nil (WX.keep [(0, _), (4, _), (8, _), (9, _)] ⟨rfl, rfl, rfl, rfl, trivial⟩ (WX.blockNormal (WX.blockNormal (WX.next (WC.region (WL.val rfl rfl rfl rfl (r_move rfl (ev_t rfl)) ?_))))))
                  refine WL.val rfl rfl rfl rfl (r_addN rfl (ev_t rfl) ev_c (by simp only [inK]; omega)) ?_
                  refine WL.val rfl rfl rfl rfl (r_assign rfl (ev_t rfl)) ?_
                  refine WL.nil (WX.keep [(0, _), (4, _), (8, _), (9, _)] ⟨rfl, rfl, rfl, rfl, trivial⟩ (WX.meet [(0, _), (4, _), (8, _), (9, _)] ⟨rfl, rfl, rfl, rfl, trivial⟩ ?_))
                  first
                    | exact ⟨s.length - (k + 1), by omega, t ++ [c], k + 1, by omega, by omega, by simp; omega, rfl, hU, ⟨_, _, _, hb⟩, he, by rw [hsl]; rfl⟩
                    | exact ⟨s.length - (k + 2), by omega, _, k + 2, by omega, by omega, by rw [List.length_append]; simp only [List.length_cons, List.length_nil]; omega, rfl, hU, ⟨_, _, _, hb⟩, he, by simp only [Int.natCast_add, Int.add_assoc, Sv]; rfl⟩
                    | fail
                · try simp only [cS, ne_eq, Decidable.not_not] at hc18
                  refine WC.seq (WC.region (WL.val rfl rfl rfl rfl (r_eql rfl (ev_t rfl) ev_c) ?_))
                  refine WL.val rfl rfl rfl rfl (r_assign rfl (ev_t rfl)) ?_
                  refine WL.nil (WX.keep [(0, _), (4, _), (8, _), (9, _), (62, _)] ⟨rfl, rfl, rfl, rfl, rfl, trivial⟩ (WX.next (WC.cond rfl (ev_t rfl) (fun hc20 => ?_) (fun hc20 => ?_))))
                  · try simp only [cS, ne_eq, Decidable.not_not] at hc20
                    rw [if_neg (by omega), if_neg (by omega), if_neg (by omega), if_pos (by omega)] at he
                    refine WC.region (WL.val rfl rfl rfl rfl (r_move rfl (ev_t rfl)) ?_)
                    refine WL.val rfl rfl rfl rfl (r_addStrL (s := t) (s' := [92]) rfl (ev_t rfl) ev_c (by simp; omega)) ?_
                    refine WL.val rfl rfl rfl rfl (r_assign rfl (ev_t rfl)) ?_
                    refine WL.nil (WX.keep [(0, _), (4, _), (8, _), (9, _)] ⟨rfl, rfl, rfl, rfl, trivial⟩ (WX.blockNormal (WX.blockNormal (WX.next (WC.region (WL.val rfl rfl rfl rfl (r_move rfl (ev_t rfl)) ?_))))))
                    refine WL.val rfl rfl rfl rfl (r_addN rfl (ev_t rfl) ev_c (by simp only [inK]; omega)) ?_
                    refine WL.val rfl rfl rfl rfl (r_assign rfl (ev_t rfl)) ?_
                    refine WL.nil (WX.keep [(0, _), (4, _), (8, _), (9, _)] ⟨rfl, rfl, rfl, rfl, trivial⟩ (WX.meet [(0, _), (4, _), (8, _), (9, _)] ⟨rfl, rfl, rfl, rfl, trivial⟩ ?_))
                    first
                      | exact ⟨s.length - (k + 1), by omega, t ++ [c], k + 1, by omega, by omega, by simp; omega, rfl, hU, ⟨_, _, _, hb⟩, he, by rw [hsl]; rfl⟩
                      | exact ⟨s.length - (k + 2), by omega, _, k + 2, by omega, by omega, by rw [List.length_append]; simp only [List.length_cons, List.length_nil]; omega, rfl, hU, ⟨_, _, _, hb⟩, he, by simp only [Int.natCast_add, Int.add_assoc, Sv]; rfl⟩
                      | fail
                  · try simp only [cS, ne_eq, Decidable.not_not] at hc20
                    refine WC.seq ?_
                    rw [if_neg (by omega), if_neg (by omega), if_neg (by omega), if_neg (by omega)] at he
                    refine WC.region (WL.val rfl rfl rfl rfl (r_build (cs := #[_, _, _]) (vs := []) rfl trivial plc_81 zero_81 rfl) ?_)
                    refine WL.val rfl rfl rfl rfl (r_move rfl (ev_t rfl)) ?_
                    refine WL.cons (SO.storeAll (us := [_, _, _]) rfl (ev_t rfl) (ev_t rfl) size_81 hb rfl rfl rfl rfl rfl ?_)
                    intro w4 hu4 hb hz4
                    have hs4 := hu4.size
                    replace hU := hU.transA hu4
                    refine WL.val rfl rfl rfl rfl (r_assign rfl ev_c) ?_
                    refine WL.val rfl rfl rfl rfl (r_assign rfl (ev_t rfl)) ?_
                    refine WL.val rfl rfl rfl rfl (r_assign rfl ev_c) ?_
                    refine WL.nil (WX.keep [(4, _), (5, _), (6, _), (7, _)] ⟨rfl, rfl, rfl, rfl, trivial⟩ (WX.next (WC.ret (WX.blockRet (WX.blockRet (WX.thenRet (WX.thenRet (WX.blockRet (WX.thenRet (WX.retM (l := [.cell 4 81, .tmp 5, .tmp 6, .tmp 7]) (vs := [_, _, _, _]) rfl ⟨⟨_, [_, _, _], rfl, agg_81, size_81, (Blk.cellsL hb), rfl⟩, ⟨rfl, ⟨rfl, ⟨rfl, trivial⟩⟩⟩⟩ ?_))))))))))
                    refine ⟨?_, hU⟩
                    rw [he]
                    exact ⟨_, _, rfl⟩
    · try simp only [cS, ne_eq, Decidable.not_not] at hc3
      refine WC.exit (WX.thenExit (WX.thenExit (WX.blockHere (WX.next (WC.seq (WC.region (WL.val rfl rfl rfl rfl (r_build (cs := #[_, _, _]) (vs := []) rfl trivial plc_81 zero_81 rfl) ?_)))))))
      refine WL.val rfl rfl rfl rfl (r_move rfl (ev_t rfl)) ?_
      refine WL.val rfl rfl rfl rfl (r_lenStrL rfl (ev_t rfl) str_9) ?_
      refine WL.cons (SO.storeAll (us := [_, _, _]) rfl (ev_t rfl) (ev_t rfl) size_81 hb rfl rfl rfl rfl rfl ?_)
      intro w5 hu5 hb hz5
      have hs5 := hu5.size
      replace hU := hU.transA hu5
      refine WL.val rfl rfl rfl rfl (r_assign rfl ev_c) ?_
      refine WL.val rfl rfl rfl rfl (r_assign rfl (ev_t rfl)) ?_
      refine WL.val rfl rfl rfl rfl (r_assign rfl ev_c) ?_
      refine WL.nil (WX.keep [(4, _), (5, _), (6, _), (7, _)] ⟨rfl, rfl, rfl, rfl, trivial⟩ (WX.next (WC.ret (WX.retM (l := [.cell 4 81, .tmp 5, .tmp 6, .tmp 7]) (vs := [_, _, _, _]) rfl ⟨⟨_, [_, _, _], rfl, agg_81, size_81, (Blk.cellsL hb), rfl⟩, ⟨rfl, ⟨rfl, ⟨rfl, trivial⟩⟩⟩⟩ ?_))))
      refine ⟨?_, hU⟩
      obtain rfl : k = s.length := by omega
      rw [he, List.drop_length, textF_nil]
      exact ⟨_, _, rfl⟩
end Go.Proofs.YtomkdhkkggbioaaGreatDoor

/-
 The reference's lexer: one token.
-/
namespace Go.Proofs.YtomkdhkkggbioaaGreatDoor
open Go
set_option linter.unusedSimpArgs false
set_option linter.unusedVariables false

/-- what the reference tells of a token at a place -/
def oneX (r : Except Nat (Tok × List UInt8)) (s : List UInt8) (i : Nat) (v : Value) : Prop := match r with
 | .ok (t, q) => ∃ k : Nat, i < k ∧ k ≤ s.length ∧ q = s.drop k ∧ v = .tuple #[.agg #[.int .u8 (t.k : Int), Sv t.s, .int .i64 0], .int .i64 (k : Int), .int .i64 0, .int .i64 0]
 | .error e => ∃ (k b : Int), v = .tuple #[.agg #[.int .u8 0, .string ⟨#[]⟩, .int .i64 0], .int .i64 k, .int .i64 b, .int .i64 (e : Int)]
theorem while_of {p : UInt8 → Bool} : ∀ (r : List UInt8) (j : Nat), (r.take j).all p = true → (j ≥ r.length ∨ ∃ c, r[j]? = some c ∧ p c = false) → r.takeWhile p = r.take j ∧ r.dropWhile p = r.drop j
 | [], j, _, _ => by simp
 | a :: r, 0, _, h => by
  rcases h with h | ⟨c, h, hp⟩
  ·simp at h
  ·simp only [List.getElem?_cons_zero, Option.some.injEq] at h
   subst h
   simp [hp]
 | a :: r, j + 1, hall, h => by
  simp only [List.take_succ_cons, List.all_cons, Bool.and_eq_true] at hall
  have ih := while_of r j hall.2 (by
    rcases h with h | ⟨c, h, hp⟩
    · left; simpa using h
    · exact .inr ⟨c, by simpa using h, hp⟩)
  simp [hall.1, ih.1, ih.2]
theorem find_of {p : List UInt8 → Bool} : ∀ (l : List (List UInt8)) (n : Nat) (x : List UInt8), (∀ y ∈ l.take n, p y = false) → l[n]? = some x → p x = true → l.find? p = some x
 | [], n, x, _, h, _ => by simp at h
 | a :: l, 0, x, _, h, hp => by
  simp only [List.getElem?_cons_zero, Option.some.injEq] at h
  subst h
  simp [hp]
 | a :: l, n + 1, x, hall, h, hp => by
  have h1 := hall a (by simp)
  rw [List.find?_cons, h1]
  exact find_of l n x (fun y hy => hall y (by simp [hy])) (by simpa using h) hp
theorem find_none {p : List UInt8 → Bool} {l : List (List UInt8)} (h : ∀ y ∈ l, p y = false) : l.find? p = none := by
 rw [List.find?_eq_none]
 exact fun x hx => by simp [h x hx]
section
variable {P : Program} {ρ : Operand → Value} {o : Oper} {w : World} {x y : Operand} {t u : TypeId} {s s' : List UInt8}
theorem r_sliceStrE {l h : Nat} {lo hi : Option Operand} {v : List UInt8} (ho : o.op = .slice t x lo hi none) (hx : ρ x = .string ⟨s.toArray⟩) (hu : P.underlying t = some .string)
  (hlo : bnd ρ lo 0 l) (hhi : bnd ρ hi s.length h) (h1 : l ≤ h) (h2 : h ≤ s.length) (hv : (s.drop l).take (h - l) = v) : (execOp ρ o).run P w = .ok (.value (Sv v)) w := by
 rw [r_sliceStr ho hx hu hlo hhi h1 h2, hv]
 rfl
end
theorem head_no {R : List UInt8} (h : R.takeWhile inB = []) : R.head?.any smB = false := by
 cases R with
 | nil => rfl
 | cons x r =>
  rw [List.takeWhile_cons] at h
  split at h
  ·cases h
  ·rename_i hx
   simp only [List.head?_cons, Option.any_some]
   simp only [inB, Bool.or_eq_true, not_or] at hx
   simpa using hx.1.1.1.1
set_option maxHeartbeats 8000000 in
theorem lone_ok {w : World} {s : List UInt8} {i : Nat} (hi : i < s.length) (hs : s.length ≤ 1000000) : Ret Tryz.prog 56 #[Sv s, .int .i64 (i : Int)] w fun v w' => oneX (oneF (s.drop i)) s i v ∧ Upd No w w' := by
 have hdr0 := List.drop_eq_getElem_cons hi
 have hg0 : s[i]? = some (s[i]'hi) := List.getElem?_eq_getElem hi
 generalize s[i]'hi = c at hdr0 hg0
 have hc := c.toNat_lt
 have hR : (s.drop (i + 1)).length = s.length - (i + 1) := List.length_drop
 have hgR : ∀ j : Nat, s[i + 1 + j]? = (s.drop (i + 1))[j]? := fun j => by rw [List.getElem?_drop]
 have hdR : ∀ j : Nat, s.drop (i + 1 + j) = (s.drop (i + 1)).drop j := fun j => by rw [List.drop_drop]
 rw [hdr0, oneF]
 generalize s.drop (i + 1) = R at hdr0 hR hgR hdR ⊢
 have hsl : ∀ j : Nat, (s.drop i).take (i + 1 + j - i) = c :: R.take j := fun j => by rw [hdr0, show i + 1 + j - i = j + 1 by omega, List.take_succ_cons]
 refine enterRet (vs := [_, _]) (N := 185) Tryz.func56 rfl rfl rfl ?_
 have hU := Upd.refl No w
 refine WC.keep [(0, _), (1, _)] ⟨rfl, rfl, trivial⟩ (WC.seq (WC.region (WL.cons (SO.alloc rfl rfl rfl rfl (r_alloc rfl zero_81) ?_))))
 intro w1 hu1 hB1 hz1
 have hs1 := hu1.size
 replace hU := hU.transA hu1
 refine WL.val rfl rfl rfl rfl (r_assign rfl ev_c) ?_
 refine WL.val rfl rfl rfl rfl (r_assign rfl ev_c) ?_
 refine WL.val rfl rfl rfl rfl (r_assign rfl ev_c) ?_
 refine WL.nil (WX.keep [(0, _), (1, _), (4, _)] ⟨rfl, rfl, rfl, trivial⟩ ?_)
 have hb := hB1
 refine WX.next (WC.seq (WC.region (WL.val rfl rfl rfl rfl (r_build (cs := #[_, _, _]) (vs := []) rfl trivial plc_81 zero_81 rfl) ?_)))
 refine WL.cons (SO.alloc rfl rfl rfl rfl (r_alloc rfl zero_81) ?_)
 intro w2 hu2 hB2 hz2
 have hs2 := hu2.size
 replace hU := hU.transA hu2
 replace hb := hb.upd hu2 (by exact (fun h => h))
 refine WL.cons (SO.storeAll (us := [_, _, _]) rfl (ev_t rfl) (ev_t rfl) size_81 hB2 rfl rfl rfl rfl rfl ?_)
 intro w3 hu3 hB2 hz3
 have hs3 := hu3.size
 replace hU := hU.transA hu3
 replace hb := hb.upd hu3 (by (simp only [At, No]; omega))
 refine WL.nil (WX.keep [(0, _), (1, _), (4, _), (8, _)] ⟨rfl, rfl, rfl, rfl, trivial⟩ ?_)
 have hz := hB2
 refine WX.next (WC.seq (WC.region (WL.val rfl rfl rfl rfl (r_move rfl (ev_t rfl)) ?_)))
 refine WL.val rfl rfl rfl rfl (r_move rfl (ev_t rfl)) ?_
 refine WL.val rfl rfl rfl rfl (r_indexStr (j := i) (c := c) rfl (ev_t rfl) (ev_t rfl) Tryz.underlying9 rfl (by rw [mk_toList]; exact hg0)) ?_
 refine WL.val rfl rfl rfl rfl (r_assign rfl (ev_t rfl)) ?_
 refine WL.nil (WX.keep [(0, _), (1, _), (4, _), (8, _), (9, _)] ⟨rfl, rfl, rfl, rfl, rfl, trivial⟩ (WX.next (WC.seq (WC.region (WL.val rfl rfl rfl rfl (r_move rfl (ev_t rfl)) ?_)))))
 refine WL.val rfl rfl rfl rfl (r_addN rfl (ev_t rfl) ev_c (by simp only [inK]; omega)) ?_
 refine WL.val rfl rfl rfl rfl (r_assign rfl (ev_t rfl)) ?_
 refine WL.nil (WX.keep [(0, _), (1, _), (4, _), (8, _), (9, _), (10, _)] ⟨rfl, rfl, rfl, rfl, rfl, rfl, trivial⟩ (WX.next (WC.seq (WC.block ?_))))
 -- cut r4: live [0, 1, 4, 8, 9, 10, 22]
 refine WC.cut (fun E wC => ∃ b : Bool, b = (smB c || grB c || decide (c.toNat = 39)) ∧ Upd No w wC ∧ (∃ x y z, Blk wC w.heap.size #[x, y, z] 81) ∧ Blk wC w1.heap.size #[.int .u8 0, .string ⟨#[]⟩, .int .i64 0] 81 ∧ E = [(0, Sv s), (1, .int .i64 (i : Int)), (4, .pointer (some ⟨w.heap.size, 0, none⟩)), (8, .pointer (some ⟨w1.heap.size, 0, none⟩)), (9, .int .u8 (c.toNat : Int)), (10, .int .i64 ((i + 1 : Nat) : Int)), (22, .bool b)]) ?_ ?_
 ·refine WC.region (WL.val rfl rfl rfl rfl (r_move rfl (ev_t rfl)) ?_)
  refine WL.cons (SO.call (lsmall_ok (c := c)) rfl body_75 ⟨(ev_t rfl), trivial⟩ rfl rfl rfl rfl ?_)
  rintro v9 w4 ⟨rfl, hu4⟩
  have hs4 := hu4.size
  replace hU := hU.transA hu4
  replace hb := hb.upd hu4 (by exact (fun h => h))
  replace hz := hz.upd hu4 (by exact (fun h => h))
  refine WL.val rfl rfl rfl rfl (r_move rfl (ev_t rfl)) ?_
  refine WL.cases 25 rfl (fun hb4_2 => ?_) (fun hb4_2 => ?_)
  ·refine WL.skip rfl rfl rfl (WL.skip rfl rfl rfl (WL.val rfl rfl rfl rfl (r_pickT rfl (ev_t rfl) ev_c) ?_))
   refine WL.val rfl rfl rfl rfl (r_move rfl (ev_t rfl)) ?_
   refine WL.skip rfl rfl rfl (WL.skip rfl rfl rfl (WL.val rfl rfl rfl rfl (r_pickT rfl (ev_t rfl) ev_c) ?_))
   refine WL.val rfl rfl rfl rfl (r_assign rfl (ev_t rfl)) ?_
   refine WL.nil (WX.keep [(0, _), (1, _), (4, _), (8, _), (9, _), (10, _), (22, _)] ⟨rfl, rfl, rfl, rfl, rfl, rfl, rfl, trivial⟩ (WX.meet [(0, _), (1, _), (4, _), (8, _), (9, _), (10, _), (22, _)] ⟨rfl, rfl, rfl, rfl, rfl, rfl, rfl, trivial⟩ ?_))
   refine ⟨_, ?_, hU, ⟨_, _, _, hb⟩, hz, rfl⟩
   first
    | (simp_all; done)
    | (have e39 : decide (c.toNat = 39) = decide ((c.toNat : Int) = 39) := by rw [Bool.eq_iff_iff]; simp; omega
       simp_all; done)
  ·refine WL.val rfl rfl rfl rfl (r_move rfl (ev_t rfl)) ?_
   refine WL.cons (SO.call (lgreat_ok (c := c)) rfl body_76 ⟨(ev_t rfl), trivial⟩ rfl rfl rfl rfl ?_)
   rintro v9 w5 ⟨rfl, hu5⟩
   have hs5 := hu5.size
   replace hU := hU.transA hu5
   replace hb := hb.upd hu5 (by exact (fun h => h))
   replace hz := hz.upd hu5 (by exact (fun h => h))
   refine WL.val rfl rfl rfl rfl (r_pickF rfl (ev_t rfl) (ev_t rfl)) ?_
   refine WL.val rfl rfl rfl rfl (r_move rfl (ev_t rfl)) ?_
   refine WL.cases 29 rfl (fun hb4_6 => ?_) (fun hb4_6 => ?_)
   ·refine WL.skip rfl rfl rfl (WL.skip rfl rfl rfl (WL.val rfl rfl rfl rfl (r_pickT rfl (ev_t rfl) ev_c) ?_))
    refine WL.val rfl rfl rfl rfl (r_assign rfl (ev_t rfl)) ?_
    refine WL.nil (WX.keep [(0, _), (1, _), (4, _), (8, _), (9, _), (10, _), (22, _)] ⟨rfl, rfl, rfl, rfl, rfl, rfl, rfl, trivial⟩ (WX.meet [(0, _), (1, _), (4, _), (8, _), (9, _), (10, _), (22, _)] ⟨rfl, rfl, rfl, rfl, rfl, rfl, rfl, trivial⟩ ?_))
    refine ⟨_, ?_, hU, ⟨_, _, _, hb⟩, hz, rfl⟩
    first
     | (simp_all; done)
     | (have e39 : decide (c.toNat = 39) = decide ((c.toNat : Int) = 39) := by rw [Bool.eq_iff_iff]; simp; omega
        simp_all; done)
   ·refine WL.val rfl rfl rfl rfl (r_move rfl (ev_t rfl)) ?_
    refine WL.val rfl rfl rfl rfl (r_eql rfl (ev_t rfl) ev_c) ?_
    refine WL.val rfl rfl rfl rfl (r_pickF rfl (ev_t rfl) (ev_t rfl)) ?_
    refine WL.val rfl rfl rfl rfl (r_assign rfl (ev_t rfl)) ?_
    refine WL.nil (WX.keep [(0, _), (1, _), (4, _), (8, _), (9, _), (10, _), (22, _)] ⟨rfl, rfl, rfl, rfl, rfl, rfl, rfl, trivial⟩ (WX.meet [(0, _), (1, _), (4, _), (8, _), (9, _), (10, _), (22, _)] ⟨rfl, rfl, rfl, rfl, rfl, rfl, rfl, trivial⟩ ?_))
    refine ⟨_, ?_, hU, ⟨_, _, _, hb⟩, hz, rfl⟩
    first
     | (simp_all; done)
     | (have e39 : decide (c.toNat = 39) = decide ((c.toNat : Int) = 39) := by rw [Bool.eq_iff_iff]; simp; omega
        simp_all; done)
 ·clear hU hb hz
  rintro E wA ⟨bid, hid, hU, ⟨bx, by_, bz, hb⟩, hz, rfl⟩
  refine WC.cond rfl (ev_t rfl) (fun hc4 => ?_) (fun hc4 => ?_)
  ·subst hc4
   rw [if_pos hid.symm]
   -- cut 5: live [0, 1, 4, 8, 9, 10]
   refine WC.cut (fun E wC => ∃ j : Nat, j ≤ R.length ∧ Upd No w wC ∧ (∃ x y z, Blk wC w.heap.size #[x, y, z] 81) ∧ Blk wC w1.heap.size #[.int .u8 0, .string ⟨#[]⟩, .int .i64 0] 81 ∧ (R.takeWhile inB = R.take j ∧ R.dropWhile inB = R.drop j) ∧ E = [(0, Sv s), (1, .int .i64 (i : Int)), (4, .pointer (some ⟨w.heap.size, 0, none⟩)), (8, .pointer (some ⟨w1.heap.size, 0, none⟩)), (9, .int .u8 (c.toNat : Int)), (10, .int .i64 ((i + 1 + j : Nat) : Int))]) ?_ ?_
   ·refine WC.block ?_
    -- loop 1: live [0, 1, 4, 8, 9, 10]
    refine WC.keep [(0, _), (1, _), (4, _), (8, _), (9, _), (10, _)] ⟨rfl, rfl, rfl, rfl, rfl, rfl, trivial⟩ (WC.loop (fun qq E wC => ∃ j : Nat, j ≤ R.length ∧ qq = R.length - j ∧ Upd No w wC ∧ (∃ x y z, Blk wC w.heap.size #[x, y, z] 81) ∧ Blk wC w1.heap.size #[.int .u8 0, .string ⟨#[]⟩, .int .i64 0] 81 ∧ (R.take j).all inB = true ∧ E = [(0, Sv s), (1, .int .i64 (i : Int)), (4, .pointer (some ⟨w.heap.size, 0, none⟩)), (8, .pointer (some ⟨w1.heap.size, 0, none⟩)), (9, .int .u8 (c.toNat : Int)), (10, .int .i64 ((i + 1 + j : Nat) : Int))]) (R.length) ?_ ?_)
    ·exact ⟨0, by omega, by omega, hU, ⟨_, _, _, hb⟩, hz, rfl, rfl⟩
    ·clear hU hb hz
     rintro qq E wC ⟨j, hj, rfl, hU, ⟨bx, by_, bz, hb⟩, hz, hall, rfl⟩
     refine WC.seq (WC.seq (WC.region (WL.val rfl rfl rfl rfl (r_move rfl (ev_t rfl)) ?_)))
     refine WL.val rfl rfl rfl rfl (r_move rfl (ev_t rfl)) ?_
     refine WL.val rfl rfl rfl rfl (r_lenStrL rfl (ev_t rfl) str_9) ?_
     refine WL.val rfl rfl rfl rfl (r_lss rfl (ev_t rfl) (ev_t rfl)) ?_
     refine WL.val rfl rfl rfl rfl (r_move rfl (ev_t rfl)) ?_
     refine WL.cases 37 rfl (fun hb5_4 => ?_) (fun hb5_4 => ?_)
     ·try simp only [cS, ne_eq, Decidable.not_not] at hb5_4
      have hjl : j < R.length := by omega
      have hgj : R[j]? = some (R[j]'hjl) := List.getElem?_eq_getElem hjl
      generalize R[j]'hjl = x at hgj
      refine WL.val rfl rfl rfl rfl (r_move rfl (ev_t rfl)) ?_
      refine WL.val rfl rfl rfl rfl (r_move rfl (ev_t rfl)) ?_
      refine WL.val rfl rfl rfl rfl (r_indexStr (j := i + 1 + j) (c := x) rfl (ev_t rfl) (ev_t rfl) Tryz.underlying9 (by omega) (by rw [mk_toList, hgR]; exact hgj)) ?_
      refine WL.cons (SO.call (lin_ok (c := x)) rfl body_77 ⟨(ev_t rfl), trivial⟩ rfl rfl rfl rfl ?_)
      rintro v9 w6 ⟨rfl, hu6⟩
      have hs6 := hu6.size
      replace hU := hU.transA hu6
      replace hb := hb.upd hu6 (by exact (fun h => h))
      replace hz := hz.upd hu6 (by exact (fun h => h))
      refine WL.val rfl rfl rfl rfl (r_pickT rfl (ev_t rfl) (ev_t rfl)) ?_
      refine WL.nil (WX.keep [(0, _), (1, _), (4, _), (8, _), (9, _), (10, _), (42, _)] ⟨rfl, rfl, rfl, rfl, rfl, rfl, rfl, trivial⟩ (WX.next (WC.cond rfl (ev_t rfl) (fun hc5 => ?_) (fun hc5 => ?_))))
      ·refine WC.skip (WX.next (WC.block (WC.region (WL.val rfl rfl rfl rfl (r_move rfl (ev_t rfl)) ?_))))
       refine WL.val rfl rfl rfl rfl (r_addN rfl (ev_t rfl) ev_c (by simp only [inK]; omega)) ?_
       refine WL.val rfl rfl rfl rfl (r_assign rfl (ev_t rfl)) ?_
       refine WL.nil (WX.keep [(0, _), (1, _), (4, _), (8, _), (9, _), (10, _)] ⟨rfl, rfl, rfl, rfl, rfl, rfl, trivial⟩ (WX.blockNormal (WX.meet [(0, _), (1, _), (4, _), (8, _), (9, _), (10, _)] ⟨rfl, rfl, rfl, rfl, rfl, rfl, trivial⟩ ?_)))
       exact ⟨R.length - (j + 1), by omega, j + 1, by omega, rfl, hU, ⟨_, _, _, hb⟩, hz, by rw [List.take_add_one, hgj, List.all_append, hall]; simpa using hc5, by simp only [Int.natCast_add, Int.add_assoc]; rfl⟩
      ·refine WC.exit (WX.thenExit (WX.thenExit (WX.blockHere (WX.meet [(0, _), (1, _), (4, _), (8, _), (9, _), (10, _)] ⟨rfl, rfl, rfl, rfl, rfl, rfl, trivial⟩ ?_))))
       refine ⟨j, hj, hU, ⟨_, _, _, hb⟩, hz, while_of R j hall ?_, rfl⟩
       first
        | exact .inr ⟨_, hgj, by simpa using hc5⟩
        | (left; omega)
     ·try simp only [cS, ne_eq, Decidable.not_not] at hb5_4
      refine WL.skip rfl rfl rfl (WL.skip rfl rfl rfl (WL.skip rfl rfl rfl (WL.skip rfl rfl rfl (WL.val rfl rfl rfl rfl (r_pickF rfl (ev_t rfl) ev_c) ?_))))
      refine WL.nil (WX.keep [(0, _), (1, _), (4, _), (8, _), (9, _), (10, _), (42, _)] ⟨rfl, rfl, rfl, rfl, rfl, rfl, rfl, trivial⟩ (WX.next (WC.cond_false rfl (ev_t rfl) ?_)))
      refine WC.exit (WX.thenExit (WX.thenExit (WX.blockHere (WX.meet [(0, _), (1, _), (4, _), (8, _), (9, _), (10, _)] ⟨rfl, rfl, rfl, rfl, rfl, rfl, trivial⟩ ?_))))
      refine ⟨j, hj, hU, ⟨_, _, _, hb⟩, hz, while_of R j hall ?_, rfl⟩
      first
       | exact .inr ⟨_, hgj, by simpa using hc5⟩
       | (left; omega)
   ·clear hU hb hz
    rintro E wD ⟨j, hj, hU, ⟨bx, by_, bz, hb⟩, hz, ⟨htw, hdw⟩, rfl⟩
    rw [htw, hdw]
    refine WC.seq (WC.region (WL.val rfl rfl rfl rfl (r_move rfl (ev_t rfl)) ?_))
    refine WL.val rfl rfl rfl rfl (r_move rfl (ev_t rfl)) ?_
    refine WL.val rfl rfl rfl rfl (r_move rfl (ev_t rfl)) ?_
    refine WL.val rfl rfl rfl rfl (r_sliceStrE (l := i) (h := i + 1 + j) rfl (ev_t rfl) Tryz.underlying9 (bnd_some (ev_t rfl) (by omega)) (bnd_some (ev_t rfl) (by omega)) (by omega) (by omega) (hsl j)) ?_
    refine WL.val rfl rfl rfl rfl (r_assign rfl (ev_t rfl)) ?_
    refine WL.nil (WX.keep [(0, _), (1, _), (4, _), (8, _), (9, _), (10, _), (11, _)] ⟨rfl, rfl, rfl, rfl, rfl, rfl, rfl, trivial⟩ (WX.next (WC.seq (WC.block (WC.seq (WC.region (WL.val rfl rfl rfl rfl (r_move rfl (ev_t rfl)) ?_)))))))
    refine WL.val rfl rfl rfl rfl (r_lenStrL rfl (ev_t rfl) str_9) ?_
    refine WL.val rfl rfl rfl rfl (r_gtr rfl (ev_t rfl) ev_c) ?_
    refine WL.val rfl rfl rfl rfl (r_assign rfl (ev_t rfl)) ?_
    refine WL.nil (WX.keep [(0, _), (1, _), (4, _), (8, _), (9, _), (10, _), (11, _), (49, _)] ⟨rfl, rfl, rfl, rfl, rfl, rfl, rfl, rfl, trivial⟩ (WX.next (WC.cond rfl (ev_t rfl) (fun hc8 => ?_) (fun hc8 => ?_))))
    ·try simp only [cS, ne_eq, Decidable.not_not] at hc8
     refine WC.seq ?_
     rw [if_pos (by first | exact_mod_cast hc8 | omega)]
     refine WC.region (WL.val rfl rfl rfl rfl (r_loadAgg (vs := [_, _, _]) rfl (ev_t rfl) agg_81 size_81 (Blk.cellsL hz)) ?_)
     refine WL.val rfl rfl rfl rfl (r_move rfl (ev_t rfl)) ?_
     refine WL.cons (SO.storeAll (us := [_, _, _]) rfl (ev_t rfl) (ev_t rfl) size_81 hb rfl rfl rfl rfl rfl ?_)
     intro w7 hu7 hb hz7
     have hs7 := hu7.size
     replace hU := hU.transA hu7
     replace hz := hz.upd hu7 (by (simp only [At, No]; omega))
     refine WL.val rfl rfl rfl rfl (r_assign rfl ev_c) ?_
     refine WL.val rfl rfl rfl rfl (r_assign rfl (ev_t rfl)) ?_
     refine WL.val rfl rfl rfl rfl (r_assign rfl ev_c) ?_
     refine WL.nil (WX.keep [(4, _), (5, _), (6, _), (7, _)] ⟨rfl, rfl, rfl, rfl, trivial⟩ (WX.next (WC.ret (WX.blockRet (WX.thenRet (WX.blockRet (WX.thenRet (WX.retM (l := [.cell 4 81, .tmp 5, .tmp 6, .tmp 7]) (vs := [_, _, _, _]) rfl ⟨⟨_, [_, _, _], rfl, agg_81, size_81, (Blk.cellsL hb), rfl⟩, ⟨rfl, ⟨rfl, ⟨rfl, trivial⟩⟩⟩⟩ ?_))))))))
     refine ⟨?_, hU⟩
     exact ⟨_, _, rfl⟩
    ·try simp only [cS, ne_eq, Decidable.not_not] at hc8
     refine WC.seq ?_
     rw [if_neg (by first | exact_mod_cast hc8 | omega)]
     refine WC.region (WL.val rfl rfl rfl rfl (r_move rfl (ev_t rfl)) ?_)
     refine WL.cons (SO.call (lword_ok (s := c :: R.take j)) rfl body_78 ⟨(ev_t rfl), trivial⟩ rfl rfl rfl rfl ?_)
     rintro v9 w8 ⟨rfl, hu8⟩
     have hs8 := hu8.size
     replace hU := hU.transA hu8
     replace hb := hb.upd hu8 (by exact (fun h => h))
     replace hz := hz.upd hu8 (by exact (fun h => h))
     refine WL.val rfl rfl rfl rfl (r_assign rfl (ev_t rfl)) ?_
     refine WL.nil (WX.keep [(0, _), (1, _), (4, _), (8, _), (9, _), (10, _), (11, _), (55, _)] ⟨rfl, rfl, rfl, rfl, rfl, rfl, rfl, rfl, trivial⟩ (WX.next (WC.cond rfl (ev_t rfl) (fun hc10 => ?_) (fun hc10 => ?_))))
     ·refine WC.seq ?_
      have h9 : wordF (c :: R.take j) = true := by simpa using hc10
      rw [if_pos h9]
      refine WC.region (WL.val rfl rfl rfl rfl (r_move rfl (ev_t rfl)) ?_)
      refine WL.val rfl rfl rfl rfl (r_build (cs := #[_, _, _]) (vs := [(0, _), (1, _)]) rfl ⟨⟨rfl, ev_c⟩, ⟨rfl, (ev_t rfl)⟩, trivial⟩ plc_81 zero_81 rfl) ?_
      refine WL.val rfl rfl rfl rfl (r_move rfl (ev_t rfl)) ?_
      refine WL.cons (SO.storeAll (us := [_, _, _]) rfl (ev_t rfl) (ev_t rfl) size_81 hb rfl rfl rfl rfl rfl ?_)
      intro w9 hu9 hb hz9
      have hs9 := hu9.size
      replace hU := hU.transA hu9
      replace hz := hz.upd hu9 (by (simp only [At, No]; omega))
      refine WL.val rfl rfl rfl rfl (r_assign rfl (ev_t rfl)) ?_
      refine WL.val rfl rfl rfl rfl (r_assign rfl ev_c) ?_
      refine WL.val rfl rfl rfl rfl (r_assign rfl ev_c) ?_
      refine WL.nil (WX.keep [(4, _), (5, _), (6, _), (7, _)] ⟨rfl, rfl, rfl, rfl, trivial⟩ (WX.next (WC.ret (WX.blockRet (WX.thenRet (WX.blockRet (WX.thenRet (WX.retM (l := [.cell 4 81, .tmp 5, .tmp 6, .tmp 7]) (vs := [_, _, _, _]) rfl ⟨⟨_, [_, _, _], rfl, agg_81, size_81, (Blk.cellsL hb), rfl⟩, ⟨rfl, ⟨rfl, ⟨rfl, trivial⟩⟩⟩⟩ ?_))))))))
      refine ⟨?_, hU⟩
      exact ⟨i + 1 + j, by omega, by omega, (hdR j).symm, rfl⟩
     ·have h9 : ¬ wordF (c :: R.take j) = true := by simpa using hc10
      rw [if_neg h9]
      refine WC.seq (WC.region (WL.val rfl rfl rfl rfl (r_move rfl (ev_t rfl)) ?_))
      refine WL.val rfl rfl rfl rfl (r_eql rfl (ev_t rfl) ev_c) ?_
      refine WL.val rfl rfl rfl rfl (r_move rfl (ev_t rfl)) ?_
      refine WL.cases 64 rfl (fun hb12_2 => ?_) (fun hb12_2 => ?_)
      ·try simp only [cS, ne_eq, Decidable.not_not] at hb12_2
       refine WL.val rfl rfl rfl rfl (r_move rfl (ev_t rfl)) ?_
       refine WL.val rfl rfl rfl rfl (r_move rfl (ev_t rfl)) ?_
       refine WL.val rfl rfl rfl rfl (r_addN rfl (ev_t rfl) ev_c (by simp only [inK]; omega)) ?_
       refine WL.val rfl rfl rfl rfl (r_eql rfl (ev_t rfl) (ev_t rfl)) ?_
       refine WL.val rfl rfl rfl rfl (r_pickT rfl (ev_t rfl) (ev_t rfl)) ?_
       refine WL.val rfl rfl rfl rfl (r_assign rfl (ev_t rfl)) ?_
       refine WL.nil (WX.keep [(0, _), (1, _), (4, _), (8, _), (9, _), (10, _), (11, _), (61, _)] ⟨rfl, rfl, rfl, rfl, rfl, rfl, rfl, rfl, trivial⟩ (WX.next (WC.cond rfl (ev_t rfl) (fun hc12 => ?_) (fun hc12 => ?_))))
       ·try simp only [cS, ne_eq, Decidable.not_not] at hc12
        refine WC.seq (WC.region (WL.val rfl rfl rfl rfl (r_loadAgg (vs := [_, _, _]) rfl (ev_t rfl) agg_81 size_81 (Blk.cellsL hz)) ?_))
        refine WL.val rfl rfl rfl rfl (r_move rfl (ev_t rfl)) ?_
        refine WL.val rfl rfl rfl rfl (r_addN rfl (ev_t rfl) ev_c (by simp only [inK]; omega)) ?_
        refine WL.cons (SO.storeAll (us := [_, _, _]) rfl (ev_t rfl) (ev_t rfl) size_81 hb rfl rfl rfl rfl rfl ?_)
        intro w10 hu10 hb hz10
        have hs10 := hu10.size
        replace hU := hU.transA hu10
        replace hz := hz.upd hu10 (by (simp only [At, No]; omega))
        refine WL.val rfl rfl rfl rfl (r_assign rfl ev_c) ?_
        refine WL.val rfl rfl rfl rfl (r_assign rfl (ev_t rfl)) ?_
        refine WL.val rfl rfl rfl rfl (r_assign rfl ev_c) ?_
        refine WL.nil (WX.keep [(4, _), (5, _), (6, _), (7, _)] ⟨rfl, rfl, rfl, rfl, trivial⟩ (WX.next (WC.ret (WX.blockRet (WX.thenRet (WX.blockRet (WX.thenRet (WX.retM (l := [.cell 4 81, .tmp 5, .tmp 6, .tmp 7]) (vs := [_, _, _, _]) rfl ⟨⟨_, [_, _, _], rfl, agg_81, size_81, (Blk.cellsL hb), rfl⟩, ⟨rfl, ⟨rfl, ⟨rfl, trivial⟩⟩⟩⟩ ?_))))))))
        refine ⟨?_, hU⟩
        obtain rfl : j = 0 := by omega
        rw [if_pos (by omega), if_neg (by rw [head_no (by rw [htw]; rfl)]; simp)]
        exact ⟨_, _, rfl⟩
       ·try simp only [cS, ne_eq, Decidable.not_not] at hc12
        refine WC.seq (WC.region (WL.val rfl rfl rfl rfl (r_move rfl (ev_t rfl)) ?_))
        refine WL.val rfl rfl rfl rfl (r_eql rfl (ev_t rfl) ev_c) ?_
        refine WL.val rfl rfl rfl rfl (r_move rfl (ev_t rfl)) ?_
        refine WL.cases 76 rfl (fun hb14_2 => ?_) (fun hb14_2 => ?_)
        ·try simp only [cS, ne_eq, Decidable.not_not] at hb14_2
         have hjl : 0 < j := by omega
         have hRl : 0 < R.length := by omega
         have hgj : R[0]? = some (R[0]'hRl) := List.getElem?_eq_getElem hRl
         generalize R[0]'hRl = x at hgj
         refine WL.val rfl rfl rfl rfl (r_move rfl (ev_t rfl)) ?_
         refine WL.val rfl rfl rfl rfl (r_move rfl (ev_t rfl)) ?_
         refine WL.val rfl rfl rfl rfl (r_addN rfl (ev_t rfl) ev_c (by simp only [inK]; omega)) ?_
         refine WL.val rfl rfl rfl rfl (r_indexStr (j := i + 1) (c := x) rfl (ev_t rfl) (ev_t rfl) Tryz.underlying9 (by omega) (by rw [mk_toList]; exact (hgR 0).trans hgj)) ?_
         refine WL.cons (SO.call (lsmall_ok (c := x)) rfl body_75 ⟨(ev_t rfl), trivial⟩ rfl rfl rfl rfl ?_)
         rintro v9 w11 ⟨rfl, hu11⟩
         have hs11 := hu11.size
         replace hU := hU.transA hu11
         replace hb := hb.upd hu11 (by exact (fun h => h))
         replace hz := hz.upd hu11 (by exact (fun h => h))
         refine WL.val rfl rfl rfl rfl (r_not rfl (ev_t rfl)) ?_
         refine WL.val rfl rfl rfl rfl (r_pickT rfl (ev_t rfl) (ev_t rfl)) ?_
         refine WL.val rfl rfl rfl rfl (r_assign rfl (ev_t rfl)) ?_
         refine WL.nil (WX.keep [(1, _), (4, _), (8, _), (9, _), (10, _), (11, _), (73, _)] ⟨rfl, rfl, rfl, rfl, rfl, rfl, rfl, trivial⟩ (WX.next (WC.cond rfl (ev_t rfl) (fun hc14 => ?_) (fun hc14 => ?_))))
         ·try simp only [cS, ne_eq, Decidable.not_not] at hc14
          refine WC.seq (WC.region (WL.val rfl rfl rfl rfl (r_loadAgg (vs := [_, _, _]) rfl (ev_t rfl) agg_81 size_81 (Blk.cellsL hz)) ?_))
          refine WL.val rfl rfl rfl rfl (r_move rfl (ev_t rfl)) ?_
          refine WL.val rfl rfl rfl rfl (r_addN rfl (ev_t rfl) ev_c (by simp only [inK]; omega)) ?_
          refine WL.cons (SO.storeAll (us := [_, _, _]) rfl (ev_t rfl) (ev_t rfl) size_81 hb rfl rfl rfl rfl rfl ?_)
          intro w12 hu12 hb hz12
          have hs12 := hu12.size
          replace hU := hU.transA hu12
          replace hz := hz.upd hu12 (by (simp only [At, No]; omega))
          refine WL.val rfl rfl rfl rfl (r_assign rfl ev_c) ?_
          refine WL.val rfl rfl rfl rfl (r_assign rfl (ev_t rfl)) ?_
          refine WL.val rfl rfl rfl rfl (r_assign rfl ev_c) ?_
          refine WL.nil (WX.keep [(4, _), (5, _), (6, _), (7, _)] ⟨rfl, rfl, rfl, rfl, trivial⟩ (WX.next (WC.ret (WX.blockRet (WX.thenRet (WX.blockRet (WX.thenRet (WX.retM (l := [.cell 4 81, .tmp 5, .tmp 6, .tmp 7]) (vs := [_, _, _, _]) rfl ⟨⟨_, [_, _, _], rfl, agg_81, size_81, (Blk.cellsL hb), rfl⟩, ⟨rfl, ⟨rfl, ⟨rfl, trivial⟩⟩⟩⟩ ?_))))))))
          refine ⟨?_, hU⟩
          rw [List.head?_eq_getElem?, hgj, if_pos (by omega), if_neg (by simpa using hc14)]
          exact ⟨_, _, rfl⟩
         ·try simp only [cS, ne_eq, Decidable.not_not] at hc14
          refine WC.seq (WC.region (WL.val rfl rfl rfl rfl (r_move rfl (ev_t rfl)) ?_))
          refine WL.val rfl rfl rfl rfl (r_eql rfl (ev_t rfl) ev_c) ?_
          refine WL.val rfl rfl rfl rfl (r_assign rfl (ev_t rfl)) ?_
          refine WL.nil (WX.keep [(4, _), (9, _), (10, _), (11, _), (87, _)] ⟨rfl, rfl, rfl, rfl, rfl, trivial⟩ (WX.next (WC.cond rfl (ev_t rfl) (fun hc16 => ?_) (fun hc16 => ?_))))
          ·try simp only [cS, ne_eq, Decidable.not_not] at hc16
           refine WC.seq (WC.region (WL.val rfl rfl rfl rfl (r_move rfl (ev_t rfl)) ?_))
           refine WL.val rfl rfl rfl rfl (r_build (cs := #[_, _, _]) (vs := [(0, _), (1, _)]) rfl ⟨⟨rfl, ev_c⟩, ⟨rfl, (ev_t rfl)⟩, trivial⟩ plc_81 zero_81 rfl) ?_
           refine WL.val rfl rfl rfl rfl (r_move rfl (ev_t rfl)) ?_
           refine WL.cons (SO.storeAll (us := [_, _, _]) rfl (ev_t rfl) (ev_t rfl) size_81 hb rfl rfl rfl rfl rfl ?_)
           intro w13 hu13 hb hz13
           have hs13 := hu13.size
           replace hU := hU.transA hu13
           replace hz := hz.upd hu13 (by (simp only [At, No]; omega))
           refine WL.val rfl rfl rfl rfl (r_assign rfl (ev_t rfl)) ?_
           refine WL.val rfl rfl rfl rfl (r_assign rfl ev_c) ?_
           refine WL.val rfl rfl rfl rfl (r_assign rfl ev_c) ?_
           refine WL.nil (WX.keep [(4, _), (5, _), (6, _), (7, _)] ⟨rfl, rfl, rfl, rfl, trivial⟩ (WX.next (WC.ret (WX.blockRet (WX.thenRet (WX.blockRet (WX.thenRet (WX.retM (l := [.cell 4 81, .tmp 5, .tmp 6, .tmp 7]) (vs := [_, _, _, _]) rfl ⟨⟨_, [_, _, _], rfl, agg_81, size_81, (Blk.cellsL hb), rfl⟩, ⟨rfl, ⟨rfl, ⟨rfl, trivial⟩⟩⟩⟩ ?_))))))))
           refine ⟨?_, hU⟩
           rw [List.head?_eq_getElem?, hgj, if_pos (by omega), if_pos (by simpa using hc14)]
           exact ⟨i + 1 + j, by omega, by omega, (hdR j).symm, rfl⟩
          ·exfalso; (simp only [cS] at hc16; omega)
        ·exfalso; (simp only [cS] at hb14_2; omega)
      ·try simp only [cS, ne_eq, Decidable.not_not] at hb12_2
       refine WL.skip rfl rfl rfl (WL.skip rfl rfl rfl (WL.skip rfl rfl rfl (WL.skip rfl rfl rfl (WL.val rfl rfl rfl rfl (r_pickF rfl (ev_t rfl) ev_c) ?_))))
       refine WL.val rfl rfl rfl rfl (r_assign rfl (ev_t rfl)) ?_
       refine WL.nil (WX.keep [(0, _), (1, _), (4, _), (8, _), (9, _), (10, _), (11, _), (61, _)] ⟨rfl, rfl, rfl, rfl, rfl, rfl, rfl, rfl, trivial⟩ (WX.next (WC.cond_false rfl (ev_t rfl) ?_)))
       refine WC.seq (WC.region (WL.val rfl rfl rfl rfl (r_move rfl (ev_t rfl)) ?_))
       refine WL.val rfl rfl rfl rfl (r_eql rfl (ev_t rfl) ev_c) ?_
       refine WL.val rfl rfl rfl rfl (r_move rfl (ev_t rfl)) ?_
       refine WL.cases 76 rfl (fun hb14_2 => ?_) (fun hb14_2 => ?_)
       ·exfalso; (simp only [cS] at hb14_2; omega)
       ·try simp only [cS, ne_eq, Decidable.not_not] at hb14_2
        refine WL.skip rfl rfl rfl (WL.skip rfl rfl rfl (WL.skip rfl rfl rfl (WL.skip rfl rfl rfl (WL.skip rfl rfl rfl (WL.skip rfl rfl rfl (WL.val rfl rfl rfl rfl (r_pickF rfl (ev_t rfl) ev_c) ?_))))))
        refine WL.val rfl rfl rfl rfl (r_assign rfl (ev_t rfl)) ?_
        refine WL.nil (WX.keep [(1, _), (4, _), (8, _), (9, _), (10, _), (11, _), (73, _)] ⟨rfl, rfl, rfl, rfl, rfl, rfl, rfl, trivial⟩ (WX.next (WC.cond_false rfl (ev_t rfl) ?_)))
        refine WC.seq (WC.region (WL.val rfl rfl rfl rfl (r_move rfl (ev_t rfl)) ?_))
        refine WL.val rfl rfl rfl rfl (r_eql rfl (ev_t rfl) ev_c) ?_
        refine WL.val rfl rfl rfl rfl (r_assign rfl (ev_t rfl)) ?_
        refine WL.nil (WX.keep [(4, _), (9, _), (10, _), (11, _), (87, _)] ⟨rfl, rfl, rfl, rfl, rfl, trivial⟩ (WX.next (WC.cond rfl (ev_t rfl) (fun hc16 => ?_) (fun hc16 => ?_))))
        ·exfalso; (simp only [cS] at hc16; omega)
        ·try simp only [cS, ne_eq, Decidable.not_not] at hc16
         refine WC.seq (WC.region (WL.val rfl rfl rfl rfl (r_move rfl (ev_t rfl)) ?_))
         refine WL.cons (SO.call (lgreat_ok (c := c)) rfl body_76 ⟨(ev_t rfl), trivial⟩ rfl rfl rfl rfl ?_)
         rintro v9 w28 ⟨rfl, hu28⟩
         have hs28 := hu28.size
         replace hU := hU.transA hu28
         replace hb := hb.upd hu28 (by exact (fun h => h))
         replace hz := hz.upd hu28 (by exact (fun h => h))
         refine WL.val rfl rfl rfl rfl (r_assign rfl (ev_t rfl)) ?_
         refine WL.nil (WX.keep [(4, _), (10, _), (11, _), (93, _)] ⟨rfl, rfl, rfl, rfl, trivial⟩ (WX.next (WC.cond rfl (ev_t rfl) (fun hc18 => ?_) (fun hc18 => ?_))))
         ·refine WC.seq (WC.region (WL.val rfl rfl rfl rfl (r_move rfl (ev_t rfl)) ?_))
          refine WL.val rfl rfl rfl rfl (r_build (cs := #[_, _, _]) (vs := [(0, _), (1, _)]) rfl ⟨⟨rfl, ev_c⟩, ⟨rfl, (ev_t rfl)⟩, trivial⟩ plc_81 zero_81 rfl) ?_
          refine WL.val rfl rfl rfl rfl (r_move rfl (ev_t rfl)) ?_
          refine WL.cons (SO.storeAll (us := [_, _, _]) rfl (ev_t rfl) (ev_t rfl) size_81 hb rfl rfl rfl rfl rfl ?_)
          intro w29 hu29 hb hz29
          have hs29 := hu29.size
          replace hU := hU.transA hu29
          replace hz := hz.upd hu29 (by (simp only [At, No]; omega))
          refine WL.val rfl rfl rfl rfl (r_assign rfl (ev_t rfl)) ?_
          refine WL.val rfl rfl rfl rfl (r_assign rfl ev_c) ?_
          refine WL.val rfl rfl rfl rfl (r_assign rfl ev_c) ?_
          refine WL.nil (WX.keep [(4, _), (5, _), (6, _), (7, _)] ⟨rfl, rfl, rfl, rfl, trivial⟩ (WX.next (WC.ret (WX.blockRet (WX.thenRet (WX.blockRet (WX.thenRet (WX.retM (l := [.cell 4 81, .tmp 5, .tmp 6, .tmp 7]) (vs := [_, _, _, _]) rfl ⟨⟨_, [_, _, _], rfl, agg_81, size_81, (Blk.cellsL hb), rfl⟩, ⟨rfl, ⟨rfl, ⟨rfl, trivial⟩⟩⟩⟩ ?_))))))))
          refine ⟨?_, hU⟩
          rw [if_neg (by omega), if_pos (by simpa using hc18)]
          exact ⟨i + 1 + j, by omega, by omega, (hdR j).symm, rfl⟩
         ·refine WC.skip (WX.blockNormal (WX.next (WC.seq (WC.region (WL.val rfl rfl rfl rfl (r_move rfl (ev_t rfl)) ?_)))))
          refine WL.val rfl rfl rfl rfl (r_build (cs := #[_, _, _]) (vs := [(0, _), (1, _)]) rfl ⟨⟨rfl, ev_c⟩, ⟨rfl, (ev_t rfl)⟩, trivial⟩ plc_81 zero_81 rfl) ?_
          refine WL.val rfl rfl rfl rfl (r_move rfl (ev_t rfl)) ?_
          refine WL.cons (SO.storeAll (us := [_, _, _]) rfl (ev_t rfl) (ev_t rfl) size_81 hb rfl rfl rfl rfl rfl ?_)
          intro w30 hu30 hb hz30
          have hs30 := hu30.size
          replace hU := hU.transA hu30
          replace hz := hz.upd hu30 (by (simp only [At, No]; omega))
          refine WL.val rfl rfl rfl rfl (r_assign rfl (ev_t rfl)) ?_
          refine WL.val rfl rfl rfl rfl (r_assign rfl ev_c) ?_
          refine WL.val rfl rfl rfl rfl (r_assign rfl ev_c) ?_
          refine WL.nil (WX.keep [(4, _), (5, _), (6, _), (7, _)] ⟨rfl, rfl, rfl, rfl, trivial⟩ (WX.next (WC.ret (WX.blockRet (WX.thenRet (WX.retM (l := [.cell 4 81, .tmp 5, .tmp 6, .tmp 7]) (vs := [_, _, _, _]) rfl ⟨⟨_, [_, _, _], rfl, agg_81, size_81, (Blk.cellsL hb), rfl⟩, ⟨rfl, ⟨rfl, ⟨rfl, trivial⟩⟩⟩⟩ ?_))))))
          refine ⟨?_, hU⟩
          rw [if_neg (by omega), if_neg (by simpa using hc18)]
          exact ⟨i + 1 + j, by omega, by omega, (hdR j).symm, rfl⟩
  ·subst hc4
   rw [if_neg (by rw [← hid]; simp)]
   refine WC.seq (WC.region (WL.val rfl rfl rfl rfl (r_move rfl (ev_t rfl)) ?_))
   refine WL.cons (SO.call (ldigit_ok (c := c)) rfl body_79 ⟨(ev_t rfl), trivial⟩ rfl rfl rfl rfl ?_)
   rintro v9 w31 ⟨rfl, hu31⟩
   have hs31 := hu31.size
   replace hU := hU.transA hu31
   replace hb := hb.upd hu31 (by exact (fun h => h))
   replace hz := hz.upd hu31 (by exact (fun h => h))
   refine WL.val rfl rfl rfl rfl (r_assign rfl (ev_t rfl)) ?_
   refine WL.nil (WX.keep [(0, _), (1, _), (4, _), (8, _), (9, _), (10, _), (102, _)] ⟨rfl, rfl, rfl, rfl, rfl, rfl, rfl, trivial⟩ (WX.next (WC.cond rfl (ev_t rfl) (fun hc21 => ?_) (fun hc21 => ?_))))
   ·have hdg : dgB c = true := by simpa using hc21
    rw [if_pos hdg]
    -- cut 22: live [0, 1, 4, 8, 10]
    refine WC.cut (fun E wC => ∃ j : Nat, j ≤ R.length ∧ Upd No w wC ∧ (∃ x y z, Blk wC w.heap.size #[x, y, z] 81) ∧ Blk wC w1.heap.size #[.int .u8 0, .string ⟨#[]⟩, .int .i64 0] 81 ∧ (R.takeWhile dgB = R.take j ∧ R.dropWhile dgB = R.drop j) ∧ (R.take j).all dgB = true ∧ E = [(0, Sv s), (1, .int .i64 (i : Int)), (4, .pointer (some ⟨w.heap.size, 0, none⟩)), (8, .pointer (some ⟨w1.heap.size, 0, none⟩)), (10, .int .i64 ((i + 1 + j : Nat) : Int))]) ?_ ?_
    ·refine WC.block ?_
     -- loop 2: live [0, 1, 4, 8, 10]
     refine WC.keep [(0, _), (1, _), (4, _), (8, _), (10, _)] ⟨rfl, rfl, rfl, rfl, rfl, trivial⟩ (WC.loop (fun qq E wC => ∃ j : Nat, j ≤ R.length ∧ qq = R.length - j ∧ Upd No w wC ∧ (∃ x y z, Blk wC w.heap.size #[x, y, z] 81) ∧ Blk wC w1.heap.size #[.int .u8 0, .string ⟨#[]⟩, .int .i64 0] 81 ∧ (R.take j).all dgB = true ∧ E = [(0, Sv s), (1, .int .i64 (i : Int)), (4, .pointer (some ⟨w.heap.size, 0, none⟩)), (8, .pointer (some ⟨w1.heap.size, 0, none⟩)), (10, .int .i64 ((i + 1 + j : Nat) : Int))]) (R.length) ?_ ?_)
     ·exact ⟨0, by omega, by omega, hU, ⟨_, _, _, hb⟩, hz, rfl, rfl⟩
     ·clear hU hb hz
      rintro qq E wC ⟨j, hj, rfl, hU, ⟨bx, by_, bz, hb⟩, hz, hall, rfl⟩
      refine WC.seq (WC.seq (WC.region (WL.val rfl rfl rfl rfl (r_move rfl (ev_t rfl)) ?_)))
      refine WL.val rfl rfl rfl rfl (r_move rfl (ev_t rfl)) ?_
      refine WL.val rfl rfl rfl rfl (r_lenStrL rfl (ev_t rfl) str_9) ?_
      refine WL.val rfl rfl rfl rfl (r_lss rfl (ev_t rfl) (ev_t rfl)) ?_
      refine WL.val rfl rfl rfl rfl (r_move rfl (ev_t rfl)) ?_
      refine WL.cases 109 rfl (fun hb22_4 => ?_) (fun hb22_4 => ?_)
      ·try simp only [cS, ne_eq, Decidable.not_not] at hb22_4
       have hjl : j < R.length := by omega
       have hgj : R[j]? = some (R[j]'hjl) := List.getElem?_eq_getElem hjl
       generalize R[j]'hjl = x at hgj
       refine WL.val rfl rfl rfl rfl (r_move rfl (ev_t rfl)) ?_
       refine WL.val rfl rfl rfl rfl (r_move rfl (ev_t rfl)) ?_
       refine WL.val rfl rfl rfl rfl (r_indexStr (j := i + 1 + j) (c := x) rfl (ev_t rfl) (ev_t rfl) Tryz.underlying9 (by omega) (by rw [mk_toList, hgR]; exact hgj)) ?_
       refine WL.cons (SO.call (ldigit_ok (c := x)) rfl body_79 ⟨(ev_t rfl), trivial⟩ rfl rfl rfl rfl ?_)
       rintro v9 w32 ⟨rfl, hu32⟩
       have hs32 := hu32.size
       replace hU := hU.transA hu32
       replace hb := hb.upd hu32 (by exact (fun h => h))
       replace hz := hz.upd hu32 (by exact (fun h => h))
       refine WL.val rfl rfl rfl rfl (r_pickT rfl (ev_t rfl) (ev_t rfl)) ?_
       refine WL.nil (WX.keep [(0, _), (1, _), (4, _), (8, _), (10, _), (114, _)] ⟨rfl, rfl, rfl, rfl, rfl, rfl, trivial⟩ (WX.next (WC.cond rfl (ev_t rfl) (fun hc22 => ?_) (fun hc22 => ?_))))
       ·refine WC.skip (WX.next (WC.block (WC.region (WL.val rfl rfl rfl rfl (r_move rfl (ev_t rfl)) ?_))))
        refine WL.val rfl rfl rfl rfl (r_addN rfl (ev_t rfl) ev_c (by simp only [inK]; omega)) ?_
        refine WL.val rfl rfl rfl rfl (r_assign rfl (ev_t rfl)) ?_
        refine WL.nil (WX.keep [(0, _), (1, _), (4, _), (8, _), (10, _)] ⟨rfl, rfl, rfl, rfl, rfl, trivial⟩ (WX.blockNormal (WX.meet [(0, _), (1, _), (4, _), (8, _), (10, _)] ⟨rfl, rfl, rfl, rfl, rfl, trivial⟩ ?_)))
        exact ⟨R.length - (j + 1), by omega, j + 1, by omega, rfl, hU, ⟨_, _, _, hb⟩, hz, by rw [List.take_add_one, hgj, List.all_append, hall]; simpa using hc22, by simp only [Int.natCast_add, Int.add_assoc]; rfl⟩
       ·refine WC.exit (WX.thenExit (WX.thenExit (WX.blockHere (WX.meet [(0, _), (1, _), (4, _), (8, _), (10, _)] ⟨rfl, rfl, rfl, rfl, rfl, trivial⟩ ?_))))
        refine ⟨j, hj, hU, ⟨_, _, _, hb⟩, hz, while_of R j hall ?_, hall, rfl⟩
        first
         | exact .inr ⟨_, hgj, by simpa using hc22⟩
         | (left; omega)
      ·try simp only [cS, ne_eq, Decidable.not_not] at hb22_4
       refine WL.skip rfl rfl rfl (WL.skip rfl rfl rfl (WL.skip rfl rfl rfl (WL.skip rfl rfl rfl (WL.val rfl rfl rfl rfl (r_pickF rfl (ev_t rfl) ev_c) ?_))))
       refine WL.nil (WX.keep [(0, _), (1, _), (4, _), (8, _), (10, _), (114, _)] ⟨rfl, rfl, rfl, rfl, rfl, rfl, trivial⟩ (WX.next (WC.cond_false rfl (ev_t rfl) ?_)))
       refine WC.exit (WX.thenExit (WX.thenExit (WX.blockHere (WX.meet [(0, _), (1, _), (4, _), (8, _), (10, _)] ⟨rfl, rfl, rfl, rfl, rfl, trivial⟩ ?_))))
       refine ⟨j, hj, hU, ⟨_, _, _, hb⟩, hz, while_of R j hall ?_, hall, rfl⟩
       first
        | exact .inr ⟨_, hgj, by simpa using hc22⟩
        | (left; omega)
    ·clear hU hb hz
     rintro E wD ⟨j, hj, hU, ⟨bx, by_, bz, hb⟩, hz, ⟨htw, hdw⟩, hall, rfl⟩
     rw [htw, hdw, List.head?_drop]
     refine WC.seq (WC.seq (WC.region (WL.val rfl rfl rfl rfl (r_move rfl (ev_t rfl)) ?_)))
     refine WL.val rfl rfl rfl rfl (r_move rfl (ev_t rfl)) ?_
     refine WL.val rfl rfl rfl rfl (r_lenStrL rfl (ev_t rfl) str_9) ?_
     refine WL.val rfl rfl rfl rfl (r_lss rfl (ev_t rfl) (ev_t rfl)) ?_
     refine WL.val rfl rfl rfl rfl (r_move rfl (ev_t rfl)) ?_
     refine WL.cases 121 rfl (fun hb24_4 => ?_) (fun hb24_4 => ?_)
     ·try simp only [cS, ne_eq, Decidable.not_not] at hb24_4
      have hjl : j < R.length := by omega
      have hgj : R[j]? = some (R[j]'hjl) := List.getElem?_eq_getElem hjl
      generalize R[j]'hjl = x at hgj
      rw [hgj]
      refine WL.val rfl rfl rfl rfl (r_move rfl (ev_t rfl)) ?_
      refine WL.val rfl rfl rfl rfl (r_move rfl (ev_t rfl)) ?_
      refine WL.val rfl rfl rfl rfl (r_indexStr (j := i + 1 + j) (c := x) rfl (ev_t rfl) (ev_t rfl) Tryz.underlying9 (by omega) (by rw [mk_toList, hgR]; exact hgj)) ?_
      refine WL.cons (SO.call (lin_ok (c := x)) rfl body_77 ⟨(ev_t rfl), trivial⟩ rfl rfl rfl rfl ?_)
      rintro v9 w33 ⟨rfl, hu33⟩
      have hs33 := hu33.size
      replace hU := hU.transA hu33
      replace hb := hb.upd hu33 (by exact (fun h => h))
      replace hz := hz.upd hu33 (by exact (fun h => h))
      refine WL.val rfl rfl rfl rfl (r_pickT rfl (ev_t rfl) (ev_t rfl)) ?_
      refine WL.nil (WX.keep [(0, _), (1, _), (4, _), (8, _), (10, _), (126, _)] ⟨rfl, rfl, rfl, rfl, rfl, rfl, trivial⟩ (WX.next (WC.cond rfl (ev_t rfl) (fun hc24 => ?_) (fun hc24 => ?_))))
      ·refine WC.seq (WC.region (WL.val rfl rfl rfl rfl (r_loadAgg (vs := [_, _, _]) rfl (ev_t rfl) agg_81 size_81 (Blk.cellsL hz)) ?_))
       refine WL.val rfl rfl rfl rfl (r_move rfl (ev_t rfl)) ?_
       refine WL.cons (SO.storeAll (us := [_, _, _]) rfl (ev_t rfl) (ev_t rfl) size_81 hb rfl rfl rfl rfl rfl ?_)
       intro w34 hu34 hb hz34
       have hs34 := hu34.size
       replace hU := hU.transA hu34
       replace hz := hz.upd hu34 (by (simp only [At, No]; omega))
       refine WL.val rfl rfl rfl rfl (r_assign rfl ev_c) ?_
       refine WL.val rfl rfl rfl rfl (r_assign rfl (ev_t rfl)) ?_
       refine WL.val rfl rfl rfl rfl (r_assign rfl ev_c) ?_
       refine WL.nil (WX.keep [(4, _), (5, _), (6, _), (7, _)] ⟨rfl, rfl, rfl, rfl, trivial⟩ (WX.next (WC.ret (WX.thenRet (WX.blockRet (WX.thenRet (WX.retM (l := [.cell 4 81, .tmp 5, .tmp 6, .tmp 7]) (vs := [_, _, _, _]) rfl ⟨⟨_, [_, _, _], rfl, agg_81, size_81, (Blk.cellsL hb), rfl⟩, ⟨rfl, ⟨rfl, ⟨rfl, trivial⟩⟩⟩⟩ ?_)))))))
       refine ⟨?_, hU⟩
       rw [if_pos (by simpa using hc24)]
       exact ⟨_, _, rfl⟩
      ·refine WC.skip (WX.next (WC.seq (WC.seq ?_)))
       rw [if_neg (by first | (simpa using hc24) | (rw [List.getElem?_eq_none (by omega)]; simp))]
       refine WC.region (WL.val rfl rfl rfl rfl (r_move rfl (ev_t rfl)) ?_)
       refine WL.val rfl rfl rfl rfl (r_move rfl (ev_t rfl)) ?_
       refine WL.val rfl rfl rfl rfl (r_move rfl (ev_t rfl)) ?_
       refine WL.val rfl rfl rfl rfl (r_sliceStrE (l := i) (h := i + 1 + j) rfl (ev_t rfl) Tryz.underlying9 (bnd_some (ev_t rfl) (by omega)) (bnd_some (ev_t rfl) (by omega)) (by omega) (by omega) (hsl j)) ?_
       refine WL.cons (SO.call (lnumber_ok (s := c :: R.take j) (by simp only [List.length_cons, List.length_take]; omega) (by simp only [List.all_cons, hdg, hall, Bool.and_self])) rfl body_80 ⟨(ev_t rfl), trivial⟩ rfl rfl rfl rfl ?_)
       rintro v9 w35 ⟨rfl, hu35⟩
       have hs35 := hu35.size
       replace hU := hU.transA hu35
       replace hb := hb.upd hu35 (by exact (fun h => h))
       replace hz := hz.upd hu35 (by exact (fun h => h))
       refine WL.val rfl rfl rfl rfl (r_move rfl (ev_t rfl)) ?_
       refine WL.val rfl rfl rfl rfl (r_extract rfl (ev_t rfl) rfl) ?_
       refine WL.val rfl rfl rfl rfl (r_extract rfl (ev_t rfl) rfl) ?_
       refine WL.val rfl rfl rfl rfl (r_assign rfl (ev_t rfl)) ?_
       refine WL.val rfl rfl rfl rfl (r_assign rfl (ev_t rfl)) ?_
       refine WL.nil (WX.keep [(0, _), (1, _), (4, _), (8, _), (10, _), (13, _)] ⟨rfl, rfl, rfl, rfl, rfl, rfl, trivial⟩ (WX.next (WC.seq (WC.region (WL.val rfl rfl rfl rfl (r_move rfl (ev_t rfl)) ?_)))))
       refine WL.val rfl rfl rfl rfl (r_not rfl (ev_t rfl)) ?_
       refine WL.nil (WX.keep [(0, _), (1, _), (4, _), (8, _), (10, _), (138, _)] ⟨rfl, rfl, rfl, rfl, rfl, rfl, trivial⟩ (WX.next (WC.cond rfl (ev_t rfl) (fun hc27 => ?_) (fun hc27 => ?_))))
       ·try simp only [cS, ne_eq, Decidable.not_not] at hc27
        refine WC.seq (WC.region (WL.val rfl rfl rfl rfl (r_loadAgg (vs := [_, _, _]) rfl (ev_t rfl) agg_81 size_81 (Blk.cellsL hz)) ?_))
        refine WL.val rfl rfl rfl rfl (r_move rfl (ev_t rfl)) ?_
        refine WL.cons (SO.storeAll (us := [_, _, _]) rfl (ev_t rfl) (ev_t rfl) size_81 hb rfl rfl rfl rfl rfl ?_)
        intro w36 hu36 hb hz36
        have hs36 := hu36.size
        replace hU := hU.transA hu36
        replace hz := hz.upd hu36 (by (simp only [At, No]; omega))
        refine WL.val rfl rfl rfl rfl (r_assign rfl ev_c) ?_
        refine WL.val rfl rfl rfl rfl (r_assign rfl (ev_t rfl)) ?_
        refine WL.val rfl rfl rfl rfl (r_assign rfl ev_c) ?_
        refine WL.nil (WX.keep [(4, _), (5, _), (6, _), (7, _)] ⟨rfl, rfl, rfl, rfl, trivial⟩ (WX.next (WC.ret (WX.thenRet (WX.blockRet (WX.thenRet (WX.retM (l := [.cell 4 81, .tmp 5, .tmp 6, .tmp 7]) (vs := [_, _, _, _]) rfl ⟨⟨_, [_, _, _], rfl, agg_81, size_81, (Blk.cellsL hb), rfl⟩, ⟨rfl, ⟨rfl, ⟨rfl, trivial⟩⟩⟩⟩ ?_)))))))
        refine ⟨?_, hU⟩
        rw [if_pos (by simpa using hc27)]
        exact ⟨_, _, rfl⟩
       ·try simp only [cS, ne_eq, Decidable.not_not] at hc27
        refine WC.skip (WX.next (WC.seq (WC.region (WL.val rfl rfl rfl rfl (r_move rfl (ev_t rfl)) ?_))))
        refine WL.val rfl rfl rfl rfl (r_move rfl (ev_t rfl)) ?_
        refine WL.val rfl rfl rfl rfl (r_move rfl (ev_t rfl)) ?_
        refine WL.val rfl rfl rfl rfl (r_sliceStrE (l := i) (h := i + 1 + j) rfl (ev_t rfl) Tryz.underlying9 (bnd_some (ev_t rfl) (by omega)) (bnd_some (ev_t rfl) (by omega)) (by omega) (by omega) (hsl j)) ?_
        refine WL.val rfl rfl rfl rfl (r_build (cs := #[_, _, _]) (vs := [(0, _), (1, _)]) rfl ⟨⟨rfl, ev_c⟩, ⟨rfl, (ev_t rfl)⟩, trivial⟩ plc_81 zero_81 rfl) ?_
        refine WL.val rfl rfl rfl rfl (r_move rfl (ev_t rfl)) ?_
        refine WL.cons (SO.storeAll (us := [_, _, _]) rfl (ev_t rfl) (ev_t rfl) size_81 hb rfl rfl rfl rfl rfl ?_)
        intro w37 hu37 hb hz37
        have hs37 := hu37.size
        replace hU := hU.transA hu37
        replace hz := hz.upd hu37 (by (simp only [At, No]; omega))
        refine WL.val rfl rfl rfl rfl (r_assign rfl (ev_t rfl)) ?_
        refine WL.val rfl rfl rfl rfl (r_assign rfl ev_c) ?_
        refine WL.val rfl rfl rfl rfl (r_assign rfl ev_c) ?_
        refine WL.nil (WX.keep [(4, _), (5, _), (6, _), (7, _)] ⟨rfl, rfl, rfl, rfl, trivial⟩ (WX.next (WC.ret (WX.blockRet (WX.thenRet (WX.retM (l := [.cell 4 81, .tmp 5, .tmp 6, .tmp 7]) (vs := [_, _, _, _]) rfl ⟨⟨_, [_, _, _], rfl, agg_81, size_81, (Blk.cellsL hb), rfl⟩, ⟨rfl, ⟨rfl, ⟨rfl, trivial⟩⟩⟩⟩ ?_))))))
        refine ⟨?_, hU⟩
        rw [if_neg (by have h9 := hc27; cases hnf : numF 0 (c :: R.take j) <;> simp_all)]
        exact ⟨i + 1 + j, by omega, by omega, (hdR j).symm, rfl⟩
     ·try simp only [cS, ne_eq, Decidable.not_not] at hb24_4
      refine WL.skip rfl rfl rfl (WL.skip rfl rfl rfl (WL.skip rfl rfl rfl (WL.skip rfl rfl rfl (WL.val rfl rfl rfl rfl (r_pickF rfl (ev_t rfl) ev_c) ?_))))
      refine WL.nil (WX.keep [(0, _), (1, _), (4, _), (8, _), (10, _), (126, _)] ⟨rfl, rfl, rfl, rfl, rfl, rfl, trivial⟩ (WX.next (WC.cond_false rfl (ev_t rfl) ?_)))
      refine WC.skip (WX.next (WC.seq (WC.seq ?_)))
      rw [if_neg (by first | (simpa using hc24) | (rw [List.getElem?_eq_none (by omega)]; simp))]
      refine WC.region (WL.val rfl rfl rfl rfl (r_move rfl (ev_t rfl)) ?_)
      refine WL.val rfl rfl rfl rfl (r_move rfl (ev_t rfl)) ?_
      refine WL.val rfl rfl rfl rfl (r_move rfl (ev_t rfl)) ?_
      refine WL.val rfl rfl rfl rfl (r_sliceStrE (l := i) (h := i + 1 + j) rfl (ev_t rfl) Tryz.underlying9 (bnd_some (ev_t rfl) (by omega)) (bnd_some (ev_t rfl) (by omega)) (by omega) (by omega) (hsl j)) ?_
      refine WL.cons (SO.call (lnumber_ok (s := c :: R.take j) (by simp only [List.length_cons, List.length_take]; omega) (by simp only [List.all_cons, hdg, hall, Bool.and_self])) rfl body_80 ⟨(ev_t rfl), trivial⟩ rfl rfl rfl rfl ?_)
      rintro v9 w38 ⟨rfl, hu38⟩
      have hs38 := hu38.size
      replace hU := hU.transA hu38
      replace hb := hb.upd hu38 (by exact (fun h => h))
      replace hz := hz.upd hu38 (by exact (fun h => h))
      refine WL.val rfl rfl rfl rfl (r_move rfl (ev_t rfl)) ?_
      refine WL.val rfl rfl rfl rfl (r_extract rfl (ev_t rfl) rfl) ?_
      refine WL.val rfl rfl rfl rfl (r_extract rfl (ev_t rfl) rfl) ?_
      refine WL.val rfl rfl rfl rfl (r_assign rfl (ev_t rfl)) ?_
      refine WL.val rfl rfl rfl rfl (r_assign rfl (ev_t rfl)) ?_
      refine WL.nil (WX.keep [(0, _), (1, _), (4, _), (8, _), (10, _), (13, _)] ⟨rfl, rfl, rfl, rfl, rfl, rfl, trivial⟩ (WX.next (WC.seq (WC.region (WL.val rfl rfl rfl rfl (r_move rfl (ev_t rfl)) ?_)))))
      refine WL.val rfl rfl rfl rfl (r_not rfl (ev_t rfl)) ?_
      refine WL.nil (WX.keep [(0, _), (1, _), (4, _), (8, _), (10, _), (138, _)] ⟨rfl, rfl, rfl, rfl, rfl, rfl, trivial⟩ (WX.next (WC.cond rfl (ev_t rfl) (fun hc27 => ?_) (fun hc27 => ?_))))
      ·try simp only [cS, ne_eq, Decidable.not_not] at hc27
       refine WC.seq (WC.region (WL.val rfl rfl rfl rfl (r_loadAgg (vs := [_, _, _]) rfl (ev_t rfl) agg_81 size_81 (Blk.cellsL hz)) ?_))
       refine WL.val rfl rfl rfl rfl (r_move rfl (ev_t rfl)) ?_
       refine WL.cons (SO.storeAll (us := [_, _, _]) rfl (ev_t rfl) (ev_t rfl) size_81 hb rfl rfl rfl rfl rfl ?_)
       intro w39 hu39 hb hz39
       have hs39 := hu39.size
       replace hU := hU.transA hu39
       replace hz := hz.upd hu39 (by (simp only [At, No]; omega))
       refine WL.val rfl rfl rfl rfl (r_assign rfl ev_c) ?_
       refine WL.val rfl rfl rfl rfl (r_assign rfl (ev_t rfl)) ?_
       refine WL.val rfl rfl rfl rfl (r_assign rfl ev_c) ?_
       refine WL.nil (WX.keep [(4, _), (5, _), (6, _), (7, _)] ⟨rfl, rfl, rfl, rfl, trivial⟩ (WX.next (WC.ret (WX.thenRet (WX.blockRet (WX.thenRet (WX.retM (l := [.cell 4 81, .tmp 5, .tmp 6, .tmp 7]) (vs := [_, _, _, _]) rfl ⟨⟨_, [_, _, _], rfl, agg_81, size_81, (Blk.cellsL hb), rfl⟩, ⟨rfl, ⟨rfl, ⟨rfl, trivial⟩⟩⟩⟩ ?_)))))))
       refine ⟨?_, hU⟩
       rw [if_pos (by simpa using hc27)]
       exact ⟨_, _, rfl⟩
      ·try simp only [cS, ne_eq, Decidable.not_not] at hc27
       refine WC.skip (WX.next (WC.seq (WC.region (WL.val rfl rfl rfl rfl (r_move rfl (ev_t rfl)) ?_))))
       refine WL.val rfl rfl rfl rfl (r_move rfl (ev_t rfl)) ?_
       refine WL.val rfl rfl rfl rfl (r_move rfl (ev_t rfl)) ?_
       refine WL.val rfl rfl rfl rfl (r_sliceStrE (l := i) (h := i + 1 + j) rfl (ev_t rfl) Tryz.underlying9 (bnd_some (ev_t rfl) (by omega)) (bnd_some (ev_t rfl) (by omega)) (by omega) (by omega) (hsl j)) ?_
       refine WL.val rfl rfl rfl rfl (r_build (cs := #[_, _, _]) (vs := [(0, _), (1, _)]) rfl ⟨⟨rfl, ev_c⟩, ⟨rfl, (ev_t rfl)⟩, trivial⟩ plc_81 zero_81 rfl) ?_
       refine WL.val rfl rfl rfl rfl (r_move rfl (ev_t rfl)) ?_
       refine WL.cons (SO.storeAll (us := [_, _, _]) rfl (ev_t rfl) (ev_t rfl) size_81 hb rfl rfl rfl rfl rfl ?_)
       intro w40 hu40 hb hz40
       have hs40 := hu40.size
       replace hU := hU.transA hu40
       replace hz := hz.upd hu40 (by (simp only [At, No]; omega))
       refine WL.val rfl rfl rfl rfl (r_assign rfl (ev_t rfl)) ?_
       refine WL.val rfl rfl rfl rfl (r_assign rfl ev_c) ?_
       refine WL.val rfl rfl rfl rfl (r_assign rfl ev_c) ?_
       refine WL.nil (WX.keep [(4, _), (5, _), (6, _), (7, _)] ⟨rfl, rfl, rfl, rfl, trivial⟩ (WX.next (WC.ret (WX.blockRet (WX.thenRet (WX.retM (l := [.cell 4 81, .tmp 5, .tmp 6, .tmp 7]) (vs := [_, _, _, _]) rfl ⟨⟨_, [_, _, _], rfl, agg_81, size_81, (Blk.cellsL hb), rfl⟩, ⟨rfl, ⟨rfl, ⟨rfl, trivial⟩⟩⟩⟩ ?_))))))
       refine ⟨?_, hU⟩
       rw [if_neg (by have h9 := hc27; cases hnf : numF 0 (c :: R.take j) <;> simp_all)]
       exact ⟨i + 1 + j, by omega, by omega, (hdR j).symm, rfl⟩
   ·have hdg : dgB c = false := by simpa using hc21
    rw [if_neg (by rw [hdg]; simp)]
    refine WC.seq (WC.region (WL.val rfl rfl rfl rfl (r_move rfl (ev_t rfl)) ?_))
    refine WL.val rfl rfl rfl rfl (r_eql rfl (ev_t rfl) ev_c) ?_
    refine WL.val rfl rfl rfl rfl (r_assign rfl (ev_t rfl)) ?_
    refine WL.nil (WX.keep [(0, _), (1, _), (4, _), (8, _), (147, _)] ⟨rfl, rfl, rfl, rfl, rfl, trivial⟩ (WX.next (WC.cond rfl (ev_t rfl) (fun hc30 => ?_) (fun hc30 => ?_))))
    ·try simp only [cS, ne_eq, Decidable.not_not] at hc30
     refine WC.seq ?_
     have hq : c.toNat = 34 := by omega
     rw [if_pos hq]
     refine WC.region (WL.val rfl rfl rfl rfl (r_move rfl (ev_t rfl)) ?_)
     refine WL.val rfl rfl rfl rfl (r_move rfl (ev_t rfl)) ?_
     refine WL.cons (SO.call (ltext_ok hi hs) rfl body_81 ⟨(ev_t rfl), (ev_t rfl), trivial⟩ rfl rfl rfl rfl ?_)
     rintro v9 w41 ⟨h31, hu41⟩
     have hs41 := hu41.size
     replace hU := hU.transA hu41
     replace hb := hb.upd hu41 (by exact (fun h => h))
     replace hz := hz.upd hu41 (by exact (fun h => h))
     have hR0 : s.drop (i + 1) = R := hdR 0
     rw [hR0] at h31
     obtain ⟨a9, S9, z9, k9, b9, e9, rfl, h32⟩ : ∃ (a9 : Int) (S9 : ByteArray) (z9 k9 b9 e9 : Int), v9 = .tuple #[.agg #[.int .u8 a9, .string S9, .int .i64 z9], .int .i64 k9, .int .i64 b9, .int .i64 e9] ∧ oneX (match textF [] R with
         | none => .error 4
         | some p => .ok (⟨5, p.1⟩, p.2)) s i v9 := by
      cases htx : textF [] R with
      | none =>
       rw [htx] at h31
       obtain ⟨k9, b9, rfl⟩ := h31
       exact ⟨_, _, _, _, _, _, rfl, _, _, rfl⟩
      | some p =>
       rw [htx] at h31
       obtain ⟨k9, g1, g2, g3, rfl⟩ := h31
       exact ⟨_, _, _, _, _, _, rfl, k9, g1, g2, g3, rfl⟩
     refine WL.val rfl rfl rfl rfl (r_extract rfl (ev_t rfl) rfl) ?_
     refine WL.val rfl rfl rfl rfl (r_extract rfl (ev_t rfl) rfl) ?_
     refine WL.val rfl rfl rfl rfl (r_extract rfl (ev_t rfl) rfl) ?_
     refine WL.val rfl rfl rfl rfl (r_extract rfl (ev_t rfl) rfl) ?_
     refine WL.cons (SO.storeAll (us := [_, _, _]) rfl (ev_t rfl) (ev_t rfl) size_81 hb rfl rfl rfl rfl rfl ?_)
     intro w42 hu42 hb hz42
     have hs42 := hu42.size
     replace hU := hU.transA hu42
     replace hz := hz.upd hu42 (by (simp only [At, No]; omega))
     refine WL.val rfl rfl rfl rfl (r_assign rfl (ev_t rfl)) ?_
     refine WL.val rfl rfl rfl rfl (r_assign rfl (ev_t rfl)) ?_
     refine WL.val rfl rfl rfl rfl (r_assign rfl (ev_t rfl)) ?_
     refine WL.nil (WX.keep [(4, _), (5, _), (6, _), (7, _)] ⟨rfl, rfl, rfl, rfl, trivial⟩ (WX.next (WC.ret (WX.blockRet (WX.thenRet (WX.retM (l := [.cell 4 81, .tmp 5, .tmp 6, .tmp 7]) (vs := [_, _, _, _]) rfl ⟨⟨_, [_, _, _], rfl, agg_81, size_81, (Blk.cellsL hb), rfl⟩, ⟨rfl, ⟨rfl, ⟨rfl, trivial⟩⟩⟩⟩ ?_))))))
     exact ⟨h32, hU⟩
    ·try simp only [cS, ne_eq, Decidable.not_not] at hc30
     refine WC.skip (WX.blockNormal (WX.next (WC.seq (WC.region (WL.cons (SO.alloc rfl rfl rfl rfl (r_buildSlice1 (vs := [_, _, _, _, _, _, _, _, _, _, _, _, _, _, _, _, _, _, _, _, _, _, _, _]) rfl ⟨ev_c, ev_c, ev_c, ev_c, ev_c, ev_c, ev_c, ev_c, ev_c, ev_c, ev_c, ev_c, ev_c, ev_c, ev_c, ev_c, ev_c, ev_c, ev_c, ev_c, ev_c, ev_c, ev_c, ev_c, trivial⟩ rfl row_66 rfl rfl) ?_))))))
     intro w43 hu43 hB43 hz43
     have hs43 := hu43.size
     replace hU := hU.transA hu43
     replace hb := hb.upd hu43 (by exact (fun h => h))
     replace hz := hz.upd hu43 (by exact (fun h => h))
     refine WL.val rfl rfl rfl rfl (r_assign rfl (ev_t rfl)) ?_
     refine WL.nil (WX.keep [(0, _), (1, _), (4, _), (8, _), (14, _)] ⟨rfl, rfl, rfl, rfl, rfl, trivial⟩ ?_)
     have hl := hB43
     change Blk _ _ (signsL.map Sv).toArray _ at hl
     have hq : ¬ c.toNat = 34 := by omega
     rw [if_neg hq]
     refine WX.next (WC.seq (WC.seq (WC.region (WL.val rfl rfl rfl rfl (r_assign rfl ev_c) ?_))))
     refine WL.nil (WX.keep [(0, _), (1, _), (4, _), (8, _), (14, _), (15, _)] ⟨rfl, rfl, rfl, rfl, rfl, rfl, trivial⟩ (WX.next (WC.block ?_)))
     -- loop 3: live [0, 1, 4, 8, 14, 15]
     refine WC.keep [(0, _), (1, _), (4, _), (8, _), (14, _), (15, _)] ⟨rfl, rfl, rfl, rfl, rfl, rfl, trivial⟩ (WC.loop (fun qq E wC => ∃ (bl j : Nat), j ≤ 24 ∧ qq = 24 - j ∧ Upd No w wC ∧ (∃ x y z, Blk wC w.heap.size #[x, y, z] 81) ∧ Blk wC w1.heap.size #[.int .u8 0, .string ⟨#[]⟩, .int .i64 0] 81 ∧ Blk wC bl (signsL.map Sv).toArray 9 ∧ bl ≠ w.heap.size ∧ (∀ x ∈ signsL.take j, atF (c :: R) 0 x = false) ∧ E = [(0, Sv s), (1, .int .i64 (i : Int)), (4, .pointer (some ⟨w.heap.size, 0, none⟩)), (8, .pointer (some ⟨w1.heap.size, 0, none⟩)), (14, .slice (some ⟨bl, 0, none⟩) 24 24), (15, .int .i64 (j : Int))]) (24) ?_ ?_)
     ·exact ⟨_, 0, by omega, by omega, hU, ⟨_, _, _, hb⟩, hz, hl, (by have h1 := hz.lt; omega), by simp, rfl⟩
     ·clear hU hb hz hl
      rintro qq E wC ⟨bl, j, hj, rfl, hU, ⟨bx, by_, bz, hb⟩, hz, hl, hbl, hall, rfl⟩
      refine WC.seq (WC.seq (WC.region (WL.val rfl rfl rfl rfl (r_move rfl (ev_t rfl)) ?_)))
      refine WL.val rfl rfl rfl rfl (r_move rfl (ev_t rfl)) ?_
      refine WL.val rfl rfl rfl rfl (r_lenSlice (ts := #[]) rfl (ev_t rfl) elem_66) ?_
      refine WL.val rfl rfl rfl rfl (r_lss rfl (ev_t rfl) (ev_t rfl)) ?_
      refine WL.nil (WX.keep [(0, _), (1, _), (4, _), (8, _), (14, _), (15, _), (161, _)] ⟨rfl, rfl, rfl, rfl, rfl, rfl, rfl, trivial⟩ (WX.next (WC.cond rfl (ev_t rfl) (fun hc34 => ?_) (fun hc34 => ?_))))
      ·try simp only [cS, ne_eq, Decidable.not_not] at hc34
       have hjl : j < 24 := by omega
       have hgu : signsL[j]? = some (signsL[j]'hjl) := List.getElem?_eq_getElem hjl
       generalize signsL[j]'hjl = u at hgu
       have hum := List.mem_of_getElem? hgu
       have hul := (show ∀ w ∈ signsL, 0 < w.length ∧ w.length ≤ 2 by decide) u hum
       refine WC.skip (WX.next (WC.seq (WC.block (WC.seq (WC.region (WL.val rfl rfl rfl rfl (r_move rfl (ev_t rfl)) ?_))))))
       refine WL.val rfl rfl rfl rfl (r_move rfl (ev_t rfl)) ?_
       refine WL.val rfl rfl rfl rfl (r_move rfl (ev_t rfl)) ?_
       refine WL.val rfl rfl rfl rfl (r_move rfl (ev_t rfl)) ?_
       refine WL.val rfl rfl rfl rfl (r_indexAddr rfl (ev_t rfl) (ev_t rfl) elem_66 size_9 (by omega) (by omega)) ?_
       refine WL.val rfl rfl rfl rfl (r_load rfl (ev_t rfl) flat_9 (Blk.cell hl (v := Sv u) (by rw [show 0 + (j : Int).toNat * 1 = j by omega, List.getElem?_toArray, List.getElem?_map, hgu]; rfl))) ?_
       refine WL.cons (SO.call (lat_ok (s := s) (t := u) (i := i) (by omega) hs (by omega)) rfl body_74 ⟨(ev_t rfl), (ev_t rfl), (ev_t rfl), trivial⟩ rfl rfl rfl rfl ?_)
       rintro v9 w44 ⟨rfl, hu44⟩
       have hs44 := hu44.size
       replace hU := hU.transA hu44
       replace hb := hb.upd hu44 (by exact (fun h => h))
       replace hz := hz.upd hu44 (by exact (fun h => h))
       replace hl := hl.upd hu44 (by exact (fun h => h))
       refine WL.nil (WX.keep [(0, _), (1, _), (4, _), (8, _), (14, _), (15, _), (170, _)] ⟨rfl, rfl, rfl, rfl, rfl, rfl, rfl, trivial⟩ (WX.next (WC.cond rfl (ev_t rfl) (fun hc36 => ?_) (fun hc36 => ?_))))
       ·refine WC.seq ?_
        have hat : atF s i u = true := by simpa using hc36
        have hle := atF_le hat
        refine WC.draws' (fun u0_ u1_ => Upd (At w.heap.size) u0_ u1_) (fun j => [0, 0, 0, 0, 0, 0, 0, 0, 0, 0, 0, 0, 1, 0, 0, 0].getD j 0) (.calm 0 (.calm 1 (.calm 2 (.calm 5 (.calm 6 (.calm 7 (.calm 8 (.held 3 (.calm 4 (.held 9 (.calm 10 (.calm 11 (.one 12 (.calm 13 (.calm 14 (.calm 15 (.done))))))))))))))))) mixed (by kernel_rfl) (by repeat (first | with_reducible exact Deaf.body | with_reducible apply Deaf.then | with_reducible apply Deaf.block)) ?_
        intro w45 hu45
        have hz45 := congrArg Array.size hu45.2.2.2
        replace hu45 := Upd.of_draw hu45
        have hs45 := hu45.size
        replace hU := hU.transA hu45
        replace hb := hb.upd hu45 (by exact (fun h => h))
        replace hz := hz.upd hu45 (by exact (fun h => h))
        replace hl := hl.upd hu45 (by exact (fun h => h))
        have hS37 := Upd.refl (At w.heap.size) w45
        refine WN.calm _ rfl rfl rfl rfl rfl (fun _ => r_move rfl (ev_t rfl)) ?_
        refine WN.calm _ rfl rfl rfl rfl rfl (fun _ => r_move rfl (ev_t rfl)) ?_
        refine WN.calm _ rfl rfl rfl rfl rfl (fun _ => r_indexAddr rfl (ev_t rfl) (ev_t rfl) elem_66 size_9 (by omega) (by omega)) ?_
        refine WN.calm _ rfl rfl rfl rfl rfl (fun _ => r_move rfl (ev_t rfl)) ?_
        refine WN.calm _ rfl rfl rfl rfl rfl (fun _ => r_move rfl (ev_t rfl)) ?_
        refine WN.calm _ rfl rfl rfl rfl rfl (fun _ => r_move rfl (ev_t rfl)) ?_
        refine WN.calm _ rfl rfl rfl rfl rfl (fun _ => r_indexAddr rfl (ev_t rfl) (ev_t rfl) elem_66 size_9 (by omega) (by omega)) ?_
        refine WN.held _ rfl rfl rfl rfl rfl hS37 (fun w' hS => r_load rfl (ev_t rfl) flat_9 (Blk.cell (hl.upd hS (by (try simp only [At, From, No, Grow, New]); omega)) (v := Sv u) (by rw [show 0 + (j : Int).toNat * 1 = j by omega, List.getElem?_toArray, List.getElem?_map, hgu]; rfl))) ?_
        refine WN.calm _ rfl rfl rfl rfl rfl (fun _ => r_build (cs := #[_, _, _]) (vs := [(0, _), (1, _)]) rfl ⟨⟨rfl, ev_c⟩, ⟨rfl, (ev_t rfl)⟩, trivial⟩ plc_81 zero_81 rfl) ?_
        refine WN.held _ rfl rfl rfl rfl rfl hS37 (fun w' hS => r_load rfl (ev_t rfl) flat_9 (Blk.cell (hl.upd hS (by (try simp only [At, From, No, Grow, New]); omega)) (v := Sv u) (by rw [show 0 + (j : Int).toNat * 1 = j by omega, List.getElem?_toArray, List.getElem?_map, hgu]; rfl))) ?_
        refine WN.calm _ rfl rfl rfl rfl rfl (fun _ => r_lenStrL rfl (ev_t rfl) str_9) ?_
        refine WN.calm _ rfl rfl rfl rfl rfl (fun _ => r_addN rfl (ev_t rfl) (ev_t rfl) (by simp only [inK]; omega)) ?_
        refine WN.step _ rfl (SO.storeAll (us := [_, _, _]) rfl (ev_t rfl) (ev_t rfl) size_81 hb rfl rfl rfl rfl rfl ?_)
        intro w46 hu46 hb hz46
        have hs46 := hu46.size
        replace hS37 := Upd.trans hS37 hu46 (by intro k hl hk; exact hk)
        replace hU := hU.transA hu46
        replace hz := hz.upd hu46 (by (simp only [At, No]; omega))
        replace hl := hl.upd hu46 (by (simp only [At, No]; omega))
        refine ⟨hS37, ?_⟩
        refine WN.calm _ rfl rfl rfl rfl rfl (fun _ => r_assign rfl (ev_t rfl)) ?_
        refine WN.calm _ rfl rfl rfl rfl rfl (fun _ => r_assign rfl ev_c) ?_
        refine WN.calm _ rfl rfl rfl rfl rfl (fun _ => r_assign rfl ev_c) ?_
        refine WN.done ?_
        refine WX.keep [(4, _), (5, _), (6, _), (7, _)] ⟨rfl, rfl, rfl, rfl, trivial⟩ (WX.next (WC.ret (WX.blockRet (WX.thenRet (WX.thenRet (WX.blockRet (WX.thenRet (WX.retM (l := [.cell 4 81, .tmp 5, .tmp 6, .tmp 7]) (vs := [_, _, _, _]) rfl ⟨⟨_, [_, _, _], rfl, agg_81, size_81, (Blk.cellsL hb), rfl⟩, ⟨rfl, ⟨rfl, ⟨rfl, trivial⟩⟩⟩⟩ ?_))))))))
        refine ⟨?_, hU⟩
        rw [find_of (p := fun w => atF (c :: R) 0 w) signsL j u hall hgu (by rw [← hdr0, ← atF_drop]; exact hat)]
        have hul9 : u ≠ [] := fun h => by subst h; simp at hul
        refine ⟨i + u.length, by omega, by rcases hle with h | h; exact h; exact absurd h hul9, by rw [← hdr0, List.drop_drop], rfl⟩
       ·refine WC.skip (WX.blockNormal (WX.next (WC.region (WL.val rfl rfl rfl rfl (r_move rfl (ev_t rfl)) ?_))))
        refine WL.val rfl rfl rfl rfl (r_addN rfl (ev_t rfl) ev_c (by simp only [inK]; omega)) ?_
        refine WL.val rfl rfl rfl rfl (r_assign rfl (ev_t rfl)) ?_
        refine WL.nil (WX.keep [(0, _), (1, _), (4, _), (8, _), (14, _), (15, _)] ⟨rfl, rfl, rfl, rfl, rfl, rfl, trivial⟩ (WX.meet [(0, _), (1, _), (4, _), (8, _), (14, _), (15, _)] ⟨rfl, rfl, rfl, rfl, rfl, rfl, trivial⟩ ?_))
        refine ⟨24 - (j + 1), by omega, bl, j + 1, by omega, rfl, hU, ⟨_, _, _, hb⟩, hz, hl, hbl, fun x hx => ?_, rfl⟩
        rw [List.take_add_one, hgu] at hx
        rcases List.mem_append.1 hx with h | h
        ·exact hall x h
        ·obtain rfl : x = u := by simpa using h
         rw [← hdr0, ← atF_drop]
         simpa using hc36
      ·try simp only [cS, ne_eq, Decidable.not_not] at hc34
       refine WC.exit (WX.thenExit (WX.thenExit (WX.blockHere (WX.next (WC.seq (WC.region (WL.val rfl rfl rfl rfl (r_loadAgg (vs := [_, _, _]) rfl (ev_t rfl) agg_81 size_81 (Blk.cellsL hz)) ?_)))))))
       refine WL.val rfl rfl rfl rfl (r_move rfl (ev_t rfl)) ?_
       refine WL.cons (SO.storeAll (us := [_, _, _]) rfl (ev_t rfl) (ev_t rfl) size_81 hb rfl rfl rfl rfl rfl ?_)
       intro w47 hu47 hb hz47
       have hs47 := hu47.size
       replace hU := hU.transA hu47
       replace hz := hz.upd hu47 (by (simp only [At, No]; omega))
       replace hl := hl.upd hu47 (by (simp only [At, No]; omega))
       refine WL.val rfl rfl rfl rfl (r_assign rfl ev_c) ?_
       refine WL.val rfl rfl rfl rfl (r_assign rfl (ev_t rfl)) ?_
       refine WL.val rfl rfl rfl rfl (r_assign rfl ev_c) ?_
       refine WL.nil (WX.keep [(4, _), (5, _), (6, _), (7, _)] ⟨rfl, rfl, rfl, rfl, trivial⟩ (WX.next (WC.ret (WX.retM (l := [.cell 4 81, .tmp 5, .tmp 6, .tmp 7]) (vs := [_, _, _, _]) rfl ⟨⟨_, [_, _, _], rfl, agg_81, size_81, (Blk.cellsL hb), rfl⟩, ⟨rfl, ⟨rfl, ⟨rfl, trivial⟩⟩⟩⟩ ?_))))
       refine ⟨?_, hU⟩
       obtain rfl : j = 24 := by omega
       rw [show signsL.take 24 = signsL from rfl] at hall
       rw [find_none hall]
       exact ⟨_, _, rfl⟩
end Go.Proofs.YtomkdhkkggbioaaGreatDoor

/-
  The reference's lexer: all tokens.
-/
namespace Go.Proofs.YtomkdhkkggbioaaGreatDoor
open Go
set_option linter.unusedSimpArgs false
set_option linter.unusedVariables false

theorem oneF_err {s : List UInt8} {e : Nat} (h : oneF s = .error e) : e = 1 ∨ e = 2 ∨ e = 4 := by
  cases s with
  | nil => simp only [oneF, Except.error.injEq] at h; omega
  | cons c r =>
    simp only [oneF] at h
    split at h
    · split at h
      · injection h with h; omega
      · split at h
        · cases h
        · split at h
          · split at h
            · cases h
            · injection h with h; omega
          · split at h <;> cases h
    · split at h
      · split at h
        · injection h with h; omega
        · split at h
          · injection h with h; omega
          · cases h
      · split at h
        · split at h
          · injection h with h; omega
          · cases h
        · split at h
          · injection h with h; omega
          · cases h
def tokC (p : Tok × Int) : List Value := [.int .u8 (p.1.k : Int), Sv p.1.s, .int .i64 p.2]
/-- what is told of all tokens -/
def lexV (w w' : World) (r : Except Nat (List Tok)) (v : Value) : Prop := match r with
  | .ok ts => ∃ (sl : Value) (zs : List Int), v = .tuple #[sl, .int .i64 0, .int .i64 0] ∧ zs.length = ts.length ∧ Rd w' (fun k => w.heap.size ≤ k) sl ts.length 3 ((ts.zip zs).flatMap tokC) ∧ ts.length ≤ 2001
  | .error e => ∃ (k : Int), e ≠ 0 ∧ v = .tuple #[.slice none 0 0, .int .i64 k, .int .i64 (e : Int)]
def tokF (s : List UInt8) : Except Nat (List Tok) := if 2000 < s.length then .error 2 else lexF s
theorem tok_one {a9 z9 : Int} {S9 : ByteArray} : ∀ u ∈ [Value.int .u8 a9, .string S9, .int .i64 z9], u.oneCell' = true := by
  intro u hu
  simp only [List.mem_cons, List.not_mem_nil, or_false] at hu
  rcases hu with rfl | rfl | rfl <;> rfl
theorem tok_rd {w : World} {g : Nat} {a b c : Value} {T : TypeId} (h : Blk w g #[a, b, c] T) : Rd w (At g) (.slice (some ⟨g, 0, none⟩) 1 1) 1 3 [a, b, c] := Rd.of_blk (n := 1) h rfl rfl (by omega)
theorem ltokens_ok {w : World} {s : List UInt8} (hs : s.length ≤ 140737488355328) : Ret Tryz.prog 30 #[Sv s] w fun v w' => lexV w w' (tokF s) v ∧ Upd No w w' := by
  unfold tokF
  refine enterRet (vs := [_]) (N := 55) Tryz.func30 rfl rfl rfl ?_
  have hU := Upd.refl No w
  refine WC.keep [(0, _)] ⟨rfl, trivial⟩ (WC.seq (WC.region (WL.val rfl rfl rfl rfl (r_assign rfl ev_c) ?_)))
  refine WL.val rfl rfl rfl rfl (r_assign rfl ev_c) ?_
  refine WL.val rfl rfl rfl rfl (r_assign rfl ev_c) ?_
  refine WL.nil (WX.keep [(0, _)] ⟨rfl, trivial⟩ (WX.next (WC.seq (WC.seq (WC.region (WL.val rfl rfl rfl rfl (r_move rfl (ev_t rfl)) ?_))))))
  refine WL.val rfl rfl rfl rfl (r_lenStrL rfl (ev_t rfl) str_9) ?_
  refine WL.val rfl rfl rfl rfl (r_gtr rfl (ev_t rfl) ev_c) ?_
  refine WL.nil (WX.keep [(0, _), (14, _)] ⟨rfl, rfl, trivial⟩ (WX.next (WC.cond rfl (ev_t rfl) (fun hc1 => ?_) (fun hc1 => ?_))))
  · try simp only [cS, ne_eq, Decidable.not_not] at hc1
    refine WC.seq (WC.region (WL.val rfl rfl rfl rfl (r_assign rfl ev_c) ?_))
    refine WL.val rfl rfl rfl rfl (r_assign rfl ev_c) ?_
    refine WL.val rfl rfl rfl rfl (r_assign rfl ev_c) ?_
    refine WL.nil (WX.keep [(2, _), (3, _), (4, _)] ⟨rfl, rfl, rfl, trivial⟩ (WX.next (WC.ret (WX.thenRet (WX.retE (l := [.tmp 2, .tmp 3, .tmp 4]) (vs := [_, _, _]) rfl ⟨rfl, rfl, rfl, trivial⟩ ?_)))))
    refine ⟨?_, hU⟩
    rw [if_pos (by omega)]
    exact ⟨0, by decide, rfl⟩
  · try simp only [cS, ne_eq, Decidable.not_not] at hc1
    refine WC.skip (WX.next (WC.seq ?_))
    rw [if_neg (by omega)]
    refine WC.region (WL.val rfl rfl rfl rfl (r_assign rfl ev_c) ?_)
    refine WL.nil (WX.keep [(0, _), (5, _)] ⟨rfl, rfl, trivial⟩ (WX.next (WC.seq (WC.region (WL.val rfl rfl rfl rfl (r_assign rfl ev_c) ?_)))))
    refine WL.nil (WX.keep [(0, _), (5, _), (6, _)] ⟨rfl, rfl, rfl, trivial⟩ (WX.next (WC.block ?_)))
    -- loop 1: live [0, 5, 6]
    refine WC.keep [(0, _), (5, _), (6, _)] ⟨rfl, rfl, rfl, trivial⟩ (WC.loop (fun qq E wC => ∃ (i : Nat) (ts : List Tok) (zs : List Int) (A : Option Addr) (cp : Nat) (G : Nat → Prop), i ≤ s.length ∧ qq = s.length - i ∧ ts.length ≤ i ∧ zs.length = ts.length ∧ Upd No w wC ∧ Own wC G 81 3 (.slice A ts.length cp) ts.length ((ts.zip zs).flatMap tokC) ∧ (∀ k, G k → w.heap.size ≤ k ∧ k < wC.heap.size) ∧ lexF s = (lexF (s.drop i)).map (ts ++ ·) ∧ E = [(0, Sv s), (5, .slice A ts.length cp), (6, .int .i64 (i : Int))]) (s.length) ?_ ?_)
    · exact ⟨0, [], [], none, 0, fun _ => False, by omega, by omega, by simp, rfl, hU, Own.nil _ _ _ _, (fun k h => h.elim), by rw [List.drop_zero]; cases lexF s <;> rfl, rfl⟩
    · clear hU
      rintro qq E wC ⟨i, ts, zs, A, cp, G, hi, rfl, htl, hal, hU, ho, hG, hL, rfl⟩
      have hsC := hU.size
      refine WC.block (WC.seq (WC.region (WL.val rfl rfl rfl rfl (r_move rfl (ev_t rfl)) ?_)))
      refine WL.val rfl rfl rfl rfl (r_move rfl (ev_t rfl)) ?_
      refine WL.cons (SO.call (lblank_ok (s := s) (i := i) hi (by omega)) rfl body_55 ⟨(ev_t rfl), (ev_t rfl), trivial⟩ rfl rfl rfl rfl ?_)
      rintro v9 w1 ⟨⟨n, rfl, hn1, hn2, hsk⟩, hu1⟩
      have hs1 := hu1.size
      replace hU := hU.trans hu1 (by exact (fun _ _ h => h))
      replace ho := ho.upd hu1 (by intro k hk hl h; exact h)
      refine WL.val rfl rfl rfl rfl (r_assign rfl (ev_t rfl)) ?_
      refine WL.nil (WX.keep [(0, _), (5, _), (6, _), (7, _)] ⟨rfl, rfl, rfl, rfl, trivial⟩ (WX.next (WC.seq (WC.seq (WC.region (WL.val rfl rfl rfl rfl (r_move rfl (ev_t rfl)) ?_))))))
      refine WL.val rfl rfl rfl rfl (r_lss rfl (ev_t rfl) ev_c) ?_
      refine WL.nil (WX.keep [(0, _), (5, _), (6, _), (7, _), (19, _)] ⟨rfl, rfl, rfl, rfl, rfl, trivial⟩ (WX.next (WC.cond rfl (ev_t rfl) (fun hc6 => ?_) (fun hc6 => ?_))))
      · try simp only [cS, ne_eq, Decidable.not_not] at hc6
        refine WC.seq (WC.region (WL.val rfl rfl rfl rfl (r_move rfl (ev_t rfl)) ?_))
        refine WL.val rfl rfl rfl rfl (r_move rfl (ev_t rfl)) ?_
        refine WL.val rfl rfl rfl rfl (r_subN rfl ev_c (ev_t rfl) (by simp only [inK]; omega)) ?_
        refine WL.val rfl rfl rfl rfl (r_addN rfl (ev_t rfl) (ev_t rfl) (by simp only [inK]; omega)) ?_
        refine WL.val rfl rfl rfl rfl (r_assign rfl ev_c) ?_
        refine WL.val rfl rfl rfl rfl (r_assign rfl (ev_t rfl)) ?_
        refine WL.val rfl rfl rfl rfl (r_assign rfl ev_c) ?_
        refine WL.nil (WX.keep [(2, _), (3, _), (4, _)] ⟨rfl, rfl, rfl, trivial⟩ (WX.next (WC.ret (WX.thenRet (WX.blockRet (WX.thenRet (WX.blockRet (WX.retE (l := [.tmp 2, .tmp 3, .tmp 4]) (vs := [_, _, _]) rfl ⟨rfl, rfl, rfl, trivial⟩ ?_))))))))
        refine ⟨?_, hU⟩
        cases hf : skipF (s.drop i) with
        | some q =>
          rw [hf] at hsk
          obtain ⟨k, g1, g2, g3, g4⟩ := hsk
          omega
        | none =>
          rw [hL, lexF_none hf]
          exact ⟨_, by decide, rfl⟩
      · try simp only [cS, ne_eq, Decidable.not_not] at hc6
        refine WC.skip (WX.next (WC.seq (WC.region ?_)))
        obtain ⟨k, hk1, hk2, hskip, rfl⟩ : ∃ k : Nat, i ≤ k ∧ k ≤ s.length ∧ skipF (s.drop i) = some (s.drop k) ∧ n = (k : Int) - i := by
          cases hf : skipF (s.drop i) with
          | none =>
            rw [hf] at hsk
            exact absurd hsk (by omega)
          | some q =>
            rw [hf] at hsk
            obtain ⟨k, g1, g2, g3, g4⟩ := hsk
            exact ⟨k, g1, g2, by rw [g3], g4⟩
        refine WL.val rfl rfl rfl rfl (r_move rfl (ev_t rfl)) ?_
        refine WL.val rfl rfl rfl rfl (r_move rfl (ev_t rfl)) ?_
        refine WL.val rfl rfl rfl rfl (r_addN rfl (ev_t rfl) (ev_t rfl) (by simp only [inK]; omega)) ?_
        refine WL.val rfl rfl rfl rfl (r_assign rfl (ev_t rfl)) ?_
        refine WL.nil (WX.keep [(0, _), (5, _), (6, _)] ⟨rfl, rfl, rfl, trivial⟩ (WX.next (WC.seq (WC.seq (WC.region ?_)))))
        rw [show (i : Int) + ((k : Int) - (i : Int)) = (k : Int) by omega]
        refine WL.val rfl rfl rfl rfl (r_move rfl (ev_t rfl)) ?_
        refine WL.val rfl rfl rfl rfl (r_move rfl (ev_t rfl)) ?_
        refine WL.val rfl rfl rfl rfl (r_lenStrL rfl (ev_t rfl) str_9) ?_
        refine WL.val rfl rfl rfl rfl (r_eql rfl (ev_t rfl) (ev_t rfl)) ?_
        refine WL.nil (WX.keep [(0, _), (5, _), (6, _), (30, _)] ⟨rfl, rfl, rfl, rfl, trivial⟩ (WX.next (WC.cond rfl (ev_t rfl) (fun hc9 => ?_) (fun hc9 => ?_))))
        · try simp only [cS, ne_eq, Decidable.not_not] at hc9
          refine WC.seq (WC.region (WL.val rfl rfl rfl rfl (r_move rfl (ev_t rfl)) ?_))
          refine WL.val rfl rfl rfl rfl (r_move rfl (ev_t rfl)) ?_
          refine WL.val rfl rfl rfl rfl (r_build (cs := #[_, _, _]) (vs := [(2, _)]) rfl ⟨⟨rfl, (ev_t rfl)⟩, trivial⟩ plc_81 zero_81 rfl) ?_
          refine WL.cons (SO.alloc rfl rfl rfl rfl (r_buildSlice (cs := #[_, _, _]) (vs := [(0, _)]) rfl ⟨⟨rfl, (ev_t rfl)⟩, trivial⟩ row_53 rfl rfl) ?_)
          intro w2 hu2 hB2 hz2
          have hs2 := hu2.size
          replace hU := hU.trans hu2 (by exact (fun _ _ h => h))
          replace ho := ho.upd hu2 (by intro k hk hl h; exact h)
          refine WL.cons (SO.append ho (show Rd _ _ _ 1 3 [Value.int .u8 0, .string ⟨#[]⟩,   .int .i64 (k : Int)] from tok_rd hB2) row_53 tok_one (le_maxLen (by omega)) (by omega) rfl (ev_t rfl) (ev_t rfl) rfl rfl rfl rfl ?_)
          intro v3 w3 ho2 hu3
          have hs3 := hu3.size
          replace hU := hU.trans hu3 (by (intro k hl hk; first | (have := hG k hk; omega) | (simp only [At, No] at hk; omega)))
          obtain ⟨A3, c3, rfl, hc3⟩ := Own.form ho2
          refine WL.val rfl rfl rfl rfl (r_assign rfl (ev_t rfl)) ?_
          refine WL.val rfl rfl rfl rfl (r_assign rfl ev_c) ?_
          refine WL.val rfl rfl rfl rfl (r_assign rfl ev_c) ?_
          refine WL.nil (WX.keep [(2, _), (3, _), (4, _)] ⟨rfl, rfl, rfl, trivial⟩ (WX.next (WC.ret (WX.thenRet (WX.blockRet (WX.thenRet (WX.blockRet (WX.retE (l := [.tmp 2, .tmp 3, .tmp 4]) (vs := [_, _, _]) rfl ⟨rfl, rfl, rfl, trivial⟩ ?_))))))))
          refine ⟨?_, hU⟩
          obtain rfl : k = s.length := by omega
          rw [List.drop_length] at hskip
          rw [hL, lexF_end hskip]
          have hsz := hU.size
          refine ⟨_, zs ++ [(s.length : Int)], rfl, by simp [hal], ?_, by simp only [List.length_append, List.length_cons, List.length_nil]; omega⟩
          have h9 := (ho2.rd (by omega)).mono (F' := fun k => w.heap.size ≤ k) (fun k hk => by
            rcases hk with hk | hk
            · exact (hG k hk).1
            · have := hk.1; omega)
          rw [List.zip_append hal.symm, List.flatMap_append]
          rw [List.length_append]
          exact h9
        · try simp only [cS, ne_eq, Decidable.not_not] at hc9
          refine WC.skip (WX.next (WC.seq (WC.region (WL.val rfl rfl rfl rfl (r_move rfl (ev_t rfl)) ?_))))
          refine WL.val rfl rfl rfl rfl (r_move rfl (ev_t rfl)) ?_
          refine WL.cons (SO.call (lone_ok (s := s) (i := k) (by omega) (by omega)) rfl body_56 ⟨(ev_t rfl), (ev_t rfl), trivial⟩ rfl rfl rfl rfl ?_)
          rintro v9 w4 ⟨hone, hu4⟩
          have hs4 := hu4.size
          replace hU := hU.trans hu4 (by exact (fun _ _ h => h))
          replace ho := ho.upd hu4 (by intro k hk hl h; exact h)
          obtain ⟨a9, S9, z9, k9, b9, e9, rfl, hone2⟩ : ∃ (a9 : Int) (S9 : ByteArray) (z9 k9 b9 e9 : Int), v9 = .tuple #[.agg #[.int .u8 a9, .string S9, .int .i64 z9], .int .i64 k9, .int .i64 b9, .int .i64 e9] ∧ ((∃ e : Nat, oneF (s.drop k) = .error e ∧ e ≠ 0 ∧ e9 = e) ∨ ∃ (t : Tok) (m : Nat), oneF (s.drop k) = .ok (t, s.drop m) ∧ k < m ∧ m ≤ s.length ∧ a9 = t.k ∧ S9 = ⟨t.s.toArray⟩ ∧ k9 = (m : Int) ∧ e9 = 0) := by
            cases h9 : oneF (s.drop k) with
            | error e =>
              rw [h9] at hone
              obtain ⟨k9, b9, rfl⟩ := hone
              exact ⟨_, _, _, _, _, _, rfl, .inl ⟨e, rfl, by have := oneF_err h9; omega, rfl⟩⟩
            | ok p =>
              obtain ⟨t, q⟩ := p
              rw [h9] at hone
              obtain ⟨m, g1, g2, g3, rfl⟩ := hone
              exact ⟨_, _, _, _, _, _, rfl, .inr ⟨t, m, by rw [g3], g1, g2, rfl, rfl, rfl, rfl⟩⟩
          refine WL.val rfl rfl rfl rfl (r_move rfl (ev_t rfl)) ?_
          refine WL.val rfl rfl rfl rfl (r_extract rfl (ev_t rfl) rfl) ?_
          refine WL.val rfl rfl rfl rfl (r_extract rfl (ev_t rfl) rfl) ?_
          refine WL.val rfl rfl rfl rfl (r_extract rfl (ev_t rfl) rfl) ?_
          refine WL.val rfl rfl rfl rfl (r_extract rfl (ev_t rfl) rfl) ?_
          refine WL.cons (SO.alloc rfl rfl rfl rfl (r_alloc rfl zero_81) ?_)
          intro w5 hu5 hB5 hz5
          have hs5 := hu5.size
          replace hU := hU.trans hu5 (by exact (fun _ _ h => h))
          replace ho := ho.upd hu5 (by intro k hk hl h; exact h)
          refine WL.cons (SO.storeAll (us := [_, _, _]) rfl (ev_t rfl) (ev_t rfl) size_81 hB5 rfl rfl rfl rfl rfl ?_)
          intro w6 hu6 hB5 hz6
          have hs6 := hu6.size
          replace hU := hU.trans hu6 (by (intro k hl hk; (try simp only [At, New, Grow, From, No] at hk ⊢); omega))
          replace ho := ho.upd hu6 (by intro k hk hl h; (have := hG k hk; simp only [At] at h; omega))
          refine WL.val rfl rfl rfl rfl (r_assign rfl (ev_t rfl)) ?_
          refine WL.val rfl rfl rfl rfl (r_assign rfl (ev_t rfl)) ?_
          refine WL.val rfl rfl rfl rfl (r_assign rfl (ev_t rfl)) ?_
          refine WL.nil (WX.keep [(0, _), (5, _), (6, _), (8, _), (9, _), (10, _), (11, _)] ⟨rfl, rfl, rfl, rfl, rfl, rfl, rfl, trivial⟩ ?_)
          have ht := hB5
          refine WX.next (WC.seq (WC.seq (WC.region (WL.val rfl rfl rfl rfl (r_move rfl (ev_t rfl)) ?_))))
          refine WL.val rfl rfl rfl rfl (r_neq rfl (ev_t rfl) ev_c) ?_
          refine WL.nil (WX.keep [(0, _), (5, _), (6, _), (8, _), (9, _), (10, _), (11, _), (45, _)] ⟨rfl, rfl, rfl, rfl, rfl, rfl, rfl, rfl, trivial⟩ (WX.next (WC.cond rfl (ev_t rfl) (fun hc12 => ?_) (fun hc12 => ?_))))
          · try simp only [cS, ne_eq, Decidable.not_not] at hc12
            refine WC.seq (WC.region (WL.val rfl rfl rfl rfl (r_move rfl (ev_t rfl)) ?_))
            refine WL.val rfl rfl rfl rfl (r_move rfl (ev_t rfl)) ?_
            refine WL.val rfl rfl rfl rfl (r_assign rfl ev_c) ?_
            refine WL.val rfl rfl rfl rfl (r_assign rfl (ev_t rfl)) ?_
            refine WL.val rfl rfl rfl rfl (r_assign rfl (ev_t rfl)) ?_
            refine WL.nil (WX.keep [(2, _), (3, _), (4, _)] ⟨rfl, rfl, rfl, trivial⟩ (WX.next (WC.ret (WX.thenRet (WX.blockRet (WX.thenRet (WX.blockRet (WX.retE (l := [.tmp 2, .tmp 3, .tmp 4]) (vs := [_, _, _]) rfl ⟨rfl, rfl, rfl, trivial⟩ ?_))))))))
            refine ⟨?_, hU⟩
            rcases hone2 with ⟨e, h1, h2, rfl⟩ | ⟨t, m, h1, h2, h3, rfl, rfl, rfl, rfl⟩
            · rw [hL, lexF_err hskip (fun h => by have := congrArg List.length h; rw [List.length_drop] at this; simp at this; omega) h1]
              exact ⟨_, h2, rfl⟩
            · omega
          · try simp only [cS, ne_eq, Decidable.not_not] at hc12
            refine WC.skip (WX.next (WC.seq (WC.region ?_)))
            obtain ⟨t, m, h1, h2, h3, rfl, rfl, rfl, rfl⟩ : ∃ (t : Tok) (m : Nat), oneF (s.drop k) = .ok (t, s.drop m) ∧ k < m ∧ m ≤ s.length ∧ a9 = t.k ∧ S9 = ⟨t.s.toArray⟩ ∧ k9 = (m : Int) ∧ e9 = 0 := by
              rcases hone2 with ⟨e, h1, h2, rfl⟩ | h
              · omega
              · exact h
            refine WL.val rfl rfl rfl rfl (r_move rfl (ev_t rfl)) ?_
            refine WL.val rfl rfl rfl rfl (r_field0 rfl (ev_t rfl) fld_81_2) ?_
            refine WL.cons (SO.store rfl (ev_t rfl) (ev_t rfl) size_3 ht rfl rfl rfl rfl rfl ?_)
            intro w7 hu7 ht hz7
            have hs7 := hu7.size
            replace hU := hU.trans hu7 (by (intro k hl hk; (try simp only [At, New, Grow, From, No] at hk ⊢); omega))
            replace ho := ho.upd hu7 (by intro k hk hl h; (have := hG k hk; simp only [At] at h; omega))
            refine WL.nil (WX.keep [(0, _), (5, _), (8, _), (9, _)] ⟨rfl, rfl, rfl, rfl, trivial⟩ (WX.next (WC.seq (WC.region (WL.val rfl rfl rfl rfl (r_move rfl (ev_t rfl)) ?_)))))
            refine WL.val rfl rfl rfl rfl (r_loadAgg (vs := [_, _, _]) rfl (ev_t rfl) agg_81 size_81 (Blk.cellsL ht)) ?_
            refine WL.cons (SO.alloc rfl rfl rfl rfl (r_buildSlice (cs := #[_, _, _]) (vs := [(0, _)]) rfl ⟨⟨rfl, (ev_t rfl)⟩, trivial⟩ row_53 rfl rfl) ?_)
            intro w8 hu8 hB8 hz8
            have hs8 := hu8.size
            replace hU := hU.trans hu8 (by exact (fun _ _ h => h))
            replace ho := ho.upd hu8 (by intro k hk hl h; exact h)
            replace ht := ht.upd hu8 (by exact (fun h => h))
            refine WL.cons (SO.append ho (show Rd _ _ _ 1 3 [Value.int .u8 (t.k : Int), .string ⟨t.s.toArray⟩, .int .i64 (k : Int)] from tok_rd hB8) row_53 tok_one (le_maxLen (by omega)) (by omega) rfl (ev_t rfl) (ev_t rfl) rfl rfl rfl rfl ?_)
            intro v9 w9 ho2 hu9
            have hs9 := hu9.size
            replace hU := hU.trans hu9 (by (intro k hl hk; first | (have := hG k hk; omega) | (simp only [At, No] at hk; omega)))
            replace ht := ht.upd hu9 (by (intro h; have := hG _ h; have := ht.lt; omega))
            obtain ⟨A9, c9, rfl, hc9⟩ := Own.form ho2
            refine WL.val rfl rfl rfl rfl (r_assign rfl (ev_t rfl)) ?_
            refine WL.nil (WX.keep [(0, _), (5, _), (9, _)] ⟨rfl, rfl, rfl, trivial⟩ (WX.next (WC.region (WL.val rfl rfl rfl rfl (r_move rfl (ev_t rfl)) ?_))))
            refine WL.val rfl rfl rfl rfl (r_assign rfl (ev_t rfl)) ?_
            refine WL.nil (WX.keep [(0, _), (5, _), (6, _)] ⟨rfl, rfl, rfl, trivial⟩ (WX.blockNormal (WX.meet [(0, _), (5, _), (6, _)] ⟨rfl, rfl, rfl, trivial⟩ ?_)))
            have e9 : ((ts ++ [t]).zip (zs ++ [(k : Int)])).flatMap tokC = (ts.zip zs).flatMap tokC ++ [Value.int .u8 (t.k : Int), .string ⟨t.s.toArray⟩, .int .i64 (k : Int)] := by
              rw [List.zip_append hal.symm, List.flatMap_append]
              rfl
            rw [← e9] at ho2
            have e8 : (ts ++ [t]).length = ts.length + 1 := by simp
            rw [← e8] at ho2
            refine ⟨s.length - m, by omega, m, ts ++ [t], zs ++ [(k : Int)], _, _, _, h3, rfl, by omega, by simp [hal], hU, ho2, ?_, ?_, by rw [e8]; rfl⟩
            · intro q hq
              rcases hq with hq | hq
              · have := hG q hq; omega
              · have := hq.1; have := hq.2; omega
            · rw [hL, lexF_step hskip (fun h => by have := congrArg List.length h; rw [List.length_drop] at this; simp at this; omega) h1]
              cases lexF (s.drop m) with
              | error e => rfl
              | ok l => simp [Except.map]
end Go.Proofs.YtomkdhkkggbioaaGreatDoor

/-
  How trees of any kind, rows of them that grow, and the reader of tokens lie in memory.
-/
namespace Go.Proofs.YtomkdhkkggbioaaGreatDoor
open Go
set_option linter.unusedSimpArgs false
set_option linter.unusedVariables false

/-- blocks from a on, ahead of b -/
def Bt (a b : Nat) : Nat → Prop := fun k => a ≤ k ∧ k < b
/-- trees that lie in so many cells, and in blocks of F -/
class Tre (α : Type) (sz : outParam Nat) where
  M : World → (Nat → Prop) → List Value → α → Prop
  upd : ∀ {w w' : World} {F S : Nat → Prop} {c : List Value} {x : α}, M w F c x → Upd S w w' → (∀ k, F k → k < w.heap.size → ¬ S k) → M w' F c x
  mono : ∀ {w : World} {F F' : Nat → Prop} {c : List Value} {x : α}, M w F c x → (∀ k, F k → F' k) → M w F' c x
  bound : ∀ {w : World} {F : Nat → Prop} {c : List Value} {x : α}, M w F c x → M w (fun k => F k ∧ k < w.heap.size) c x
  len : ∀ {w : World} {F : Nat → Prop} {c : List Value} {x : α}, M w F c x → c.length = sz
  one : ∀ {w : World} {F : Nat → Prop} {c : List Value} {x : α}, M w F c x → c.all Value.oneCell' = true
def TM {α : Type} {sz : Nat} [Tre α sz] (w : World) (F : Nat → Prop) (c : List Value) (x : α) : Prop := Tre.M w F c x
section
variable {α : Type} {sz : Nat} [Tre α sz] {w w' : World} {F F' S : Nat → Prop} {c : List Value} {x : α}
theorem TM.upd (h : TM w F c x) (hu : Upd S w w') (hn : ∀ k, F k → k < w.heap.size → ¬ S k) : TM w' F c x := Tre.upd h hu hn
theorem TM.updA (h : TM w F c x) (hu : Upd S w w') (hn : ∀ k, F k → k < w.heap.size → ¬ S k := by first | exact (fun _ _ _ h => h) | with_reducible assumption | (intro k hk hl hS; (try simp only [At, From, No, Grow, New, Bt] at hk hS); omega)) : TM w' F c x := h.upd hu hn
theorem TM.mono (h : TM w F c x) (hF : ∀ k, F k → F' k) : TM w F' c x := Tre.mono h hF
theorem TM.bound (h : TM w F c x) : TM w (fun k => F k ∧ k < w.heap.size) c x := Tre.bound h
theorem TM.len (h : TM w F c x) : c.length = sz := Tre.len h
theorem TM.one (h : TM w F c x) : c.all Value.oneCell' = true := Tre.one h
theorem TM.ones (h : TM w F c x) : ∀ u ∈ c, u.oneCell' = true := List.all_eq_true.1 h.one
end

/-- trees in a row -/
def Ms {α : Type} {sz : Nat} [Tre α sz] (w : World) (F : Nat → Prop) (xs : List (List Value)) (ks : List α) : Prop := xs.length = ks.length ∧ ∀ (i : Nat) c k, xs[i]? = some c → ks[i]? = some k → TM w F c k
section
variable {α : Type} {sz : Nat} [Tre α sz] {w w' : World} {F F' S : Nat → Prop} {xs : List (List Value)} {ks : List α} {c : List Value} {x : α}
theorem Ms.nil (w : World) (F : Nat → Prop) : Ms w F [] ([] : List α) := ⟨rfl, fun i c k h => by simp at h⟩
theorem Ms.upd (h : Ms w F xs ks) (hu : Upd S w w') (hn : ∀ k, F k → k < w.heap.size → ¬ S k) : Ms w' F xs ks := ⟨h.1, fun i c k h1 h2 => (h.2 i c k h1 h2).upd hu hn⟩
theorem Ms.updA (h : Ms w F xs ks) (hu : Upd S w w') (hn : ∀ k, F k → k < w.heap.size → ¬ S k := by first | exact (fun _ _ _ h => h) | with_reducible assumption | (intro k hk hl hS; (try simp only [At, From, No, Grow, New, Bt] at hk hS); omega)) : Ms w' F xs ks := h.upd hu hn
theorem Ms.mono (h : Ms w F xs ks) (hF : ∀ k, F k → F' k) : Ms w F' xs ks := ⟨h.1, fun i c k h1 h2 => (h.2 i c k h1 h2).mono hF⟩
theorem Ms.bound (h : Ms w F xs ks) : Ms w (fun k => F k ∧ k < w.heap.size) xs ks := ⟨h.1, fun i c k h1 h2 => (h.2 i c k h1 h2).bound⟩
theorem Ms.snoc (h : Ms w F xs ks) (hc : TM w F c x) : Ms w F (xs ++ [c]) (ks ++ [x]) := by
  refine ⟨by simp [h.1], fun i c' t' h1 h2 => ?_⟩
  rcases Nat.lt_trichotomy i xs.length with hi | hi | hi
  · rw [List.getElem?_append_left hi] at h1
    rw [List.getElem?_append_left (by have := h.1; omega)] at h2
    exact h.2 i c' t' h1 h2
  · subst hi
    rw [List.getElem?_append_right (Nat.le_refl _), Nat.sub_self] at h1
    rw [List.getElem?_append_right (by have := h.1; omega), show xs.length - ks.length = 0 by have := h.1; omega] at h2
    simp only [List.getElem?_cons_zero, Option.some.injEq] at h1 h2
    subst h1 h2
    exact hc
  · rw [List.getElem?_eq_none (by simp; omega)] at h1
    cases h1
theorem Ms.cons (hc : TM w F c x) (h : Ms w F xs ks) : Ms w F (c :: xs) (x :: ks) := by
  refine ⟨by simp [h.1], fun i c' t' h1 h2 => ?_⟩
  cases i with
  | zero => simp only [List.getElem?_cons_zero, Option.some.injEq] at h1 h2; subst h1 h2; exact hc
  | succ i => exact h.2 i c' t' (by simpa using h1) (by simpa using h2)
theorem Ms.one_len (h : Ms w F xs ks) : ∀ x ∈ xs, x.length = sz := fun x hx => by
  obtain ⟨i, hi, rfl⟩ := List.getElem_of_mem hx
  exact (h.2 i _ _ (List.getElem?_eq_getElem hi) (List.getElem?_eq_getElem (by have := h.1; omega))).len
theorem Ms.ones (h : Ms w F xs ks) : ∀ u ∈ xs.flatMap id, u.oneCell' = true := fun u hu => by
  obtain ⟨x, hx, hu⟩ := List.mem_flatMap.1 hu
  obtain ⟨i, hi, rfl⟩ := List.getElem_of_mem hx
  exact (h.2 i _ _ (List.getElem?_eq_getElem hi) (List.getElem?_eq_getElem (by have := h.1; omega))).ones u hu
theorem Ms.get (h : Ms w F xs ks) {i : Nat} {k : α} (hk : ks[i]? = some k) : ∃ c, xs[i]? = some c ∧ TM w F c k := by
  have hi := (List.getElem?_eq_some_iff.1 hk).1
  have h1 : xs[i]? = some (xs[i]'(by have := h.1; omega)) := List.getElem?_eq_getElem _
  exact ⟨_, h1, h.2 i _ _ h1 hk⟩
end
theorem flat_getN {n : Nat} : ∀ {X : List (List Value)} {i j : Nat} {x : List Value} {u : Value}, (∀ x ∈ X, x.length = n) → X[i]? = some x → x[j]? = some u → (X.flatMap id)[i * n + j]? = some u
  | [], _, _, _, _, _, h, _ => by simp at h
  | a :: l, 0, j, b, u, hl, h, hu => by
    simp only [List.getElem?_cons_zero, Option.some.injEq] at h
    subst h
    have hj : j < a.length := (List.getElem?_eq_some_iff.1 hu).1
    rw [List.flatMap_cons, Nat.zero_mul, Nat.zero_add, id, List.getElem?_append_left hj]
    exact hu
  | a :: l, i + 1, j, b, u, hl, h, hu => by
    have h8 := hl a (by simp)
    rw [List.flatMap_cons, id, List.getElem?_append_right (by rw [Nat.add_mul]; omega), h8, show (i + 1) * n + j - n = i * n + j by rw [Nat.add_mul]; omega]
    exact flat_getN (fun x hx => hl x (by simp [hx])) (i := i) (by simpa using h) hu

/-- a row of trees that is owned: its block is one of G, the trees' blocks are others; all of them from B on -/
def Acc {α : Type} {sz : Nat} [Tre α sz] (T : TypeId) (w : World) (B : Nat) (G : Nat → Prop) (v : Value) (ks : List α) : Prop :=
  ∃ (F : Nat → Prop) (xs : List (List Value)), Own w G T sz v ks.length (xs.flatMap id) ∧ Ms w F xs ks ∧ (∀ k, F k → ¬ G k ∧ B ≤ k ∧ k < w.heap.size) ∧ ∀ k, G k → B ≤ k ∧ k < w.heap.size
section
variable {α : Type} {sz : Nat} [Tre α sz] {T : TypeId} {w w' : World} {B : Nat} {F F' S G : Nat → Prop} {v : Value} {ks : List α} {c : List Value} {x : α}
theorem Acc.nil (w : World) (B : Nat) : Acc T w B No (.slice none 0 0) ([] : List α) := ⟨No, [], Own.nil _ _ _ _, Ms.nil _ _, fun k h => h.elim, fun k h => h.elim⟩
theorem Acc.upd (h : Acc T w B G v ks) (hu : Upd S w w') (hn : ∀ k, B ≤ k → k < w.heap.size → ¬ S k) : Acc T w' B G v ks := by
  obtain ⟨F, xs, h1, h2, h3, h4⟩ := h
  have hs := hu.size
  exact ⟨F, xs, h1.upd hu fun k hk hl => hn k (h4 k hk).1 hl, h2.upd hu fun k hk hl => hn k (h3 k hk).2.1 hl, fun k hk => by have := h3 k hk; exact ⟨this.1, this.2.1, by omega⟩, fun k hk => by have := h4 k hk; omega⟩
theorem Acc.updA (h : Acc T w B G v ks) (hu : Upd S w w') (hn : ∀ k, B ≤ k → k < w.heap.size → ¬ S k := by first | exact (fun _ _ _ h => h) | with_reducible assumption | (intro k hk hl hS; (try simp only [At, From, No, Grow, New, Bt] at hk hS); omega)) : Acc T w' B G v ks := h.upd hu hn
theorem Acc.form (h : Acc T w B G v ks) : ∃ A c, v = .slice A ks.length c ∧ ks.length ≤ c := by
  obtain ⟨F, xs, h1, h2, h3, h4⟩ := h
  exact h1.form
theorem Acc.lt (h : Acc T w B G v ks) : ∀ k, G k → B ≤ k ∧ k < w.heap.size := by
  obtain ⟨F, xs, h1, h2, h3, h4⟩ := h
  exact h4
/-- what it is when it is done -/
theorem Acc.done (h : Acc T w B G v ks) (hm : ks.length ≤ 1000000) : ∃ xs, Rd w (Bt B w.heap.size) v ks.length sz (xs.flatMap id) ∧ Ms w (Bt B w.heap.size) xs ks := by
  obtain ⟨F, xs, h1, h2, h3, h4⟩ := h
  exact ⟨xs, (h1.rd (by omega)).mono fun k hk => h4 k hk, h2.mono fun k hk => (h3 k hk).2⟩
end
section
variable {P : Program} {N : Nat} {ops : Array Oper} {Q : Exit → Act → World → Prop} {o : Oper} {E : Env} {w : World} {d : Nat} {v v2 : Value} {K : Env → World → Prop} {F F2 F3 G : Nat → Prop} {α : Type} {sz : Nat} [Tre α sz] {T : TypeId} {B : Nat} {ks : List α} {c : List Value} {a : α}
theorem SO.appendA {x y : Operand} {t : TypeId} {by_ : Nat} {z : Value} (ha : Acc T w B G v ks) (hc : TM w F2 c a) (hd2 : ∀ k, F2 k → ¬ G k ∧ B ≤ k) (hsrc : Rd w F3 v2 1 sz c) (ht : RowT P t T sz by_ z) (hl : ks.length ≤ 1000000) (hby : Nat.ble by_ 1000 = true)
    (hop : o.op = .call { callee := .builtin .append, args := #[x, y], argTypes := #[t, t] }) (hx : Env.ev E x = v) (hy : Env.ev E y = v2)
    (hd : o.dst = some d) (hN : Nat.blt d N = true) (ho : opsOK E o = true) (hw : wantedE ops E o = some true)
    (k : ∀ v' w', Acc T w' B (Grow G w w') v' (ks ++ [a]) → Upd G w w' → B ≤ w.heap.size → K ((d, v') :: E) w') (hB : B ≤ w.heap.size) : SO P N ops Q o K E w := by
  obtain ⟨F, xs, h1, h2, h3, h4⟩ := ha
  have hby9 := Nat.ble_eq.mp hby
  refine SO.append h1 hsrc ht hc.ones (le_maxLen (by omega)) (Nat.le_trans (Nat.mul_le_mul_left _ hby9) (by omega)) hop hx hy hd hN ho hw fun v' w' hg hu => k v' w' ?_ hu hB
  have hs := hu.size
  have hfin : Ms w (fun k => (F k ∨ F2 k) ∧ k < w.heap.size) (xs ++ [c]) (ks ++ [a]) := ((h2.mono fun k hk => .inl hk).snoc (hc.mono fun k hk => .inr hk)).bound
  refine ⟨_, xs ++ [c], by rw [List.length_append, List.flatMap_append]; simpa using hg, hfin.upd hu fun k hk hl hS => ?_, fun k hk => ⟨fun hG => ?_, ?_, by omega⟩, fun k hk => ?_⟩
  · rcases hk.1 with h | h
    · exact (h3 k h).1 hS
    · exact (hd2 k h).1 hS
  · rcases hG with h | h
    · rcases hk.1 with h' | h'
      · exact (h3 k h').1 h
      · exact (hd2 k h').1 h
    · omega
  · rcases hk.1 with h | h
    · exact (h3 k h).2.1
    · exact (hd2 k h).2
  · rcases hk with h | h
    · have := h4 k h; omega
    · omega
end

/-! the kinds of trees -/
instance : Tre (List UInt8) 1 where
  M := fun w F c s => c = [Sv s]
  upd := fun h _ _ => h
  mono := fun h _ => h
  bound := fun h => h
  len := fun h => by rw [h]; rfl
  one := fun h => by rw [h]; rfl
theorem TR.upd' {w w' : World} {F S : Nat → Prop} {c : List Value} {t : Tr} (h : TR w F c t) (hu : Upd S w w') (hn : ∀ k, F k → k < w.heap.size → ¬ S k) : TR w' F c t := by
  induction h with
  | mk hr hl hv hm hk ih => exact .mk (hr.upd hu hn) hl hv hm fun i c k hc hk' => ih i c k hc hk'
theorem TR.mono {w : World} {F F' : Nat → Prop} {c : List Value} {t : Tr} (h : TR w F c t) (hF : ∀ k, F k → F' k) : TR w F' c t := by
  induction h with
  | mk hr hl hv hm hk ih => exact .mk (hr.mono hF) hl hv hm fun i c k hc hk' => ih i c k hc hk'
theorem TR.bound {w : World} {F : Nat → Prop} {c : List Value} {t : Tr} (h : TR w F c t) : TR w (fun k => F k ∧ k < w.heap.size) c t := by
  induction h with
  | mk hr hl hv hm hk ih => exact .mk hr.bound hl hv hm fun i c k hc hk' => ih i c k hc hk'
instance : Tre Tr 3 where
  M := TR
  upd := TR.upd'
  mono := TR.mono
  bound := TR.bound
  len := TR.len
  one := TR.one
inductive PtM (w : World) (F : Nat → Prop) : List Value → Pt → Prop
  | mk {k : Nat} {s : List UInt8} {n : Int} {ks : List Pt} {kv : Value} {xs : List (List Value)} : Rd w F kv ks.length 4 (xs.flatMap id) → xs.length = ks.length → inK .i64 n → (∀ (i : Nat) c p, xs[i]? = some c → ks[i]? = some p → PtM w F c p) → PtM w F [.int .u8 (k : Int), Sv s, .int .i64 n, kv] (.mk k s n ks)
theorem PtM.upd {w w' : World} {F S : Nat → Prop} {c : List Value} {t : Pt} (h : PtM w F c t) (hu : Upd S w w') (hn : ∀ k, F k → k < w.heap.size → ¬ S k) : PtM w' F c t := by
  induction h with
  | mk hr hl hv hk ih => exact .mk (hr.upd hu hn) hl hv fun i c k hc hk' => ih i c k hc hk'
theorem PtM.mono {w : World} {F F' : Nat → Prop} {c : List Value} {t : Pt} (h : PtM w F c t) (hF : ∀ k, F k → F' k) : PtM w F' c t := by
  induction h with
  | mk hr hl hv hk ih => exact .mk (hr.mono hF) hl hv fun i c k hc hk' => ih i c k hc hk'
theorem PtM.bound {w : World} {F : Nat → Prop} {c : List Value} {t : Pt} (h : PtM w F c t) : PtM w (fun k => F k ∧ k < w.heap.size) c t := by
  induction h with
  | mk hr hl hv hk ih => exact .mk hr.bound hl hv fun i c k hc hk' => ih i c k hc hk'
instance : Tre Pt 4 where
  M := PtM
  upd := PtM.upd
  mono := PtM.mono
  bound := PtM.bound
  len := fun h => by cases h; rfl
  one := fun h => by
    cases h with
    | mk hr _ _ _ => obtain ⟨A, c, rfl, _⟩ := hr.slice_form; rfl
inductive ExM (w : World) (F : Nat → Prop) : List Value → Ex → Prop
  | mk {k : Nat} {s : List UInt8} {n : Int} {rc : Bool} {ps : List Pt} {ks : List Ex} {pv kv : Value} {ys xs : List (List Value)} : Rd w F pv ps.length 4 (ys.flatMap id) → Ms w F ys ps → Rd w F kv ks.length 6 (xs.flatMap id) → xs.length = ks.length → inK .i64 n → (∀ (i : Nat) c p, xs[i]? = some c → ks[i]? = some p → ExM w F c p) →
      ExM w F [.int .u8 (k : Int), Sv s, .int .i64 n, .bool rc, pv, kv] (.mk k s n rc ps ks)
theorem ExM.upd {w w' : World} {F S : Nat → Prop} {c : List Value} {t : Ex} (h : ExM w F c t) (hu : Upd S w w') (hn : ∀ k, F k → k < w.heap.size → ¬ S k) : ExM w' F c t := by
  induction h with
  | mk hp hps hr hl hv hk ih => exact .mk (hp.upd hu hn) (hps.upd hu hn) (hr.upd hu hn) hl hv fun i c k hc hk' => ih i c k hc hk'
theorem ExM.mono {w : World} {F F' : Nat → Prop} {c : List Value} {t : Ex} (h : ExM w F c t) (hF : ∀ k, F k → F' k) : ExM w F' c t := by
  induction h with
  | mk hp hps hr hl hv hk ih => exact .mk (hp.mono hF) (hps.mono hF) (hr.mono hF) hl hv fun i c k hc hk' => ih i c k hc hk'
theorem ExM.bound {w : World} {F : Nat → Prop} {c : List Value} {t : Ex} (h : ExM w F c t) : ExM w (fun k => F k ∧ k < w.heap.size) c t := by
  induction h with
  | mk hp hps hr hl hv hk ih => exact .mk hp.bound hps.bound hr.bound hl hv fun i c k hc hk' => ih i c k hc hk'
instance : Tre Ex 6 where
  M := ExM
  upd := ExM.upd
  mono := ExM.mono
  bound := ExM.bound
  len := fun h => by cases h; rfl
  one := fun h => by
    cases h with
    | mk hp _ hr _ _ _ => obtain ⟨A, c, rfl, _⟩ := hr.slice_form; obtain ⟨A2, c2, rfl, _⟩ := hp.slice_form; rfl
def CtM (w : World) (F : Nat → Prop) (c : List Value) (x : Ct) : Prop := ∃ t, c = [Sv x.s, .bool x.h] ++ t ∧ TR w F t x.t
instance : Tre Ct 5 where
  M := CtM
  upd := fun ⟨t, h, ht⟩ hu hn => ⟨t, h, ht.upd' hu hn⟩
  mono := fun ⟨t, h, ht⟩ hF => ⟨t, h, ht.mono hF⟩
  bound := fun ⟨t, h, ht⟩ => ⟨t, h, ht.bound⟩
  len := fun ⟨t, h, ht⟩ => by rw [h, List.length_append, ht.len]; rfl
  one := fun ⟨t, h, ht⟩ => by rw [h, List.all_append, ht.one]; rfl
def DcM (w : World) (F : Nat → Prop) (c : List Value) (x : Dc) : Prop := ∃ (e : List Value) (cv : Value) (xs : List (List Value)), c = [.int .u8 (x.k : Int), Sv x.s, .bool x.rc] ++ e ++ [.int .i64 (x.n : Int), cv] ∧ ExM w F e x.e ∧ Rd w F cv x.cs.length 5 (xs.flatMap id) ∧ Ms w F xs x.cs ∧ x.n ≤ 1000000
instance : Tre Dc 11 where
  M := DcM
  upd := fun ⟨e, cv, xs, h, he, hr, hm, hn9⟩ hu hn => ⟨e, cv, xs, h, he.upd hu hn, hr.upd hu hn, hm.upd hu hn, hn9⟩
  mono := fun ⟨e, cv, xs, h, he, hr, hm, hn9⟩ hF => ⟨e, cv, xs, h, he.mono hF, hr.mono hF, hm.mono hF, hn9⟩
  bound := fun ⟨e, cv, xs, h, he, hr, hm, hn9⟩ => ⟨e, cv, xs, h, he.bound, hr.bound, hm.bound, hn9⟩
  len := fun ⟨e, cv, xs, h, he, hr, hm, _⟩ => by have := (Tre.len (α := Ex) he); rw [h]; simp [this]
  one := fun ⟨e, cv, xs, h, he, hr, hm, _⟩ => by
    have := (Tre.one (α := Ex) he)
    obtain ⟨A, c, rfl, _⟩ := hr.slice_form
    rw [h, List.all_append, List.all_append, this]
    rfl

/-! the reader -/
/-- what is so of each token that was read -/
def TokG (t : Tok) : Prop := t.k ≤ 7 ∧ t.s.length ≤ 2000 ∧ (t.k = 4 → t.s.all dgB = true ∧ (numF 0 t.s).isSome = true)
/-- the tokens from here on: the last one is the end, and it is the only one -/
def EndT (l : List Tok) : Prop := ∃ l' t, l = l' ++ [t] ∧ t.k = 0
structure PS (w : World) (r B0 : Nat) (A : List Tok) (s : St) : Prop where
  mem : ∃ (F : Nat → Prop) (tv : Value) (zs : List Int) (bad : Int), Blk w r #[tv, .int .i64 ((A.length : Int) - (s.ts.length : Int)), .int .i64 (s.d : Int), .int .i64 bad, .int .i64 (s.e : Int)] 58 ∧ zs.length = A.length ∧ Rd w F tv A.length 3 ((A.zip zs).flatMap tokC) ∧ ∀ k, F k → k ≠ r ∧ k < B0
  lt : r < B0
  le : B0 ≤ w.heap.size
  suf : s.ts <:+ A
  fin : EndT s.ts
  good : ∀ t ∈ A, TokG t
  lenA : A.length ≤ 2001
  dle : s.d ≤ 52
  ele : s.e ≤ 17
theorem PS.upd {w w' : World} {r B0 : Nat} {A : List Tok} {s : St} {S : Nat → Prop} (h : PS w r B0 A s) (hu : Upd S w w') (hn : ∀ k, k < B0 → ¬ S k) : PS w' r B0 A s := by
  obtain ⟨F, tv, zs, bad, h1, h2, h3, h4⟩ := h.mem
  have := hu.size
  have := h.le
  exact { h with mem := ⟨F, tv, zs, bad, h1.upd hu (hn r h.lt), h2, h3.upd hu fun k hk _ => hn k (h4 k hk).2, h4⟩, le := by omega }
theorem PS.updA {w w' : World} {r B0 : Nat} {A : List Tok} {s : St} {S : Nat → Prop} (h : PS w r B0 A s) (hu : Upd S w w') (hn : ∀ k, k < B0 → ¬ S k := by first | exact (fun _ _ h => h) | with_reducible assumption | (intro k hk hS; (try simp only [At, From, No, Grow, New, Bt] at hS); omega)) : PS w' r B0 A s := h.upd hu hn
theorem EndT.pos {l : List Tok} (h : EndT l) : 0 < l.length := by obtain ⟨l', t, rfl, _⟩ := h; simp
theorem EndT.tail {l : List Tok} (h : EndT l) (hk : (l.headD ⟨0, []⟩).k ≠ 0) : EndT l.tail := by
  obtain ⟨l', t, rfl, h0⟩ := h
  cases l' with
  | nil => exact absurd h0 hk
  | cons a r => exact ⟨r, t, rfl, h0⟩
theorem PS.I {w : World} {r B0 : Nat} {A : List Tok} {s : St} (h : PS w r B0 A s) : 0 < s.ts.length ∧ s.ts.length ≤ A.length ∧ A.length ≤ 2001 ∧ r < B0 ∧ B0 ≤ w.heap.size := ⟨h.fin.pos, h.suf.length_le, h.lenA, h.lt, h.le⟩
theorem St.hd_get {s : St} {A : List Tok} (h1 : s.ts <:+ A) (h2 : 0 < s.ts.length) : A[A.length - s.ts.length]? = some s.hd := by
  obtain ⟨p, rfl⟩ := h1
  rw [List.length_append, Nat.add_sub_cancel, List.getElem?_append_right (Nat.le_refl _), Nat.sub_self]
  unfold St.hd
  cases hs : s.ts with
  | nil => rw [hs] at h2; simp at h2
  | cons a l => rfl
theorem PS.hdG {w : World} {r B0 : Nat} {A : List Tok} {s : St} (h : PS w r B0 A s) : TokG s.hd := h.good _ (List.mem_of_getElem? (St.hd_get h.suf h.fin.pos))
theorem tokC_len (p : Tok × Int) : (tokC p).length = 3 := rfl
end Go.Proofs.YtomkdhkkggbioaaGreatDoor

/-
 The reference's parser: the reader's small steps.
-/
namespace Go.Proofs.YtomkdhkkggbioaaGreatDoor
open Go
set_option linter.unusedSimpArgs false
set_option linter.unusedVariables false

theorem toks_get {A : List Tok} {zs : List Int} {i : Nat} {t : Tok} (hz : zs.length = A.length) (ht : A[i]? = some t) : ∃ z, ∀ j u, [Value.int .u8 (t.k : Int), Sv t.s, .int .i64 z][j]? = some u → ((A.zip zs).flatMap tokC)[i * 3 + j]? = some u := by
 have hi := (List.getElem?_eq_some_iff.1 ht).1
 have hz9 : zs[i]? = some (zs[i]'(by omega)) := List.getElem?_eq_getElem _
 exact ⟨zs[i]'(by omega), fun j u hu => flatMap_get tokC_len (a := (t, zs[i]'(by omega))) (by rw [List.getElem?_zip_eq_some]; exact ⟨ht, hz9⟩) j u hu⟩
/-- the reader opened: its block, its tokens' row -/
theorem PS.open {w : World} {r B0 : Nat} {A : List Tok} {s : St} (h : PS w r B0 A s) : ∃ (F : Nat → Prop) (b off c : Nat) (zs : List Int) (bad : Int), Blk w r #[.slice (some ⟨b, off, none⟩) A.length c, .int .i64 ((A.length : Int) - (s.ts.length : Int)), .int .i64 (s.d : Int), .int .i64 bad, .int .i64 (s.e : Int)] 58 ∧ zs.length = A.length ∧ Rd w F (.slice (some ⟨b, off, none⟩) A.length c) A.length 3 ((A.zip zs).flatMap tokC) ∧ (∀ k, F k → k ≠ r ∧ k < B0) ∧ (0 < s.ts.length ∧ s.ts.length ≤ A.length ∧ A.length ≤ 2001 ∧ r < B0 ∧ B0 ≤ w.heap.size) := by
 obtain ⟨F, tv, zs, bad, h1, h2, h3, h4⟩ := h.mem
 have hI := h.I
 obtain ⟨A9, c, rfl, hc⟩ := h3.slice_form
 obtain ⟨b, off, rfl, _⟩ := h3.open (by omega)
 exact ⟨F, b, off, c, zs, bad, h1, h2, h3, h4, hI⟩
/-- and shut again, in another state -/
theorem PS.shut {w w' : World} {r B0 : Nat} {A : List Tok} {s s' : St} {F : Nat → Prop} {tv : Value} {zs : List Int} {bad : Int} (h : PS w r B0 A s) (hu : Upd (At r) w w') (hb : Blk w' r #[tv, .int .i64 ((A.length : Int) - (s'.ts.length : Int)), .int .i64 (s'.d : Int), .int .i64 bad, .int .i64 (s'.e : Int)] 58) (hz : zs.length = A.length) (hr : Rd w' F tv A.length 3 ((A.zip zs).flatMap tokC)) (hF : ∀ k, F k → k ≠ r ∧ k < B0) (hs : s'.ts <:+ A) (he : EndT s'.ts) (hd : s'.d ≤ 52) (h17 : s'.e ≤ 17) : PS w' r B0 A s' :=
 ⟨⟨F, tv, zs, bad, hb, hz, hr, hF⟩, h.lt, Nat.le_trans h.le hu.size, hs, he, h.good, h.lenA, hd, h17⟩
theorem isQ_kind {s : St} {u : List UInt8} (h : isQ s u = true) : s.e = 0 ∧ s.hd.s = u ∧ s.hd.k ≠ 0 := by
 simp only [isQ, Bool.and_eq_true, Bool.or_eq_true, decide_eq_true_eq] at h
 refine ⟨h.1, h.2.1, ?_⟩
 rcases h.2.2 with h | h <;> rw [h] <;> decide
theorem kdQ_kind {s : St} {k : Nat} (h : kdQ s k = true) : s.e = 0 ∧ s.hd.k = k := by simpa only [kdQ, Bool.and_eq_true, decide_eq_true_eq] using h
/-- one token further -/
theorem PS.tail {w : World} {r B0 : Nat} {A : List Tok} {s : St} (h : PS w r B0 A s) (hk : s.hd.k ≠ 0) : (tlQ s).ts <:+ A ∧ EndT (tlQ s).ts ∧ (tlQ s).ts.length + 1 = s.ts.length := by
 refine ⟨(List.tail_suffix _).trans h.suf, h.fin.tail hk, ?_⟩
 have := h.fin.pos
 simp only [tlQ, List.length_tail]
 omega
theorem fault_ok {w : World} {r B0 : Nat} {A : List Tok} {s : St} {i : Int} {e : Nat} (hp : PS w r B0 A s) (hi : 0 ≤ i ∧ i < A.length) (he : e ≤ 17) : Ret Tryz.prog 35 #[.pointer (some ⟨r, 0, none⟩), .int .i64 i, .int .i64 (e : Int)] w fun v w' => PS w' r B0 A (fauQ s e) ∧ Upd (At r) w w' := by
 obtain ⟨F, b, off, c, zs, bad, hb, hz, hr, hF, hI⟩ := hp.open
 obtain ⟨j, rfl⟩ : ∃ j : Nat, i = (j : Int) := ⟨i.toNat, by omega⟩
 have hj : j < A.length := by omega
 obtain ⟨z, hz9⟩ := toks_get hz (List.getElem?_eq_getElem hj)
 have hpe := hp.ele
 refine enterRet (vs := [_, _, _]) (N := 26) Tryz.func35 rfl rfl rfl ?_
 have hU := Upd.refl (At r) w
 refine WC.keep [(0, _), (1, _), (2, _)] ⟨rfl, rfl, rfl, trivial⟩ (WC.seq (WC.region (WL.val rfl rfl rfl rfl (r_move rfl (ev_t rfl)) ?_)))
 refine WL.val rfl rfl rfl rfl (r_nilCheck rfl (ev_t rfl)) ?_
 refine WL.val rfl rfl rfl rfl (r_field0 rfl (ev_t rfl) fld_58_4) ?_
 refine WL.val rfl rfl rfl rfl (r_load rfl (ev_t rfl) flat_3 (Blk.cell hb rfl)) ?_
 refine WL.val rfl rfl rfl rfl (r_eql rfl (ev_t rfl) ev_c) ?_
 refine WL.nil (WX.keep [(0, _), (1, _), (2, _), (10, _)] ⟨rfl, rfl, rfl, rfl, trivial⟩ (WX.next (WC.cond rfl (ev_t rfl) (fun hc0 => ?_) (fun hc0 => ?_))))
 ·try simp only [cS, ne_eq, Decidable.not_not] at hc0
  refine WC.seq (WC.region (WL.val rfl rfl rfl rfl (r_move rfl (ev_t rfl)) ?_))
  refine WL.val rfl rfl rfl rfl (r_move rfl (ev_t rfl)) ?_
  refine WL.val rfl rfl rfl rfl (r_nilCheck rfl (ev_t rfl)) ?_
  refine WL.val rfl rfl rfl rfl (r_field0 rfl (ev_t rfl) fld_58_0) ?_
  refine WL.val rfl rfl rfl rfl (r_load rfl (ev_t rfl) flat_53 (Blk.cell hb rfl)) ?_
  refine WL.val rfl rfl rfl rfl (r_move rfl (ev_t rfl)) ?_
  refine WL.val rfl rfl rfl rfl (r_indexAddr rfl (ev_t rfl) (ev_t rfl) elem_53 size_81 (by omega) (by omega)) ?_
  refine WL.val rfl rfl rfl rfl (r_fieldAt rfl (ev_t rfl) fld_81_2) ?_
  refine WL.val rfl rfl rfl rfl (r_load rfl (ev_t rfl) flat_3 (hr.cell (j := j * 3 + 2) (by omega) (hz9 2 _ rfl))) ?_
  refine WL.val rfl rfl rfl rfl (r_nilCheck rfl (ev_t rfl)) ?_
  refine WL.val rfl rfl rfl rfl (r_field0 rfl (ev_t rfl) fld_58_3) ?_
  refine WL.cons (SO.store rfl (ev_t rfl) (ev_t rfl) size_3 hb rfl rfl rfl rfl rfl ?_)
  intro w1 hu1 hb hz1
  have hs1 := hu1.size
  replace hU := hU.transA hu1
  replace hr := hr.upd hu1 (fun k hk hl hS => (hF k hk).1 hS)
  refine WL.nil (WX.keep [(0, _), (2, _)] ⟨rfl, rfl, trivial⟩ (WX.next (WC.region (WL.val rfl rfl rfl rfl (r_move rfl (ev_t rfl)) ?_))))
  refine WL.val rfl rfl rfl rfl (r_move rfl (ev_t rfl)) ?_
  refine WL.val rfl rfl rfl rfl (r_nilCheck rfl (ev_t rfl)) ?_
  refine WL.val rfl rfl rfl rfl (r_field0 rfl (ev_t rfl) fld_58_4) ?_
  refine WL.cons (SO.store rfl (ev_t rfl) (ev_t rfl) size_3 hb rfl rfl rfl rfl rfl ?_)
  intro w2 hu2 hb hz2
  have hs2 := hu2.size
  replace hU := hU.transA hu2
  replace hr := hr.upd hu2 (fun k hk hl hS => (hF k hk).1 hS)
  refine WL.nil (WX.keep [] trivial (WX.endE (l := []) (vs := []) rfl trivial ?_))
  refine ⟨?_, hU⟩
  have h0 : s.e = 0 := by omega
  unfold fauQ
  rw [if_pos h0]
  exact hp.shut hU hb hz hr hF hp.suf hp.fin hp.dle he
 ·try simp only [cS, ne_eq, Decidable.not_not] at hc0
  refine WC.skip (WX.endE (l := []) (vs := []) rfl trivial ?_)
  refine ⟨?_, hU⟩
  have h0 : ¬ s.e = 0 := by omega
  unfold fauQ
  rw [if_neg h0]
  exact hp.shut hU hb hz hr hF hp.suf hp.fin hp.dle hp.ele
theorem is_ok {w : World} {r B0 : Nat} {A : List Tok} {s : St} {u : List UInt8} (hp : PS w r B0 A s) : Ret Tryz.prog 34 #[.pointer (some ⟨r, 0, none⟩), Sv u] w fun v w' => v = .bool (isQ s u) ∧ Upd No w w' := by
 obtain ⟨F, b, off, c, zs, bad, hb, hz, hr, hF, hI⟩ := hp.open
 obtain ⟨z, hz9⟩ := toks_get hz (St.hd_get hp.suf hp.fin.pos)
 have hI9 : (A.length : Int) - (s.ts.length : Int) = ((A.length - s.ts.length : Nat) : Int) := by omega
 rw [hI9] at hb
 generalize A.length - s.ts.length = j at *
 refine enterRet (vs := [_, _]) (N := 37) Tryz.func34 rfl rfl rfl ?_
 have hU := Upd.refl No w
 refine WC.keep [(0, _), (1, _)] ⟨rfl, rfl, trivial⟩ (WC.seq (WC.region (WL.val rfl rfl rfl rfl (r_assign rfl ev_c) ?_)))
 refine WL.nil (WX.keep [(0, _), (1, _)] ⟨rfl, rfl, trivial⟩ (WX.next (WC.seq (WC.draws' (fun u0_ u1_ => Upd No u0_ u1_) (fun j => [0, 0, 0, 0, 0, 0, 0, 0, 0, 0, 1, 2].getD j 0) (.calm 0 (.calm 1 (.calm 2 (.calm 4 (.calm 5 (.calm 6 (.held 3 (.held 7 (.calm 8 (.held 9 (.one 10 (.one 11 (.done))))))))))))) mixed (by kernel_rfl) (by repeat (first | with_reducible exact Deaf.body | with_reducible apply Deaf.then)) ?_))))
 intro w1 hu1
 have hz1 := congrArg Array.size hu1.2.2.2
 replace hu1 := Upd.of_draw hu1
 have hs1 := hu1.size
 replace hU := hU.transA hu1
 replace hb := hb.updA hu1
 replace hr := hr.upd hu1 (fun k hk hl hS => by exact hS)
 have hS1 := Upd.refl No w1
 refine WN.calm _ rfl rfl rfl rfl rfl (fun _ => r_move rfl (ev_t rfl)) ?_
 refine WN.calm _ rfl rfl rfl rfl rfl (fun _ => r_nilCheck rfl (ev_t rfl)) ?_
 refine WN.calm _ rfl rfl rfl rfl rfl (fun _ => r_field0 rfl (ev_t rfl) fld_58_0) ?_
 refine WN.calm _ rfl rfl rfl rfl rfl (fun _ => r_move rfl (ev_t rfl)) ?_
 refine WN.calm _ rfl rfl rfl rfl rfl (fun _ => r_nilCheck rfl (ev_t rfl)) ?_
 refine WN.calm _ rfl rfl rfl rfl rfl (fun _ => r_field0 rfl (ev_t rfl) fld_58_1) ?_
 refine WN.held _ rfl rfl rfl rfl rfl hS1 (fun w' hS => r_load rfl (ev_t rfl) flat_53 (Blk.cell (hb.upd hS (fun h => h)) rfl)) ?_
 refine WN.held _ rfl rfl rfl rfl rfl hS1 (fun w' hS => r_load rfl (ev_t rfl) flat_3 (Blk.cell (hb.upd hS (fun h => h)) rfl)) ?_
 refine WN.calm _ rfl rfl rfl rfl rfl (fun _ => r_indexAddr rfl (ev_t rfl) (ev_t rfl) elem_53 size_81 (by omega) (by omega)) ?_
 refine WN.held _ rfl rfl rfl rfl rfl hS1 (fun w' hS => r_loadAgg (vs := [_, _, _]) rfl (ev_t rfl) agg_81 size_81 (Rd.cellsL (us := [.int .u8 (s.hd.k : Int), Sv s.hd.s, .int .i64 z]) (hr.upd hS (fun _ _ _ h => h)) (i := j * 3) (by omega) (fun q v hv => hz9 q v hv))) ?_
 refine WN.step _ rfl (SO.alloc rfl rfl rfl rfl (r_alloc rfl zero_81) ?_)
 intro w2 hu2 hB2 hz2
 have hs2 := hu2.size
 replace hS1 := Upd.transA hS1 hu2
 replace hU := hU.transA hu2
 replace hb := hb.updA hu2
 replace hr := hr.upd hu2 (fun k hk hl hS => by exact hS)
 refine ⟨hS1, ?_⟩
 refine WN.step _ rfl (SO.storeAll (us := [_, _, _]) rfl (ev_t rfl) (ev_t rfl) size_81 hB2 rfl rfl rfl rfl rfl ?_)
 intro w3 hu3 hB2 hz3
 have hs3 := hu3.size
 try replace hS1 := Upd.transA hS1 hu3
 replace hU := hU.transA hu3
 replace hb := hb.updA hu3
 replace hr := hr.upd hu3 (fun k hk hl hS => by (simp only [At] at hS; have := (hF k hk).2; omega))
 refine ⟨trivial, ?_⟩
 refine WN.done ?_
 refine WX.keep [(0, _), (1, _), (5, _)] ⟨rfl, rfl, rfl, trivial⟩ ?_
 have ht := hB2
 refine WX.next (WC.seq (WC.region (WL.val rfl rfl rfl rfl (r_move rfl (ev_t rfl)) ?_)))
 refine WL.val rfl rfl rfl rfl (r_nilCheck rfl (ev_t rfl)) ?_
 refine WL.val rfl rfl rfl rfl (r_field0 rfl (ev_t rfl) fld_58_4) ?_
 refine WL.val rfl rfl rfl rfl (r_load rfl (ev_t rfl) flat_3 (Blk.cell hb rfl)) ?_
 refine WL.val rfl rfl rfl rfl (r_eql rfl (ev_t rfl) ev_c) ?_
 refine WL.val rfl rfl rfl rfl (r_move rfl (ev_t rfl)) ?_
 refine WL.cases 21 rfl (fun hb2_5 => ?_) (fun hb2_5 => ?_)
 ·try simp only [cS, ne_eq, Decidable.not_not] at hb2_5
  refine WL.val rfl rfl rfl rfl (r_field0 rfl (ev_t rfl) fld_81_1) ?_
  refine WL.val rfl rfl rfl rfl (r_load rfl (ev_t rfl) flat_9 (Blk.cell ht rfl)) ?_
  refine WL.val rfl rfl rfl rfl (r_move rfl (ev_t rfl)) ?_
  refine WL.val rfl rfl rfl rfl (r_eqlStrL rfl (ev_t rfl) (ev_t rfl)) ?_
  refine WL.val rfl rfl rfl rfl (r_pickT rfl (ev_t rfl) (ev_t rfl)) ?_
  refine WL.val rfl rfl rfl rfl (r_move rfl (ev_t rfl)) ?_
  refine WL.cases 27 rfl (fun hb2_11 => ?_) (fun hb2_11 => ?_)
  ·try simp only [cS, ne_eq, Decidable.not_not] at hb2_11
   refine WL.val rfl rfl rfl rfl (r_field0 rfl (ev_t rfl) fld_81_0) ?_
   refine WL.val rfl rfl rfl rfl (r_load rfl (ev_t rfl) flat_5 (Blk.cell ht rfl)) ?_
   refine WL.val rfl rfl rfl rfl (r_eql rfl (ev_t rfl) ev_c) ?_
   refine WL.val rfl rfl rfl rfl (r_move rfl (ev_t rfl)) ?_
   refine WL.cases 31 rfl (fun hb2_15 => ?_) (fun hb2_15 => ?_)
   ·try simp only [cS, ne_eq, Decidable.not_not] at hb2_15
    refine WL.skip rfl rfl rfl (WL.skip rfl rfl rfl (WL.skip rfl rfl rfl (WL.val rfl rfl rfl rfl (r_pickT rfl (ev_t rfl) ev_c) ?_)))
    refine WL.val rfl rfl rfl rfl (r_pickT rfl (ev_t rfl) (ev_t rfl)) ?_
    refine WL.val rfl rfl rfl rfl (r_assign rfl (ev_t rfl)) ?_
    refine WL.nil (WX.keep [(4, _)] ⟨rfl, trivial⟩ (WX.next (WC.ret (WX.retE1 rfl rfl ?_))))
    refine ⟨?_, hU⟩
    congr 1
    rw [Bool.eq_iff_iff]
    simp only [isQ, Bool.and_eq_true, Bool.or_eq_true, decide_eq_true_eq]
    simp_all
    try omega
   ·try simp only [cS, ne_eq, Decidable.not_not] at hb2_15
    refine WL.val rfl rfl rfl rfl (r_field0 rfl (ev_t rfl) fld_81_0) ?_
    refine WL.val rfl rfl rfl rfl (r_load rfl (ev_t rfl) flat_5 (Blk.cell ht rfl)) ?_
    refine WL.val rfl rfl rfl rfl (r_eql rfl (ev_t rfl) ev_c) ?_
    refine WL.val rfl rfl rfl rfl (r_pickF rfl (ev_t rfl) (ev_t rfl)) ?_
    refine WL.val rfl rfl rfl rfl (r_pickT rfl (ev_t rfl) (ev_t rfl)) ?_
    refine WL.val rfl rfl rfl rfl (r_assign rfl (ev_t rfl)) ?_
    refine WL.nil (WX.keep [(4, _)] ⟨rfl, trivial⟩ (WX.next (WC.ret (WX.retE1 rfl rfl ?_))))
    refine ⟨?_, hU⟩
    congr 1
    rw [Bool.eq_iff_iff]
    simp only [isQ, Bool.and_eq_true, Bool.or_eq_true, decide_eq_true_eq]
    simp_all
    try omega
  ·try simp only [cS, ne_eq, Decidable.not_not] at hb2_11
   refine WL.skip rfl rfl rfl (WL.skip rfl rfl rfl (WL.skip rfl rfl rfl (WL.skip rfl rfl rfl (WL.skip rfl rfl rfl (WL.skip rfl rfl rfl (WL.skip rfl rfl rfl (WL.skip rfl rfl rfl (WL.val rfl rfl rfl rfl (r_pickF rfl (ev_t rfl) ev_c) ?_))))))))
   refine WL.val rfl rfl rfl rfl (r_assign rfl (ev_t rfl)) ?_
   refine WL.nil (WX.keep [(4, _)] ⟨rfl, trivial⟩ (WX.next (WC.ret (WX.retE1 rfl rfl ?_))))
   refine ⟨?_, hU⟩
   congr 1
   rw [Bool.eq_iff_iff]
   simp only [isQ, Bool.and_eq_true, Bool.or_eq_true, decide_eq_true_eq]
   simp_all
   try omega
 ·try simp only [cS, ne_eq, Decidable.not_not] at hb2_5
  refine WL.skip rfl rfl rfl (WL.skip rfl rfl rfl (WL.skip rfl rfl rfl (WL.skip rfl rfl rfl (WL.val rfl rfl rfl rfl (r_pickF rfl (ev_t rfl) ev_c) ?_))))
  refine WL.val rfl rfl rfl rfl (r_move rfl (ev_t rfl)) ?_
  refine WL.skip rfl rfl rfl (WL.skip rfl rfl rfl (WL.skip rfl rfl rfl (WL.skip rfl rfl rfl (WL.skip rfl rfl rfl (WL.skip rfl rfl rfl (WL.skip rfl rfl rfl (WL.skip rfl rfl rfl (WL.val rfl rfl rfl rfl (r_pickF rfl (ev_t rfl) ev_c) ?_))))))))
  refine WL.val rfl rfl rfl rfl (r_assign rfl (ev_t rfl)) ?_
  refine WL.nil (WX.keep [(4, _)] ⟨rfl, trivial⟩ (WX.next (WC.ret (WX.retE1 rfl rfl ?_))))
  refine ⟨?_, hU⟩
  congr 1
  rw [Bool.eq_iff_iff]
  simp only [isQ, Bool.and_eq_true, Bool.or_eq_true, decide_eq_true_eq]
  simp_all
  try omega
theorem kind_ok {w : World} {r B0 : Nat} {A : List Tok} {s : St} {k : Nat} (hp : PS w r B0 A s) : Ret Tryz.prog 32 #[.pointer (some ⟨r, 0, none⟩), .int .u8 (k : Int)] w fun v w' => v = .bool (kdQ s k) ∧ Upd No w w' := by
 obtain ⟨F, b, off, c, zs, bad, hb, hz, hr, hF, hI⟩ := hp.open
 obtain ⟨z, hz9⟩ := toks_get hz (St.hd_get hp.suf hp.fin.pos)
 have hI9 : (A.length : Int) - (s.ts.length : Int) = ((A.length - s.ts.length : Nat) : Int) := by omega
 rw [hI9] at hb
 have hj : A.length - s.ts.length < A.length := by omega
 generalize A.length - s.ts.length = j at *
 refine enterRet (vs := [_, _]) (N := 25) Tryz.func32 rfl rfl rfl ?_
 have hU := Upd.refl No w
 refine WC.keep [(0, _), (1, _)] ⟨rfl, rfl, trivial⟩ (WC.seq (WC.region (WL.val rfl rfl rfl rfl (r_assign rfl ev_c) ?_)))
 refine WL.nil (WX.keep [(0, _), (1, _)] ⟨rfl, rfl, trivial⟩ (WX.next (WC.seq (WC.draws' (fun u0_ u1_ => Upd No u0_ u1_) (fun j => [0, 0, 0, 1, 0, 0, 0, 0, 0, 0, 0, 0, 0, 1, 0, 0, 2, 0, 0, 0, 0].getD j 0) (.calm 0 (.calm 1 (.calm 2 (.one 3 (.calm 4 (.calm 5 (.calm 6 (.calm 7 (.calm 8 (.calm 10 (.calm 11 (.calm 12 (.calm 17 (.held 9 (.one 13 (.calm 14 (.calm 15 (.one 16 (.calm 18 (.calm 19 (.calm 20 (.done)))))))))))))))))))))) mixed (by kernel_rfl) (by repeat (first | with_reducible exact Deaf.body | with_reducible apply Deaf.then)) ?_))))
 intro w1 hu1
 have hz1 := congrArg Array.size hu1.2.2.2
 replace hu1 := Upd.of_draw hu1
 have hs1 := hu1.size
 replace hU := hU.transA hu1
 replace hb := hb.updA hu1
 replace hr := hr.upd hu1 (fun _ _ _ h => h)
 have hS1 := Upd.refl No w1
 refine WN.calm _ rfl rfl rfl rfl rfl (fun _ => r_move rfl (ev_t rfl)) ?_
 refine WN.calm _ rfl rfl rfl rfl rfl (fun _ => r_nilCheck rfl (ev_t rfl)) ?_
 refine WN.calm _ rfl rfl rfl rfl rfl (fun _ => r_field0 rfl (ev_t rfl) fld_58_4) ?_
 refine WN.step _ rfl (SO.val rfl rfl rfl rfl (r_load rfl (ev_t rfl) flat_3 (Blk.cell hb rfl)) ?_)
 refine ⟨hS1, ?_⟩
 refine WN.calm _ rfl rfl rfl rfl rfl (fun _ => r_eql rfl (ev_t rfl) ev_c) ?_
 refine WN.calm _ rfl rfl rfl rfl rfl (fun _ => r_move rfl (ev_t rfl)) ?_
 refine WN.cases 10 rfl (fun hb1_5 => ?_) (fun hb1_5 => ?_)
 ·try simp only [cS, ne_eq, Decidable.not_not] at hb1_5
  refine WN.calm _ rfl rfl rfl rfl rfl (fun _ => r_move rfl (ev_t rfl)) ?_
  refine WN.calm _ rfl rfl rfl rfl rfl (fun _ => r_nilCheck rfl (ev_t rfl)) ?_
  refine WN.calm _ rfl rfl rfl rfl rfl (fun _ => r_field0 rfl (ev_t rfl) fld_58_0) ?_
  refine WN.calm _ rfl rfl rfl rfl rfl (fun _ => r_move rfl (ev_t rfl)) ?_
  refine WN.calm _ rfl rfl rfl rfl rfl (fun _ => r_nilCheck rfl (ev_t rfl)) ?_
  refine WN.calm _ rfl rfl rfl rfl rfl (fun _ => r_field0 rfl (ev_t rfl) fld_58_1) ?_
  refine WN.calm _ rfl rfl rfl rfl rfl (fun _ => r_move rfl (ev_t rfl)) ?_
  refine WN.held _ rfl rfl rfl rfl rfl hS1 (fun w' hS => r_load rfl (ev_t rfl) flat_53 (Blk.cell (hb.upd hS (fun h => h)) rfl)) ?_
  refine WN.step _ rfl (SO.val rfl rfl rfl rfl (r_load rfl (ev_t rfl) flat_3 (Blk.cell hb rfl)) ?_)
  refine ⟨hS1, ?_⟩
  refine WN.calm _ rfl rfl rfl rfl rfl (fun _ => r_indexAddr rfl (ev_t rfl) (ev_t rfl) elem_53 size_81 (by omega) (by omega)) ?_
  refine WN.calm _ rfl rfl rfl rfl rfl (fun _ => r_fieldAt rfl (ev_t rfl) fld_81_0) ?_
  refine WN.step _ rfl (SO.val rfl rfl rfl rfl (r_load rfl (ev_t rfl) flat_5 (hr.cell (j := j * 3 + 0) (by omega) (hz9 0 _ rfl))) ?_)
  refine ⟨trivial, ?_⟩
  refine WN.calm _ rfl rfl rfl rfl rfl (fun _ => r_eql rfl (ev_t rfl) (ev_t rfl)) ?_
  refine WN.calm _ rfl rfl rfl rfl rfl (fun _ => r_pickT rfl (ev_t rfl) (ev_t rfl)) ?_
  refine WN.calm _ rfl rfl rfl rfl rfl (fun _ => r_assign rfl (ev_t rfl)) ?_
  refine WN.done ?_
  refine WX.keep [(4, _)] ⟨rfl, trivial⟩ (WX.next (WC.ret (WX.retE1 rfl rfl ?_)))
  refine ⟨?_, hU⟩
  congr 1
  rw [Bool.eq_iff_iff]
  simp only [kdQ, Bool.and_eq_true, decide_eq_true_eq]
  simp_all
  try omega
 ·try simp only [cS, ne_eq, Decidable.not_not] at hb1_5
  refine WN.skip _ rfl rfl rfl rfl ?_
  refine WN.skip _ rfl rfl rfl rfl ?_
  refine WN.skip _ rfl rfl rfl rfl ?_
  refine WN.skip _ rfl rfl rfl rfl ?_
  refine WN.skip _ rfl rfl rfl rfl ?_
  refine WN.skip _ rfl rfl rfl rfl ?_
  refine WN.skip _ rfl rfl rfl rfl ?_
  refine WN.heldSkip _ rfl rfl rfl rfl hS1 ?_
  refine WN.step _ rfl (SO.skip rfl rfl rfl ?_)
  refine ⟨hS1, ?_⟩
  refine WN.skip _ rfl rfl rfl rfl ?_
  refine WN.skip _ rfl rfl rfl rfl ?_
  refine WN.step _ rfl (SO.skip rfl rfl rfl ?_)
  refine ⟨trivial, ?_⟩
  refine WN.skip _ rfl rfl rfl rfl ?_
  refine WN.calm _ rfl rfl rfl rfl rfl (fun _ => r_pickF rfl (ev_t rfl) ev_c) ?_
  refine WN.calm _ rfl rfl rfl rfl rfl (fun _ => r_assign rfl (ev_t rfl)) ?_
  refine WN.done ?_
  refine WX.keep [(4, _)] ⟨rfl, trivial⟩ (WX.next (WC.ret (WX.retE1 rfl rfl ?_)))
  refine ⟨?_, hU⟩
  congr 1
  rw [Bool.eq_iff_iff]
  simp only [kdQ, Bool.and_eq_true, decide_eq_true_eq]
  simp_all
  try omega
theorem take_ok {w : World} {r B0 : Nat} {A : List Tok} {s : St} {u : List UInt8} (hp : PS w r B0 A s) : Ret Tryz.prog 31 #[.pointer (some ⟨r, 0, none⟩), Sv u] w fun v w' => v = .bool (isQ s u) ∧ PS w' r B0 A (takQ s u) ∧ Upd (At r) w w' := by
 obtain ⟨F, b, off, c, zs, bad, hb, hz, hr, hF, hI⟩ := hp.open
 refine enterRet (vs := [_, _]) (N := 15) Tryz.func31 rfl rfl rfl ?_
 have hU := Upd.refl (At r) w
 refine WC.keep [(0, _), (1, _)] ⟨rfl, rfl, trivial⟩ (WC.seq (WC.region (WL.val rfl rfl rfl rfl (r_assign rfl ev_c) ?_)))
 refine WL.nil (WX.keep [(0, _), (1, _)] ⟨rfl, rfl, trivial⟩ (WX.next (WC.seq (WC.seq (WC.region (WL.val rfl rfl rfl rfl (r_move rfl (ev_t rfl)) ?_))))))
 refine WL.val rfl rfl rfl rfl (r_move rfl (ev_t rfl)) ?_
 refine WL.cons (SO.call (is_ok hp) rfl body_34 ⟨(ev_t rfl), (ev_t rfl), trivial⟩ rfl rfl rfl rfl ?_)
 rintro v9 w1 ⟨rfl, hu1⟩
 have hs1 := hu1.size
 replace hU := hU.transA hu1
 replace hb := hb.updA hu1
 replace hr := hr.upd hu1 (fun k hk hl hS => by exact (show False from hS).elim)
 replace hp := hp.updA hu1
 refine WL.nil (WX.keep [(0, _), (7, _)] ⟨rfl, rfl, trivial⟩ (WX.next (WC.cond rfl (ev_t rfl) (fun hc1 => ?_) (fun hc1 => ?_))))
 ·refine WC.seq ?_
  have hk := (isQ_kind hc1).2.2
  have hT := hp.tail hk
  have hT3 := hT.2.2
  refine WC.region (WL.val rfl rfl rfl rfl (r_move rfl (ev_t rfl)) ?_)
  refine WL.val rfl rfl rfl rfl (r_nilCheck rfl (ev_t rfl)) ?_
  refine WL.val rfl rfl rfl rfl (r_field0 rfl (ev_t rfl) fld_58_1) ?_
  refine WL.val rfl rfl rfl rfl (r_load rfl (ev_t rfl) flat_3 (Blk.cell hb rfl)) ?_
  refine WL.val rfl rfl rfl rfl (r_addN rfl (ev_t rfl) ev_c (by simp only [inK]; omega)) ?_
  refine WL.val rfl rfl rfl rfl (r_nilCheck rfl (ev_t rfl)) ?_
  refine WL.val rfl rfl rfl rfl (r_field0 rfl (ev_t rfl) fld_58_1) ?_
  refine WL.cons (SO.store rfl (ev_t rfl) (ev_t rfl) size_3 hb rfl rfl rfl rfl rfl ?_)
  intro w2 hu2 hb hz2
  have hs2 := hu2.size
  replace hU := hU.transA hu2
  replace hr := hr.upd hu2 (fun k hk hl hS => by exact (hF k hk).1 hS)
  refine WL.nil (WX.keep [] trivial (WX.next (WC.seq (WC.region (WL.val rfl rfl rfl rfl (r_assign rfl ev_c) ?_)))))
  refine WL.nil (WX.keep [(4, _)] ⟨rfl, trivial⟩ (WX.next (WC.ret (WX.thenRet (WX.retE1 rfl rfl ?_)))))
  refine ⟨by rw [hc1], ?_, hU⟩
  unfold takQ
  rw [if_pos hc1]
  rw [show (A.length : Int) - (s.ts.length : Int) + 1 = (A.length : Int) - ((tlQ s).ts.length : Int) by omega] at hb
  exact hp.shut hu2 hb hz hr hF hT.1 hT.2.1 hp.dle hp.ele
 ·refine WC.skip (WX.next (WC.seq (WC.region (WL.val rfl rfl rfl rfl (r_assign rfl ev_c) ?_))))
  refine WL.nil (WX.keep [(4, _)] ⟨rfl, trivial⟩ (WX.next (WC.ret (WX.retE1 rfl rfl ?_))))
  refine ⟨by rw [hc1], ?_, hU⟩
  unfold takQ
  rw [if_neg (by simp [hc1])]
  exact hp
theorem must_ok {w : World} {r B0 : Nat} {A : List Tok} {s : St} {u : List UInt8} (hp : PS w r B0 A s) : Ret Tryz.prog 84 #[.pointer (some ⟨r, 0, none⟩), Sv u] w fun v w' => PS w' r B0 A (musQ s u) ∧ Upd (At r) w w' := by
 obtain ⟨F, b, off, c, zs, bad, hb, hz, hr, hF, hI⟩ := hp.open
 refine enterRet (vs := [_, _]) (N := 21) Tryz.func84 rfl rfl rfl ?_
 have hU := Upd.refl (At r) w
 refine WC.keep [(0, _), (1, _)] ⟨rfl, rfl, trivial⟩ (WC.seq (WC.region (WL.val rfl rfl rfl rfl (r_move rfl (ev_t rfl)) ?_)))
 refine WL.val rfl rfl rfl rfl (r_nilCheck rfl (ev_t rfl)) ?_
 refine WL.val rfl rfl rfl rfl (r_field0 rfl (ev_t rfl) fld_58_4) ?_
 refine WL.val rfl rfl rfl rfl (r_load rfl (ev_t rfl) flat_3 (Blk.cell hb rfl)) ?_
 refine WL.val rfl rfl rfl rfl (r_eql rfl (ev_t rfl) ev_c) ?_
 refine WL.val rfl rfl rfl rfl (r_move rfl (ev_t rfl)) ?_
 refine WL.cases 9 rfl (fun hb0_5 => ?_) (fun hb0_5 => ?_)
 ·try simp only [cS, ne_eq, Decidable.not_not] at hb0_5
  refine WL.val rfl rfl rfl rfl (r_move rfl (ev_t rfl)) ?_
  refine WL.val rfl rfl rfl rfl (r_move rfl (ev_t rfl)) ?_
  refine WL.cons (SO.call (take_ok hp) rfl body_31 ⟨(ev_t rfl), (ev_t rfl), trivial⟩ rfl rfl rfl rfl ?_)
  rintro v9 w1 ⟨rfl, hp2, hu1⟩
  have hs1 := hu1.size
  replace hU := hU.transA hu1
  refine WL.val rfl rfl rfl rfl (r_not rfl (ev_t rfl)) ?_
  refine WL.val rfl rfl rfl rfl (r_pickT rfl (ev_t rfl) (ev_t rfl)) ?_
  refine WL.nil (WX.keep [(0, _), (14, _)] ⟨rfl, rfl, trivial⟩ (WX.next (WC.cond rfl (ev_t rfl) (fun hc0 => ?_) (fun hc0 => ?_))))
  ·try simp only [cS, ne_eq, Decidable.not_not] at hc0
   refine WC.region ?_
   have hq : isQ s u = false := by simpa using hc0
   have h0 : s.e = 0 := by omega
   rw [show takQ s u = s by unfold takQ; rw [if_neg (by simp [hq])]] at hp2
   obtain ⟨F2, b2, off2, c2, zs2, bad2, hb2, hz2, hr2, hF2, hI2⟩ := hp2.open
   refine WL.val rfl rfl rfl rfl (r_move rfl (ev_t rfl)) ?_
   refine WL.val rfl rfl rfl rfl (r_move rfl (ev_t rfl)) ?_
   refine WL.val rfl rfl rfl rfl (r_nilCheck rfl (ev_t rfl)) ?_
   refine WL.val rfl rfl rfl rfl (r_field0 rfl (ev_t rfl) fld_58_1) ?_
   refine WL.val rfl rfl rfl rfl (r_load rfl (ev_t rfl) flat_3 (Blk.cell hb2 rfl)) ?_
   refine WL.cons (SO.call (fault_ok (e := 4) hp2 (by omega) (by decide)) rfl body_35 ⟨(ev_t rfl), (ev_t rfl), ev_c, trivial⟩ rfl rfl rfl rfl ?_)
   rintro v9 w2 ⟨hp3, hu2⟩
   have hs2 := hu2.size
   replace hU := hU.transA hu2
   refine WL.nil (WX.keep [] trivial (WX.endE (l := []) (vs := []) rfl trivial ?_))
   refine ⟨?_, hU⟩
   unfold musQ
   rw [if_neg (by simp [hq])]
   exact hp3
  ·try simp only [cS, ne_eq, Decidable.not_not] at hc0
   refine WC.skip (WX.endE (l := []) (vs := []) rfl trivial ?_)
   refine ⟨?_, hU⟩
   unfold musQ
   first
    | (have hq : isQ s u = true := by simpa using hc0
       rw [if_pos hq]
       unfold takQ at hp2
       rw [if_pos hq] at hp2
       exact hp2)
    | (rw [if_neg (by simp only [isQ]; rw [decide_eq_false (by omega)]; simp)]
       unfold fauQ
       rw [if_neg (by omega)]
       exact hp)
 ·try simp only [cS, ne_eq, Decidable.not_not] at hb0_5
  refine WL.skip rfl rfl rfl (WL.skip rfl rfl rfl (WL.skip rfl rfl rfl (WL.skip rfl rfl rfl (WL.val rfl rfl rfl rfl (r_pickF rfl (ev_t rfl) ev_c) ?_))))
  refine WL.nil (WX.keep [(0, _), (14, _)] ⟨rfl, rfl, trivial⟩ (WX.next (WC.cond_false rfl (ev_t rfl) ?_)))
  refine WC.skip (WX.endE (l := []) (vs := []) rfl trivial ?_)
  refine ⟨?_, hU⟩
  unfold musQ
  first
   | (have hq : isQ s u = true := by simpa using hc0
      rw [if_pos hq]
      unfold takQ at hp2
      rw [if_pos hq] at hp2
      exact hp2)
   | (rw [if_neg (by simp only [isQ]; rw [decide_eq_false (by omega)]; simp)]
      unfold fauQ
      rw [if_neg (by omega)]
      exact hp)
theorem text_ok9 {w : World} {r B0 : Nat} {A : List Tok} {s : St} {k : Nat} (hp : PS w r B0 A s) (hk : k ≠ 0) : Ret Tryz.prog 82 #[.pointer (some ⟨r, 0, none⟩), .int .u8 (k : Int)] w fun v w' => v = Sv (txtQ s k).1 ∧ PS w' r B0 A (txtQ s k).2 ∧ Upd (At r) w w' := by
 obtain ⟨F, b, off, c, zs, bad, hb, hz, hr, hF, hI⟩ := hp.open
 obtain ⟨z, hz9⟩ := toks_get hz (St.hd_get hp.suf hp.fin.pos)
 have hI9 : (A.length : Int) - (s.ts.length : Int) = ((A.length - s.ts.length : Nat) : Int) := by omega
 refine enterRet (vs := [_, _]) (N := 34) Tryz.func82 rfl rfl rfl ?_
 have hU := Upd.refl (At r) w
 refine WC.keep [(0, _), (1, _)] ⟨rfl, rfl, trivial⟩ (WC.seq (WC.region (WL.val rfl rfl rfl rfl (r_assign rfl ev_c) ?_)))
 refine WL.nil (WX.keep [(0, _), (1, _)] ⟨rfl, rfl, trivial⟩ (WX.next (WC.seq (WC.seq (WC.region (WL.val rfl rfl rfl rfl (r_move rfl (ev_t rfl)) ?_))))))
 refine WL.val rfl rfl rfl rfl (r_move rfl (ev_t rfl)) ?_
 refine WL.cons (SO.call (kind_ok hp) rfl body_32 ⟨(ev_t rfl), (ev_t rfl), trivial⟩ rfl rfl rfl rfl ?_)
 rintro v9 w1 ⟨rfl, hu1⟩
 have hs1 := hu1.size
 replace hU := hU.transA hu1
 replace hb := hb.updA hu1
 replace hr := hr.upd hu1 (fun k hk hl hS => by exact (show False from hS).elim)
 replace hp := hp.updA hu1
 refine WL.val rfl rfl rfl rfl (r_not rfl (ev_t rfl)) ?_
 refine WL.nil (WX.keep [(0, _), (8, _)] ⟨rfl, rfl, trivial⟩ (WX.next (WC.cond rfl (ev_t rfl) (fun hc1 => ?_) (fun hc1 => ?_))))
 ·try simp only [cS, ne_eq, Decidable.not_not] at hc1
  refine WC.seq (WC.region (WL.val rfl rfl rfl rfl (r_move rfl (ev_t rfl)) ?_))
  refine WL.val rfl rfl rfl rfl (r_move rfl (ev_t rfl)) ?_
  refine WL.val rfl rfl rfl rfl (r_nilCheck rfl (ev_t rfl)) ?_
  refine WL.val rfl rfl rfl rfl (r_field0 rfl (ev_t rfl) fld_58_1) ?_
  refine WL.val rfl rfl rfl rfl (r_load rfl (ev_t rfl) flat_3 (Blk.cell hb rfl)) ?_
  refine WL.cons (SO.call (fault_ok (e := 4) hp (by omega) (by decide)) rfl body_35 ⟨(ev_t rfl), (ev_t rfl), ev_c, trivial⟩ rfl rfl rfl rfl ?_)
  rintro v9 w2 ⟨hp3, hu2⟩
  have hs2 := hu2.size
  replace hU := hU.transA hu2
  replace hr := hr.upd hu2 (fun k hk hl hS => by exact (hF k hk).1 hS)
  refine WL.nil (WX.keep [] trivial (WX.next (WC.seq (WC.region (WL.val rfl rfl rfl rfl (r_assign rfl ev_c) ?_)))))
  refine WL.nil (WX.keep [(4, _)] ⟨rfl, trivial⟩ (WX.next (WC.ret (WX.thenRet (WX.retE1 rfl rfl ?_)))))
  have hq : kdQ s k = false := by simpa using hc1
  unfold txtQ
  rw [if_neg (by simp [hq])]
  exact ⟨rfl, hp3, hU⟩
 ·try simp only [cS, ne_eq, Decidable.not_not] at hc1
  refine WC.skip (WX.next (WC.seq ?_))
  have hq : kdQ s k = true := by simpa using hc1
  have hkk : s.hd.k ≠ 0 := by rw [(kdQ_kind hq).2]; exact hk
  have hT := hp.tail hkk
  have hT3 := hT.2.2
  have hp0 := hp
  have hw0 := Upd.refl (At r) w1
  refine WC.region (WL.val rfl rfl rfl rfl (r_move rfl (ev_t rfl)) ?_)
  refine WL.val rfl rfl rfl rfl (r_nilCheck rfl (ev_t rfl)) ?_
  refine WL.val rfl rfl rfl rfl (r_field0 rfl (ev_t rfl) fld_58_1) ?_
  refine WL.val rfl rfl rfl rfl (r_load rfl (ev_t rfl) flat_3 (Blk.cell hb rfl)) ?_
  refine WL.val rfl rfl rfl rfl (r_addN rfl (ev_t rfl) ev_c (by simp only [inK]; omega)) ?_
  refine WL.val rfl rfl rfl rfl (r_nilCheck rfl (ev_t rfl)) ?_
  refine WL.val rfl rfl rfl rfl (r_field0 rfl (ev_t rfl) fld_58_1) ?_
  refine WL.cons (SO.store rfl (ev_t rfl) (ev_t rfl) size_3 hb rfl rfl rfl rfl rfl ?_)
  intro w3 hu3 hb hz3
  have hs3 := hu3.size
  replace hU := hU.transA hu3
  replace hr := hr.upd hu3 (fun k hk hl hS => by exact (hF k hk).1 hS)
  refine WL.nil (WX.keep [(0, _)] ⟨rfl, trivial⟩ ?_)
  have hw1 := hw0.trans_same hu3
  rw [show (A.length : Int) - (s.ts.length : Int) + 1 = (A.length : Int) - ((tlQ s).ts.length : Int) by omega] at hb
  have hp3 : PS w3 r B0 A (tlQ s) := hp0.shut hw1 hb hz hr hF hT.1 hT.2.1 hp.dle hp.ele
  refine WX.next (WC.seq (WC.draws' (fun u0_ u1_ => Upd No u0_ u1_) (fun j => [0, 0, 0, 0, 0, 0, 0, 1, 0, 0, 0, 2, 0].getD j 0) (.calm 0 (.calm 1 (.calm 2 (.calm 4 (.calm 5 (.calm 6 (.held 3 (.one 7 (.calm 8 (.calm 9 (.calm 10 (.one 11 (.calm 12 (.done)))))))))))))) mixed (by kernel_rfl) (by repeat (first | with_reducible exact Deaf.body | with_reducible apply Deaf.then)) ?_))
  intro w4 hu4
  have hz4 := congrArg Array.size hu4.2.2.2
  replace hu4 := Upd.of_draw hu4
  have hs4 := hu4.size
  replace hU := hU.transA hu4
  replace hb := hb.updA hu4
  replace hr := hr.upd hu4 (fun k hk hl hS => by exact (show False from hS).elim)
  replace hp3 := hp3.updA hu4
  have hS5 := Upd.refl No w4
  refine WN.calm _ rfl rfl rfl rfl rfl (fun _ => r_move rfl (ev_t rfl)) ?_
  refine WN.calm _ rfl rfl rfl rfl rfl (fun _ => r_nilCheck rfl (ev_t rfl)) ?_
  refine WN.calm _ rfl rfl rfl rfl rfl (fun _ => r_field0 rfl (ev_t rfl) fld_58_0) ?_
  refine WN.calm _ rfl rfl rfl rfl rfl (fun _ => r_move rfl (ev_t rfl)) ?_
  refine WN.calm _ rfl rfl rfl rfl rfl (fun _ => r_nilCheck rfl (ev_t rfl)) ?_
  refine WN.calm _ rfl rfl rfl rfl rfl (fun _ => r_field0 rfl (ev_t rfl) fld_58_1) ?_
  refine WN.held _ rfl rfl rfl rfl rfl hS5 (fun w' hS => r_load rfl (ev_t rfl) flat_53 (Blk.cell (hb.upd hS (fun h => h)) rfl)) ?_
  refine WN.step _ rfl (SO.val rfl rfl rfl rfl (r_load rfl (ev_t rfl) flat_3 (Blk.cell hb rfl)) ?_)
  refine ⟨hS5, ?_⟩
  refine WN.calm _ rfl rfl rfl rfl rfl (fun _ => r_subN rfl (ev_t rfl) ev_c (by simp only [inK]; omega)) ?_
  refine WN.calm _ rfl rfl rfl rfl rfl (fun _ => r_indexAddr rfl (ev_t rfl) (ev_t rfl) elem_53 size_81 (by omega) (by omega)) ?_
  refine WN.calm _ rfl rfl rfl rfl rfl (fun _ => r_fieldAt rfl (ev_t rfl) fld_81_1) ?_
  refine WN.step _ rfl (SO.val rfl rfl rfl rfl (r_load rfl (ev_t rfl) flat_9 (hr.cell (j := (A.length - s.ts.length) * 3 + 1) (by omega) (hz9 1 _ rfl))) ?_)
  refine ⟨trivial, ?_⟩
  refine WN.calm _ rfl rfl rfl rfl rfl (fun _ => r_assign rfl (ev_t rfl)) ?_
  refine WN.done ?_
  refine WX.keep [(4, _)] ⟨rfl, trivial⟩ (WX.next (WC.ret (WX.retE1 rfl rfl ?_)))
  unfold txtQ
  rw [if_pos hq]
  exact ⟨rfl, hp3, hU⟩
theorem open_ok9 {w : World} {r B0 : Nat} {A : List Tok} {s : St} (hp : PS w r B0 A s) (hd : s.d ≤ 50) : Ret Tryz.prog 87 #[.pointer (some ⟨r, 0, none⟩)] w fun v w' => v = .bool (decide ((opnQ s).e = 0)) ∧ PS w' r B0 A (opnQ s) ∧ Upd (At r) w w' := by
 obtain ⟨F, b, off, c, zs, bad, hb, hz, hr, hF, hI⟩ := hp.open
 refine enterRet (vs := [_]) (N := 33) Tryz.func87 rfl rfl rfl ?_
 have hU := Upd.refl (At r) w
 refine WC.keep [(0, _)] ⟨rfl, trivial⟩ (WC.seq (WC.region (WL.val rfl rfl rfl rfl (r_assign rfl ev_c) ?_)))
 refine WL.nil (WX.keep [(0, _)] ⟨rfl, trivial⟩ (WX.next (WC.seq (WC.region (WL.val rfl rfl rfl rfl (r_move rfl (ev_t rfl)) ?_)))))
 refine WL.val rfl rfl rfl rfl (r_nilCheck rfl (ev_t rfl)) ?_
 refine WL.val rfl rfl rfl rfl (r_field0 rfl (ev_t rfl) fld_58_2) ?_
 refine WL.val rfl rfl rfl rfl (r_load rfl (ev_t rfl) flat_3 (Blk.cell hb rfl)) ?_
 refine WL.val rfl rfl rfl rfl (r_addN rfl (ev_t rfl) ev_c (by simp only [inK]; omega)) ?_
 refine WL.val rfl rfl rfl rfl (r_nilCheck rfl (ev_t rfl)) ?_
 refine WL.val rfl rfl rfl rfl (r_field0 rfl (ev_t rfl) fld_58_2) ?_
 refine WL.cons (SO.store rfl (ev_t rfl) (ev_t rfl) size_3 hb rfl rfl rfl rfl rfl ?_)
 intro w1 hu1 hb hz1
 have hs1 := hu1.size
 replace hU := hU.transA hu1
 replace hr := hr.upd hu1 (fun k hk hl hS => by exact (hF k hk).1 hS)
 refine WL.nil (WX.keep [(0, _)] ⟨rfl, trivial⟩ ?_)
 have hp2 : PS w1 r B0 A { ts := s.ts, d := s.d + 1, e := s.e } := hp.shut hu1 hb hz hr hF hp.suf hp.fin (by show s.d + 1 ≤ 52; omega) hp.ele
 refine WX.next (WC.seq (WC.seq (WC.region (WL.val rfl rfl rfl rfl (r_move rfl (ev_t rfl)) ?_))))
 refine WL.val rfl rfl rfl rfl (r_nilCheck rfl (ev_t rfl)) ?_
 refine WL.val rfl rfl rfl rfl (r_field0 rfl (ev_t rfl) fld_58_4) ?_
 refine WL.val rfl rfl rfl rfl (r_load rfl (ev_t rfl) flat_3 (Blk.cell hb rfl)) ?_
 refine WL.val rfl rfl rfl rfl (r_eql rfl (ev_t rfl) ev_c) ?_
 refine WL.val rfl rfl rfl rfl (r_move rfl (ev_t rfl)) ?_
 refine WL.cases 15 rfl (fun hb2_5 => ?_) (fun hb2_5 => ?_)
 ·try simp only [cS, ne_eq, Decidable.not_not] at hb2_5
  refine WL.val rfl rfl rfl rfl (r_move rfl (ev_t rfl)) ?_
  refine WL.val rfl rfl rfl rfl (r_nilCheck rfl (ev_t rfl)) ?_
  refine WL.val rfl rfl rfl rfl (r_field0 rfl (ev_t rfl) fld_58_2) ?_
  refine WL.val rfl rfl rfl rfl (r_load rfl (ev_t rfl) flat_3 (Blk.cell hb rfl)) ?_
  refine WL.val rfl rfl rfl rfl (r_gtr rfl (ev_t rfl) ev_c) ?_
  refine WL.val rfl rfl rfl rfl (r_pickT rfl (ev_t rfl) (ev_t rfl)) ?_
  refine WL.nil (WX.keep [(0, _), (21, _)] ⟨rfl, rfl, trivial⟩ (WX.next (WC.cond rfl (ev_t rfl) (fun hc2 => ?_) (fun hc2 => ?_))))
  ·try simp only [cS, ne_eq, Decidable.not_not] at hc2
   refine WC.region (WL.val rfl rfl rfl rfl (r_move rfl (ev_t rfl)) ?_)
   refine WL.val rfl rfl rfl rfl (r_move rfl (ev_t rfl)) ?_
   refine WL.val rfl rfl rfl rfl (r_nilCheck rfl (ev_t rfl)) ?_
   refine WL.val rfl rfl rfl rfl (r_field0 rfl (ev_t rfl) fld_58_1) ?_
   refine WL.val rfl rfl rfl rfl (r_load rfl (ev_t rfl) flat_3 (Blk.cell hb rfl)) ?_
   refine WL.cons (SO.call (fault_ok (e := 5) hp2 (by show _ ∧ _; omega) (by decide)) rfl body_35 ⟨(ev_t rfl), (ev_t rfl), ev_c, trivial⟩ rfl rfl rfl rfl ?_)
   rintro v9 w2 ⟨hp3, hu2⟩
   have hs2 := hu2.size
   replace hU := hU.transA hu2
   replace hr := hr.upd hu2 (fun k hk hl hS => by exact (hF k hk).1 hS)
   have e9 : fauQ { ts := s.ts, d := s.d + 1, e := s.e } 5 = opnQ s := by unfold fauQ opnQ; rw [if_pos (by show s.e = 0; omega), if_pos (by omega)]
   rw [e9] at hp3
   obtain ⟨F2, b2, off2, c2, zs2, bad2, hb, hz2, hr2, hF2, hI2⟩ := hp3.open
   refine WL.nil (WX.keep [(0, _)] ⟨rfl, trivial⟩ (WX.next (WC.seq (WC.region (WL.val rfl rfl rfl rfl (r_move rfl (ev_t rfl)) ?_)))))
   refine WL.val rfl rfl rfl rfl (r_nilCheck rfl (ev_t rfl)) ?_
   refine WL.val rfl rfl rfl rfl (r_field0 rfl (ev_t rfl) fld_58_4) ?_
   refine WL.val rfl rfl rfl rfl (r_load rfl (ev_t rfl) flat_3 (Blk.cell hb rfl)) ?_
   refine WL.val rfl rfl rfl rfl (r_eql rfl (ev_t rfl) ev_c) ?_
   refine WL.val rfl rfl rfl rfl (r_assign rfl (ev_t rfl)) ?_
   refine WL.nil (WX.keep [(2, _)] ⟨rfl, trivial⟩ (WX.next (WC.ret (WX.retE1 rfl rfl ?_))))
   first
    | exact ⟨by congr 1; rw [decide_eq_decide]; omega, hp3, hU⟩
    | (have e9 : opnQ s = { ts := s.ts, d := s.d + 1, e := s.e } := by unfold opnQ; rw [if_neg (by omega)]
       rw [e9]
       exact ⟨by congr 1; rw [decide_eq_decide]; show _ ↔ s.e = 0; omega, hp2, hU⟩)
  ·try simp only [cS, ne_eq, Decidable.not_not] at hc2
   refine WC.skip (WX.next (WC.seq (WC.region (WL.val rfl rfl rfl rfl (r_move rfl (ev_t rfl)) ?_))))
   refine WL.val rfl rfl rfl rfl (r_nilCheck rfl (ev_t rfl)) ?_
   refine WL.val rfl rfl rfl rfl (r_field0 rfl (ev_t rfl) fld_58_4) ?_
   refine WL.val rfl rfl rfl rfl (r_load rfl (ev_t rfl) flat_3 (Blk.cell hb rfl)) ?_
   refine WL.val rfl rfl rfl rfl (r_eql rfl (ev_t rfl) ev_c) ?_
   refine WL.val rfl rfl rfl rfl (r_assign rfl (ev_t rfl)) ?_
   refine WL.nil (WX.keep [(2, _)] ⟨rfl, trivial⟩ (WX.next (WC.ret (WX.retE1 rfl rfl ?_))))
   first
    | exact ⟨by congr 1; rw [decide_eq_decide]; omega, hp3, hU⟩
    | (have e9 : opnQ s = { ts := s.ts, d := s.d + 1, e := s.e } := by unfold opnQ; rw [if_neg (by omega)]
       rw [e9]
       exact ⟨by congr 1; rw [decide_eq_decide]; show _ ↔ s.e = 0; omega, hp2, hU⟩)
 ·try simp only [cS, ne_eq, Decidable.not_not] at hb2_5
  refine WL.skip rfl rfl rfl (WL.skip rfl rfl rfl (WL.skip rfl rfl rfl (WL.skip rfl rfl rfl (WL.skip rfl rfl rfl (WL.val rfl rfl rfl rfl (r_pickF rfl (ev_t rfl) ev_c) ?_)))))
  refine WL.nil (WX.keep [(0, _), (21, _)] ⟨rfl, rfl, trivial⟩ (WX.next (WC.cond_false rfl (ev_t rfl) ?_)))
  refine WC.skip (WX.next (WC.seq (WC.region (WL.val rfl rfl rfl rfl (r_move rfl (ev_t rfl)) ?_))))
  refine WL.val rfl rfl rfl rfl (r_nilCheck rfl (ev_t rfl)) ?_
  refine WL.val rfl rfl rfl rfl (r_field0 rfl (ev_t rfl) fld_58_4) ?_
  refine WL.val rfl rfl rfl rfl (r_load rfl (ev_t rfl) flat_3 (Blk.cell hb rfl)) ?_
  refine WL.val rfl rfl rfl rfl (r_eql rfl (ev_t rfl) ev_c) ?_
  refine WL.val rfl rfl rfl rfl (r_assign rfl (ev_t rfl)) ?_
  refine WL.nil (WX.keep [(2, _)] ⟨rfl, trivial⟩ (WX.next (WC.ret (WX.retE1 rfl rfl ?_))))
  first
   | exact ⟨by congr 1; rw [decide_eq_decide]; omega, hp3, hU⟩
   | (have e9 : opnQ s = { ts := s.ts, d := s.d + 1, e := s.e } := by unfold opnQ; rw [if_neg (by omega)]
      rw [e9]
      exact ⟨by congr 1; rw [decide_eq_decide]; show _ ↔ s.e = 0; omega, hp2, hU⟩)
/-- one thing less is open -/
theorem PS.clsB {w : World} {r B0 : Nat} {A : List Tok} {s : St} (h : PS w r B0 A s) (hd : 0 < s.d) : ((s.d : Int) - 1) = ((clsQ s).d : Int) := by
 show _ = ((s.d - 1 : Nat) : Int)
 omega
end Go.Proofs.YtomkdhkkggbioaaGreatDoor

/-
  The reference's parser: plain steps of its loops; rows that begin with one tree.
-/
namespace Go.Proofs.YtomkdhkkggbioaaGreatDoor
open Go
set_option linter.unusedSimpArgs false
set_option linter.unusedVariables false

/-- as much is open, no more is left, a fault stays, what is left is an end -/
def Pst (s s' : St) : Prop := s'.d = s.d ∧ s'.ts.length ≤ s.ts.length ∧ (s.e ≠ 0 → s'.e = s.e) ∧ s'.ts <:+ s.ts
theorem Pst.refl (s : St) : Pst s s := ⟨rfl, Nat.le_refl _, fun _ => rfl, List.suffix_refl _⟩
theorem Pst.trans {a b c : St} (h : Pst a b) (h' : Pst b c) : Pst a c := ⟨h'.1.trans h.1, Nat.le_trans h'.2.1 h.2.1, fun he => by rw [h'.2.2.1 (by rw [h.2.2.1 he]; exact he), h.2.2.1 he], h'.2.2.2.trans h.2.2.2⟩
theorem Pst.suf {a b : St} (h : Pst a b) : b.ts <:+ a.ts := h.2.2.2
theorem opnQ_d (s : St) : (opnQ s).d = s.d + 1 := by unfold opnQ; split <;> rfl
theorem opnQ_ts (s : St) : (opnQ s).ts = s.ts := by unfold opnQ; split <;> rfl
theorem opnQ_ok {s : St} (h : (opnQ s).e = 0) : s.d + 1 ≤ 50 := by
  unfold opnQ at h
  split at h
  · cases h
  · rename_i h9
    have h : s.e = 0 := h
    omega
theorem fauQ_d (s : St) (e : Nat) : (fauQ s e).d = s.d := by unfold fauQ; split <;> rfl
theorem fauQ_ts (s : St) (e : Nat) : (fauQ s e).ts = s.ts := by unfold fauQ; split <;> rfl
theorem tlQ_d (s : St) : (tlQ s).d = s.d := rfl
theorem tlQ_len (s : St) : (tlQ s).ts.length = s.ts.length - 1 := by simp [tlQ]
theorem takQ_d (s : St) (u : List UInt8) : (takQ s u).d = s.d := by unfold takQ; split <;> rfl
theorem musQ_d (s : St) (u : List UInt8) : (musQ s u).d = s.d := by unfold musQ; split; rfl; exact fauQ_d _ _
theorem musQ_len (s : St) (u : List UInt8) : (musQ s u).ts.length ≤ s.ts.length := by unfold musQ; split; simp [tlQ]; rw [fauQ_ts]; exact Nat.le_refl _
theorem txtQ_d (s : St) (k : Nat) : (txtQ s k).2.d = s.d := by unfold txtQ; split; rfl; exact fauQ_d _ _
theorem txtQ_len (s : St) (k : Nat) : (txtQ s k).2.ts.length ≤ s.ts.length := by unfold txtQ; split; simp [tlQ]; simp only [fauQ_ts]; exact Nat.le_refl _
theorem clsQ_d (s : St) : (clsQ s).d = s.d - 1 := rfl
theorem clsQ_ts (s : St) : (clsQ s).ts = s.ts := rfl
theorem fauQ_e {s : St} {e : Nat} (h : s.e ≠ 0) : fauQ s e = s := by unfold fauQ; rw [if_neg h]
theorem fauQ_z {s : St} {e : Nat} (h : s.e = 0) : (fauQ s e).e = e := by unfold fauQ; rw [if_pos h]
theorem opnQ_e {s : St} (h : s.e ≠ 0) : (opnQ s).e = s.e := by unfold opnQ; rw [if_neg (by omega)]
theorem isQ_e {s : St} {u : List UInt8} (h : s.e ≠ 0) : isQ s u = false := by simp only [isQ, decide_eq_false h, Bool.false_and]
theorem kdQ_e {s : St} {k : Nat} (h : s.e ≠ 0) : kdQ s k = false := by simp only [kdQ, decide_eq_false h, Bool.false_and]
theorem Pst.fau (s : St) (e : Nat) : Pst s (fauQ s e) := ⟨fauQ_d _ _, by rw [fauQ_ts]; exact Nat.le_refl _, fun h => by rw [fauQ_e h], by rw [fauQ_ts]; exact List.suffix_refl _⟩
theorem Pst.tl (s : St) : Pst s (tlQ s) := ⟨rfl, by rw [tlQ_len]; omega, fun _ => rfl, List.tail_suffix _⟩
theorem Pst.tak (s : St) (u : List UInt8) : Pst s (takQ s u) := by
  unfold takQ
  split
  · exact Pst.tl s
  · exact Pst.refl s
theorem Pst.mus (s : St) (u : List UInt8) : Pst s (musQ s u) := by
  unfold musQ
  split
  · exact Pst.tl s
  · exact Pst.fau s 4
theorem Pst.txt (s : St) (k : Nat) : Pst s (txtQ s k).2 := by
  unfold txtQ
  split
  · exact Pst.tl s
  · exact Pst.fau s 4
theorem Pst.cls {s s' : St} (h : Pst (opnQ s) s') : Pst s (clsQ s') := ⟨by rw [clsQ_d, h.1, opnQ_d]; rfl, by rw [clsQ_ts]; have := h.2.1; rwa [opnQ_ts] at this, fun he => by have h9 := h.2.2.1 (by rw [opnQ_e he]; exact he); rw [opnQ_e he] at h9; exact h9, by rw [clsQ_ts]; have := h.2.2.2; rwa [opnQ_ts] at this⟩
theorem takQ_T {s : St} {u : List UInt8} (h : isQ s u = true) : takQ s u = tlQ s := by unfold takQ; rw [if_pos h]
theorem takQ_F {s : St} {u : List UInt8} (h : isQ s u = false) : takQ s u = s := by unfold takQ; rw [if_neg (by simp [h])]
theorem txtQ_T {s : St} {k : Nat} (h : kdQ s k = true) : txtQ s k = (s.hd.s, tlQ s) := by unfold txtQ; rw [if_pos h]
theorem txtQ_short {w : World} {r B0 : Nat} {A : List Tok} {s : St} {k : Nat} (hp : PS w r B0 A s) : (txtQ s k).1.length ≤ 2000 := by
  unfold txtQ
  split
  · exact hp.hdG.2.1
  · simp
section
variable {α : Type} {g : St → α × St} {u : List UInt8} {k : Nat} {l : List α} {s : St}
theorem sepQ_stop (h : isQ s u = false) : sepQ g u k l s = (l, s) := by
  cases k with
  | zero => rfl
  | succ k => simp [sepQ, h]
theorem sepQ_step (h : isQ s u = true) : sepQ g u (k + 1) l s = sepQ g u k (l ++ [(g (tlQ s)).1]) (g (tlQ s)).2 := by simp [sepQ, h]
theorem nmsQ_stop {l : List (List UInt8)} (h : kdQ s 1 = false) : nmsQ k l s = (l, s) := by
  cases k with
  | zero => rfl
  | succ k => simp [nmsQ, h]
theorem nmsQ_step {l : List (List UInt8)} (h : kdQ s 1 = true) : nmsQ (k + 1) l s = nmsQ k (l ++ [s.hd.s]) (tlQ s) := by simp [nmsQ, h]
end
theorem cells3 {x : List Value} (h : x.length = 3) : ∃ a b c, x = [a, b, c] := by
  match x, h with
  | [a, b, c], _ => exact ⟨a, b, c, rfl⟩
theorem opnQ_len (s : St) : (opnQ s).ts.length = s.ts.length := by rw [opnQ_ts]
theorem tnmQ_stop {k : Nat} {l : List Tr} {s : St} (h : kdQ s 1 = false) : tnmQ k l s = (l, s) := by
  cases k with
  | zero => rfl
  | succ k => simp [tnmQ, h]
theorem tnmQ_step {k : Nat} {l : List Tr} {s : St} (h : kdQ s 1 = true) : tnmQ (k + 1) l s = tnmQ k [.mk s.hd.s 0 l] (tlQ s) := by simp [tnmQ, h]
/-- a row of one tree -/
theorem Acc.single {α : Type} {sz : Nat} [Tre α sz] {T : TypeId} {w : World} {B g : Nat} {F : Nat → Prop} {c : List Value} {x : α} {cs : Array Value} (hb : Blk w g cs T) (hcs : cs.toList = c) (hc : TM w F c x) (hF : ∀ k, F k → k ≠ g ∧ B ≤ k) (hg : B ≤ g) : Acc T w B (At g) (.slice (some ⟨g, 0, none⟩) 1 1) [x] := by
  subst hcs
  have hl := hc.len
  have ho : Own w (At g) T sz (.slice (some ⟨g, 0, none⟩) 1 1) 1 cs.toList := Own.of_blk hb rfl (by rw [Nat.one_mul, ← hl]; simp) (le_maxLen (by omega))
  have hlt := hb.lt
  refine ⟨fun k => F k ∧ k < w.heap.size, [cs.toList], by simpa using ho, ?_, fun k hk => ⟨fun h => (hF k hk.1).1 h, (hF k hk.1).2, hk.2⟩, fun k hk => by simp only [At] at hk; omega⟩
  exact Ms.cons hc.bound (Ms.nil _ _)
theorem TM.mk3 {w : World} {F : Nat → Prop} {c : List Value} {t : Tr} (h : TM w F c t) : ∃ (n : List UInt8) (v : Int) (ks : List Tr) (A : Option Addr) (p : Nat) (xs : List (List Value)), t = .mk n v ks ∧ c = [Sv n, .int .i64 v, .slice A ks.length p] ∧ Rd w F (.slice A ks.length p) ks.length 3 (xs.flatMap id) ∧ Ms w F xs ks ∧ inK .i64 v ∧ n.length ≤ 1048576 := by
  cases h with
  | mk hr hl hv hn hk =>
    obtain ⟨A, p, rfl, _⟩ := hr.slice_form
    exact ⟨_, _, _, A, p, _, rfl, rfl, hr, ⟨hl, hk⟩, hv, hn⟩
theorem TM.tr {w : World} {F : Nat → Prop} {n : List UInt8} {v : Int} {ks : List Tr} {kv : Value} {xs : List (List Value)} (hr : Rd w F kv ks.length 3 (xs.flatMap id)) (hm : Ms w F xs ks) (hv : inK .i64 v) (hn : n.length ≤ 1048576) : TM w F [Sv n, .int .i64 v, kv] (Tr.mk n v ks) := TR.mk hr hm.1 hv hn hm.2
theorem TM.trz (w : World) (F : Nat → Prop) : TM w F [Sv [], .int .i64 0, .slice none 0 0] Tr.z := TM.tr (xs := []) (Rd.nil _ _ _) (Ms.nil _ _) (by simp [inK]) (by simp)

section
variable {α : Type} {g : St → α × St} {k : Nat} {l : List α} {s : St}
def lstM (n : Nat) (s : St) : Nat := (if n = 0 then 1 else 0) + s.ts.length + (if s.e = 0 then 1 else 0)
theorem lstM_pos {n : Nat} (h : 0 < s.ts.length) : 0 < lstM n s := by unfold lstM; omega
theorem lstQ_stop (h : s.e ≠ 0) : lstQ g k l s = (l, s) := by
  cases k with
  | zero => rfl
  | succ k => simp [lstQ, h]
theorem lstQ_shut (h : s.e = 0) (h2 : isQ s [93] = true) : lstQ g (k + 1) l s = (l, tlQ s) := by simp [lstQ, h, h2]
theorem lstQ_step (h : s.e = 0) (h2 : isQ s [93] = false) : lstQ g (k + 1) l s = lstQ g k (l ++ [(g (if l.length = 0 then s else musQ s [59])).1]) (g (if l.length = 0 then s else musQ s [59])).2 := by simp [lstQ, h, h2]
theorem lstM_step {n : Nat} {s' : St} (h : s.e = 0) (h0 : 0 < s.ts.length) (hs : Pst (if n = 0 then s else musQ s [59]) s') : lstM (n + 1) s' < lstM n s := by
  unfold lstM
  rw [if_neg (by omega), if_pos h]
  by_cases hn : n = 0
  · rw [if_pos hn] at hs
    rw [if_pos hn]
    have := hs.2.1
    split <;> omega
  · rw [if_neg hn] at hs
    rw [if_neg hn]
    unfold musQ at hs
    split at hs
    · have := hs.2.1
      rw [tlQ_len] at this
      split <;> omega
    · have h1 := hs.2.1
      have h2 := hs.2.2.1 (by rw [fauQ_z h]; decide)
      rw [fauQ_ts] at h1
      rw [fauQ_z h] at h2
      rw [if_neg (by omega)]
      omega
end
/-- the contract of a parse function that makes trees -/
def PC {α : Type} {sz : Nat} [Tre α sz] (f : FuncId) (g : St → α × St) (n : Nat) : Prop := ∀ (w : World) (r B0 : Nat) (A : List Tok) (s : St), PS w r B0 A s → s.d ≤ 50 → 51 ≤ s.d + n →
  Ret Tryz.prog f #[.pointer (some ⟨r, 0, none⟩)] w fun v w' => ∃ c, v = .agg c.toArray ∧ TM w' (Bt w.heap.size w'.heap.size) c (g s).1 ∧ PS w' r B0 A (g s).2 ∧ Pst s (g s).2 ∧ Upd (At r) w w'
theorem TM.mk4 {w : World} {F : Nat → Prop} {c : List Value} {t : Pt} (h : TM w F c t) : ∃ (k : Nat) (s : List UInt8) (n : Int) (ks : List Pt) (A : Option Addr) (p : Nat) (xs : List (List Value)), t = .mk k s n ks ∧ c = [.int .u8 (k : Int), Sv s, .int .i64 n, .slice A ks.length p] ∧ Rd w F (.slice A ks.length p) ks.length 4 (xs.flatMap id) ∧ Ms w F xs ks ∧ inK .i64 n := by
  cases h with
  | mk hr hl hv hk =>
    obtain ⟨A, p, rfl, _⟩ := hr.slice_form
    exact ⟨_, _, _, _, A, p, _, rfl, rfl, hr, ⟨hl, hk⟩, hv⟩
theorem TM.pt {w : World} {F : Nat → Prop} {k : Nat} {s : List UInt8} {n : Int} {ks : List Pt} {kv : Value} {xs : List (List Value)} (hr : Rd w F kv ks.length 4 (xs.flatMap id)) (hm : Ms w F xs ks) (hv : inK .i64 n) : TM w F [.int .u8 (k : Int), Sv s, .int .i64 n, kv] (Pt.mk k s n ks) := PtM.mk hr hm.1 hv hm.2
theorem TM.pt0 {w : World} {F : Nat → Prop} {k : Nat} {s : List UInt8} {n : Int} (hv : inK .i64 n) : TM w F [.int .u8 (k : Int), Sv s, .int .i64 n, .slice none 0 0] (Pt.mk k s n []) := TM.pt (xs := []) (Rd.nil _ _ _) (Ms.nil _ _) hv
theorem TM.mk6 {w : World} {F : Nat → Prop} {c : List Value} {t : Ex} (h : TM w F c t) : ∃ (k : Nat) (s : List UInt8) (n : Int) (rc : Bool) (ps : List Pt) (ks : List Ex) (A' : Option Addr) (p' : Nat) (A : Option Addr) (p : Nat) (ys xs : List (List Value)), t = .mk k s n rc ps ks ∧ c = [.int .u8 (k : Int), Sv s, .int .i64 n, .bool rc, .slice A' ps.length p', .slice A ks.length p] ∧ Rd w F (.slice A' ps.length p') ps.length 4 (ys.flatMap id) ∧ Ms w F ys ps ∧ Rd w F (.slice A ks.length p) ks.length 6 (xs.flatMap id) ∧ Ms w F xs ks ∧ inK .i64 n := by
  cases h with
  | mk hp hps hr hl hv hk =>
    obtain ⟨A, p, rfl, _⟩ := hr.slice_form
    obtain ⟨A', p', rfl, _⟩ := hp.slice_form
    exact ⟨_, _, _, _, _, _, A', p', A, p, _, _, rfl, rfl, hp, hps, hr, ⟨hl, hk⟩, hv⟩
theorem TM.ex {w : World} {F : Nat → Prop} {k : Nat} {s : List UInt8} {n : Int} {rc : Bool} {ps : List Pt} {ks : List Ex} {pv kv : Value} {ys xs : List (List Value)} (hp : Rd w F pv ps.length 4 (ys.flatMap id)) (hps : Ms w F ys ps) (hr : Rd w F kv ks.length 6 (xs.flatMap id)) (hm : Ms w F xs ks) (hv : inK .i64 n) : TM w F [.int .u8 (k : Int), Sv s, .int .i64 n, .bool rc, pv, kv] (Ex.mk k s n rc ps ks) := ExM.mk hp hps hr hm.1 hv hm.2
theorem TM.exK {w : World} {F : Nat → Prop} {k : Nat} {s : List UInt8} {n : Int} {rc : Bool} {ks : List Ex} {kv : Value} {xs : List (List Value)} (hr : Rd w F kv ks.length 6 (xs.flatMap id)) (hm : Ms w F xs ks) (hv : inK .i64 n) : TM w F [.int .u8 (k : Int), Sv s, .int .i64 n, .bool rc, .slice none 0 0, kv] (Ex.mk k s n rc [] ks) := TM.ex (ys := []) (Rd.nil _ _ _) (Ms.nil _ _) hr hm hv
theorem TM.ex0 {w : World} {F : Nat → Prop} {k : Nat} {s : List UInt8} {n : Int} {rc : Bool} (hv : inK .i64 n) : TM w F [.int .u8 (k : Int), Sv s, .int .i64 n, .bool rc, .slice none 0 0, .slice none 0 0] (Ex.mk k s n rc [] []) := TM.exK (xs := []) (Rd.nil _ _ _) (Ms.nil _ _) hv
theorem numF_le : ∀ (s : List UInt8) (n m : Nat), n ≤ 4611686018427387903 → numF n s = some m → m ≤ 4611686018427387903
  | [], n, m, hn, h => by simp [numF] at h; omega
  | c :: r, n, m, hn, h => by
    rw [numF] at h
    split at h
    · cases h
    · exact numF_le r _ m (by have := c.toNat_lt; omega) h
theorem numV_in (s : List UInt8) : 0 ≤ numV s ∧ numV s ≤ 4611686018427387903 := by
  unfold numV
  cases h : numF 0 s with
  | none => simp
  | some m => have := numF_le s 0 m (by omega) h; simp only [Option.getD_some]; omega
theorem numV_inK (s : List UInt8) : inK .i64 (numV s) := by have := numV_in s; simp only [inK]; omega
theorem numV_inN (s : List UInt8) : inK .i64 (-numV s) := by have := numV_in s; simp only [inK]; omega
theorem PS.digits {w : World} {r B0 : Nat} {A : List Tok} {s : St} (h : PS w r B0 A s) : (txtQ s 4).1.all dgB = true ∧ (txtQ s 4).1.length ≤ 2000 := by
  refine ⟨?_, txtQ_short h⟩
  unfold txtQ
  split
  · rename_i hk
    exact (h.hdG.2.2 (kdQ_kind hk).2).1
  · rfl
section
set_option maxRecDepth 10000
set_option maxHeartbeats 2000000
theorem fill_5 {c : Array Value} (hc : c.size = 5) (a0 a1 a2 a3 a4 : Value) : Instr.fill (fun i => some (i * 5, 5)) c [(0, .agg #[a0, a1, a2, a3, a4])] = some #[a0, a1, a2, a3, a4] := by
  obtain ⟨l⟩ := c
  match l, hc with
  | [c0, c1, c2, c3, c4], _ =>
    have hA : ∀ a0 a1 a2 a3 a4 : Value, (Value.agg #[a0, a1, a2, a3, a4]).cells = #[a0, a1, a2, a3, a4] := fun _ _ _ _ _ => by simp [Value.cells]
    simp [Instr.fill, hA]
theorem r_buildSlice5 {P : Program} {E : Env} {o : Oper} {w : World} {t e : TypeId} {by_ : Nat} {z : Value} {x : Operand} {a0 a1 a2 a3 a4 : Value} (ho : o.op = .buildSlice t 1 #[(0, x)]) (hx : Env.ev E x = .agg #[a0, a1, a2, a3, a4]) (hr : RowT P t e 5 by_ z) :
    (execOp (Env.ev E) o).run P w = .ok (.value (.slice (some ⟨w.heap.size, 0, none⟩) 1 1)) (w.alloc (.cells #[a0, a1, a2, a3, a4] e)) := by
  refine r_buildSlice (vs := [(0, .agg #[a0, a1, a2, a3, a4])]) ho ⟨⟨rfl, hx⟩, trivial⟩ hr rfl ?_
  refine fill_5 ?_ _ _ _ _ _
  simp [rowCells, hr.cells]
theorem fill_6 {c : Array Value} (hc : c.size = 6) (a0 a1 a2 a3 a4 a5 : Value) : Instr.fill (fun i => some (i * 6, 6)) c [(0, .agg #[a0, a1, a2, a3, a4, a5])] = some #[a0, a1, a2, a3, a4, a5] := by
  obtain ⟨l⟩ := c
  match l, hc with
  | [c0, c1, c2, c3, c4, c5], _ =>
    have hA : ∀ a0 a1 a2 a3 a4 a5 : Value, (Value.agg #[a0, a1, a2, a3, a4, a5]).cells = #[a0, a1, a2, a3, a4, a5] := fun _ _ _ _ _ _ => by simp [Value.cells]
    simp [Instr.fill, hA]
theorem r_buildSlice6 {P : Program} {E : Env} {o : Oper} {w : World} {t e : TypeId} {by_ : Nat} {z : Value} {x : Operand} {a0 a1 a2 a3 a4 a5 : Value} (ho : o.op = .buildSlice t 1 #[(0, x)]) (hx : Env.ev E x = .agg #[a0, a1, a2, a3, a4, a5]) (hr : RowT P t e 6 by_ z) :
    (execOp (Env.ev E) o).run P w = .ok (.value (.slice (some ⟨w.heap.size, 0, none⟩) 1 1)) (w.alloc (.cells #[a0, a1, a2, a3, a4, a5] e)) := by
  refine r_buildSlice (vs := [(0, .agg #[a0, a1, a2, a3, a4, a5])]) ho ⟨⟨rfl, hx⟩, trivial⟩ hr rfl ?_
  refine fill_6 ?_ _ _ _ _ _ _
  simp [rowCells, hr.cells]
theorem fill_11 {c : Array Value} (hc : c.size = 11) (a0 a1 a2 a3 a4 a5 a6 a7 a8 a9 a10 : Value) : Instr.fill (fun i => some (i * 11, 11)) c [(0, .agg #[a0, a1, a2, a3, a4, a5, a6, a7, a8, a9, a10])] = some #[a0, a1, a2, a3, a4, a5, a6, a7, a8, a9, a10] := by
  obtain ⟨l⟩ := c
  match l, hc with
  | [c0, c1, c2, c3, c4, c5, c6, c7, c8, c9, c10], _ =>
    have hA : ∀ a0 a1 a2 a3 a4 a5 a6 a7 a8 a9 a10 : Value, (Value.agg #[a0, a1, a2, a3, a4, a5, a6, a7, a8, a9, a10]).cells = #[a0, a1, a2, a3, a4, a5, a6, a7, a8, a9, a10] := fun _ _ _ _ _ _ _ _ _ _ _ => by simp [Value.cells]
    simp [Instr.fill, hA]
theorem r_buildSlice11 {P : Program} {E : Env} {o : Oper} {w : World} {t e : TypeId} {by_ : Nat} {z : Value} {x : Operand} {a0 a1 a2 a3 a4 a5 a6 a7 a8 a9 a10 : Value} (ho : o.op = .buildSlice t 1 #[(0, x)]) (hx : Env.ev E x = .agg #[a0, a1, a2, a3, a4, a5, a6, a7, a8, a9, a10]) (hr : RowT P t e 11 by_ z) :
    (execOp (Env.ev E) o).run P w = .ok (.value (.slice (some ⟨w.heap.size, 0, none⟩) 1 1)) (w.alloc (.cells #[a0, a1, a2, a3, a4, a5, a6, a7, a8, a9, a10] e)) := by
  refine r_buildSlice (vs := [(0, .agg #[a0, a1, a2, a3, a4, a5, a6, a7, a8, a9, a10])]) ho ⟨⟨rfl, hx⟩, trivial⟩ hr rfl ?_
  refine fill_11 ?_ _ _ _ _ _ _ _ _ _ _ _
  simp [rowCells, hr.cells]
end
end Go.Proofs.YtomkdhkkggbioaaGreatDoor

/-
  A slice written out: two elements of three, and of six cells.
-/
namespace Go.Proofs.YtomkdhkkggbioaaGreatDoor
open Go
set_option linter.unusedSimpArgs false
set_option linter.unusedVariables false
set_option maxRecDepth 10000
set_option maxHeartbeats 2000000

theorem fill_33 {c : Array Value} (hc : c.size = 6) (a0 a1 a2 b0 b1 b2 : Value) :
    Instr.fill (fun i => some (i * 3, 3)) c [(0, .agg #[a0, a1, a2]), (1, .agg #[b0, b1, b2])] = some #[a0, a1, a2, b0, b1, b2] := by
  obtain ⟨l⟩ := c
  match l, hc with
  | [c0, c1, c2, c3, c4, c5], _ =>
    have hA : ∀ u0 u1 u2 : Value, (Value.agg #[u0, u1, u2]).cells = #[u0, u1, u2] := fun _ _ _ => by simp [Value.cells]
    simp [Instr.fill, hA]
theorem r_buildSlice33 {P : Program} {E : Env} {o : Oper} {w : World} {t e : TypeId} {by_ : Nat} {z : Value} {x y : Operand} {a0 a1 a2 b0 b1 b2 : Value} (ho : o.op = .buildSlice t 2 #[(0, x), (1, y)]) (hx : Env.ev E x = .agg #[a0, a1, a2]) (hy : Env.ev E y = .agg #[b0, b1, b2]) (hr : RowT P t e 3 by_ z) :
    (execOp (Env.ev E) o).run P w = .ok (.value (.slice (some ⟨w.heap.size, 0, none⟩) 2 2)) (w.alloc (.cells #[a0, a1, a2, b0, b1, b2] e)) := by
  refine r_buildSlice (vs := [(0, .agg #[a0, a1, a2]), (1, .agg #[b0, b1, b2])]) ho ⟨⟨rfl, hx⟩, ⟨rfl, hy⟩, trivial⟩ hr rfl ?_
  refine fill_33 ?_ _ _ _ _ _ _
  simp [rowCells, hr.cells]

theorem fill_66 {c : Array Value} (hc : c.size = 12) (a0 a1 a2 a3 a4 a5 b0 b1 b2 b3 b4 b5 : Value) :
    Instr.fill (fun i => some (i * 6, 6)) c [(0, .agg #[a0, a1, a2, a3, a4, a5]), (1, .agg #[b0, b1, b2, b3, b4, b5])] = some #[a0, a1, a2, a3, a4, a5, b0, b1, b2, b3, b4, b5] := by
  obtain ⟨l⟩ := c
  match l, hc with
  | [c0, c1, c2, c3, c4, c5, c6, c7, c8, c9, c10, c11], _ =>
    have hA : ∀ u0 u1 u2 u3 u4 u5 : Value, (Value.agg #[u0, u1, u2, u3, u4, u5]).cells = #[u0, u1, u2, u3, u4, u5] := fun _ _ _ _ _ _ => by simp [Value.cells]
    simp [Instr.fill, hA]
theorem r_buildSlice66 {P : Program} {E : Env} {o : Oper} {w : World} {t e : TypeId} {by_ : Nat} {z : Value} {x y : Operand} {a0 a1 a2 a3 a4 a5 b0 b1 b2 b3 b4 b5 : Value} (ho : o.op = .buildSlice t 2 #[(0, x), (1, y)]) (hx : Env.ev E x = .agg #[a0, a1, a2, a3, a4, a5]) (hy : Env.ev E y = .agg #[b0, b1, b2, b3, b4, b5]) (hr : RowT P t e 6 by_ z) :
    (execOp (Env.ev E) o).run P w = .ok (.value (.slice (some ⟨w.heap.size, 0, none⟩) 2 2)) (w.alloc (.cells #[a0, a1, a2, a3, a4, a5, b0, b1, b2, b3, b4, b5] e)) := by
  refine r_buildSlice (vs := [(0, .agg #[a0, a1, a2, a3, a4, a5]), (1, .agg #[b0, b1, b2, b3, b4, b5])]) ho ⟨⟨rfl, hx⟩, ⟨rfl, hy⟩, trivial⟩ hr rfl ?_
  refine fill_66 ?_ _ _ _ _ _ _ _ _ _ _ _ _
  simp [rowCells, hr.cells]
end Go.Proofs.YtomkdhkkggbioaaGreatDoor
