/-
  octet.Writer: Int, Done, Bytes, Text.
-/
import Derived.Test.YtipabhbnljadfaaDoorWr
namespace Go.Proofs.YtipabhbnljadfaaDoor
open Go
set_option linter.unusedSimpArgs false
set_option linter.unusedVariables false

theorem IsW.bound {w : World} {M : Nat → Prop} {g : Nat} {l : List UInt8} (h : IsW w M g l) : IsW w (fun k => M k ∧ k < w.heap.size) g l := by
  have hg := h.lt
  obtain ⟨v, F, hb, ho, hn, hM, hF⟩ := h
  have := ho.bound
  exact ⟨v, _, hb, this, fun h => hn h.1, ⟨hM, hg⟩, fun k hk => ⟨hF k hk.1, hk.2⟩⟩

theorem wint_ok {w : World} {M : Nat → Prop} {g : Nat} {x : Int} {l : List UInt8} (h : IsW w M g l) (h1 : -9223372036854775808 ≤ x) (h2 : x ≤ 9223372036854775807) (hl : l.length ≤ 140737488355000) :
    Ret Tryd.prog 29 #[.pointer (some ⟨g, 0, none⟩), .int .i64 x] w fun v w' =>
      v = .pointer (some ⟨g, 0, none⟩) ∧ IsW w' (Grow M w w') g (l ++ encU (zig x)) ∧ Upd M w w' := by
  refine enterRet (vs := [_, _]) (N := 14) Tryd.func29 rfl rfl rfl ?_
  refine WC.keep [(0, _), (1, _)] ⟨rfl, rfl, trivial⟩ ?_
  refine WC.seq ?_
  refine WC.region ?_
  refine WL.val rfl rfl rfl rfl (r_assign rfl ev_c) ?_
  refine WL.nil ?_
  refine WX.keep [(0, _), (1, _)] ⟨rfl, rfl, trivial⟩ ?_
  refine WX.next ?_
  refine WC.seq ?_
  refine WC.region ?_
  refine WL.val rfl rfl rfl rfl (r_move rfl (ev_t rfl)) ?_
  refine WL.val rfl rfl rfl rfl (r_move rfl (ev_t rfl)) ?_
  refine WL.val rfl rfl rfl rfl (r_shl rfl (ev_t rfl) ev_c (by omega) (by simp only [IntKind.bits]; omega)) ?_
  refine WL.val rfl rfl rfl rfl (r_conv rfl (ev_t rfl) some_2 int_63) ?_
  refine WL.val rfl rfl rfl rfl (r_move rfl (ev_t rfl)) ?_
  refine WL.val rfl rfl rfl rfl (r_shr rfl (ev_t rfl) ev_c (by omega) (by simp only [IntKind.bits]; omega)) ?_
  refine WL.val rfl rfl rfl rfl (r_conv rfl (ev_t rfl) some_2 int_63) ?_
  refine WL.val rfl rfl rfl rfl (r_xor rfl (ev_t rfl) (ev_t rfl)) ?_
  rw [zig_bits h1 h2]
  refine WL.cons (SO.call (wuint_ok h (zig_lt h1 h2) hl) rfl body_28 ⟨(ev_t rfl), (ev_t rfl), trivial⟩ rfl rfl rfl rfl ?_)
  rintro v w1 ⟨rfl, hI, hu1⟩
  refine WL.val rfl rfl rfl rfl (r_assign rfl (ev_t rfl)) ?_
  refine WL.nil ?_
  refine WX.keep [(4, _)] ⟨rfl, trivial⟩ ?_
  refine WX.next ?_
  refine WC.ret ?_
  refine WX.retE1 rfl rfl ?_
  exact ⟨rfl, hI, hu1⟩

theorem wdone_ok {w : World} {M : Nat → Prop} {g : Nat} {l : List UInt8} (h : IsW w M g l) (hl : l.length ≤ 140737488355328) :
    Ret Tryd.prog 18 #[.pointer (some ⟨g, 0, none⟩)] w fun v w' =>
      Own w' (New w w') 5 1 v l.length (l.map U8) ∧ Upd No w w' := by
  obtain ⟨v, F, hb, ho, hFg, hMg, hFM⟩ := h
  refine enterRet (vs := [_]) (N := 8) Tryd.func18 rfl rfl rfl ?_
  refine WC.keep [(0, _)] ⟨rfl, trivial⟩ ?_
  refine WC.seq ?_
  refine WC.region ?_
  refine WL.val rfl rfl rfl rfl (r_assign rfl ev_c) ?_
  refine WL.nil ?_
  refine WX.keep [(0, _)] ⟨rfl, trivial⟩ ?_
  refine WX.next ?_
  refine WC.seq ?_
  refine WC.region ?_
  refine WL.val rfl rfl rfl rfl (r_move rfl (ev_t rfl)) ?_
  refine WL.val rfl rfl rfl rfl (r_nilCheck rfl (ev_t rfl)) ?_
  first | refine WL.val rfl rfl rfl rfl (r_field0 rfl (ev_t rfl) fld_47_0) ?_ | refine WL.val rfl rfl rfl rfl (r_fieldAt rfl (ev_t rfl) fld_47_0) ?_
  refine WL.val rfl rfl rfl rfl (r_load rfl (ev_t rfl) flat_30 (Blk.cell hb rfl)) ?_
  refine WL.cons (SO.call (clone_ok (ho.rd hl)) rfl body_31 ⟨(ev_t rfl), trivial⟩ rfl rfl rfl rfl ?_)
  rintro v' w1 ⟨ho', hu1⟩
  refine WL.val rfl rfl rfl rfl (r_assign rfl (ev_t rfl)) ?_
  refine WL.nil ?_
  refine WX.keep [(2, _)] ⟨rfl, trivial⟩ ?_
  refine WX.next ?_
  refine WC.ret ?_
  refine WX.retE1 rfl rfl ?_
  exact ⟨ho', hu1⟩

theorem wbytes_ok {w : World} {M F' : Nat → Prop} {g n : Nat} {l m : List UInt8} {b : Value} (h : IsW w M g l) (hr : Rd w F' b n 1 (m.map U8)) (hd : ∀ k, F' k → ¬ M k) (hl : l.length + m.length ≤ 140737488354000) :
    Ret Tryd.prog 45 #[.pointer (some ⟨g, 0, none⟩), b] w fun v w' =>
      v = .pointer (some ⟨g, 0, none⟩) ∧ IsW w' (Grow M w w') g (l ++ (encU m.length ++ m)) ∧ Upd M w w' := by
  obtain ⟨A, c, rfl, hle⟩ := hr.slice_form
  have hn := hr.lenB
  subst hn
  have hx := encU_length m.length
  have hy : blen m.length ≤ 8 := blen_le (by omega)
  replace h := h.bound
  have hgd : ¬ (F' g ∧ g < w.heap.size) := fun h' => hd g h'.1 (by obtain ⟨_, _, _, _, _, hM, _⟩ := h; exact hM.1)
  replace hr := hr.bound
  refine enterRet (vs := [_, _]) (N := 20) Tryd.func45 rfl rfl rfl ?_
  refine WC.keep [(0, _), (1, _)] ⟨rfl, rfl, trivial⟩ ?_
  refine WC.seq ?_
  refine WC.region ?_
  refine WL.val rfl rfl rfl rfl (r_assign rfl ev_c) ?_
  refine WL.nil ?_
  refine WX.keep [(0, _), (1, _)] ⟨rfl, rfl, trivial⟩ ?_
  refine WX.next ?_
  refine WC.seq ?_
  refine WC.region ?_
  refine WL.val rfl rfl rfl rfl (r_move rfl (ev_t rfl)) ?_
  refine WL.val rfl rfl rfl rfl (r_move rfl (ev_t rfl)) ?_
  refine WL.val rfl rfl rfl rfl (r_lenSlice (ts := #[]) rfl (ev_t rfl) elem_30) ?_
  first | refine WL.val rfl rfl rfl rfl (r_convN rfl (ev_t rfl) some_3 int_63 (by simp only [inK]; omega)) ?_ | refine WL.val rfl rfl rfl rfl (r_conv rfl (ev_t rfl) some_3 int_63) ?_
  refine WL.cons (SO.call (wuint_ok h (by omega) (by omega)) rfl body_28 ⟨(ev_t rfl), (ev_t rfl), trivial⟩ rfl rfl rfl rfl ?_)
  rintro v w1 ⟨rfl, hI, hu1⟩
  have hs1 := hu1.size
  replace hr := hr.upd hu1 (by first | exact (fun k hk hl hS => hd k hk.1 hS.1) | exact (fun k hk hl => hd1 k hk) | (intro k hk hl hS; simp only [At] at hS; subst hS; exact hgd hk))
  have hgl := hI.lt
  have hU1 := hu1
  obtain ⟨v1, F1, hb, ho, hFg, hMg, hFM⟩ := hI
  have hd1 : ∀ k, F' k ∧ k < w.heap.size → ¬ F1 k := fun k hk h1 => by
    rcases hFM k h1 with h2 | h2
    · exact hd k hk.1 h2.1
    · have := h2.1; have := hk.2; omega
  have hla : (l ++ encU m.length).length = l.length + (encU m.length).length := List.length_append
  refine WL.nil ?_
  refine WX.keep [(0, _), (1, _)] ⟨rfl, rfl, trivial⟩ ?_
  refine WX.next ?_
  refine WC.seq ?_
  refine WC.region ?_
  refine WL.val rfl rfl rfl rfl (r_move rfl (ev_t rfl)) ?_
  refine WL.val rfl rfl rfl rfl (r_move rfl (ev_t rfl)) ?_
  refine WL.val rfl rfl rfl rfl (r_nilCheck rfl (ev_t rfl)) ?_
  first | refine WL.val rfl rfl rfl rfl (r_field0 rfl (ev_t rfl) fld_47_0) ?_ | refine WL.val rfl rfl rfl rfl (r_fieldAt rfl (ev_t rfl) fld_47_0) ?_
  refine WL.val rfl rfl rfl rfl (r_load rfl (ev_t rfl) flat_30 (Blk.cell hb rfl)) ?_
  refine WL.val rfl rfl rfl rfl (r_move rfl (ev_t rfl)) ?_
  refine WL.cons (SO.append ho hr row_30 (U8_one m) (le_maxLen (by omega)) (by omega) rfl (ev_t rfl) (ev_t rfl) rfl rfl rfl rfl ?_)
  intro v2 w2 ho hu2
  have hs2 := hu2.size
  replace hr := hr.upd hu2 (by first | exact (fun k hk hl hS => hd k hk.1 hS.1) | exact (fun k hk hl => hd1 k hk) | (intro k hk hl hS; simp only [At] at hS; subst hS; exact hgd hk))
  replace hb := hb.upd hu2 (by first | exact hFg | simp only [No, At]; omega)
  obtain ⟨A2, c2, rfl, hc2⟩ := Own.form ho
  refine WL.val rfl rfl rfl rfl (r_nilCheck rfl (ev_t rfl)) ?_
  first | refine WL.val rfl rfl rfl rfl (r_field0 rfl (ev_t rfl) fld_47_0) ?_ | refine WL.val rfl rfl rfl rfl (r_fieldAt rfl (ev_t rfl) fld_47_0) ?_
  refine WL.cons (SO.store rfl (ev_t rfl) (ev_t rfl) size_30 hb rfl rfl rfl rfl rfl ?_)
  intro w3 hu3 hb hz3
  have hs3 := hu3.size
  replace hr := hr.upd hu3 (by first | exact (fun k hk hl hS => hd k hk.1 hS.1) | exact (fun k hk hl => hd1 k hk) | (intro k hk hl hS; simp only [At] at hS; subst hS; exact hgd hk))
  replace ho := ho.upd hu3 (by intro k hk hl hS; simp only [At] at hS; subst hS; exact Grow.old (by omega) hFg hk)
  refine WL.nil ?_
  refine WX.keep [(0, _)] ⟨rfl, trivial⟩ ?_
  refine WX.next ?_
  refine WC.seq ?_
  refine WC.region ?_
  refine WL.val rfl rfl rfl rfl (r_move rfl (ev_t rfl)) ?_
  refine WL.val rfl rfl rfl rfl (r_assign rfl (ev_t rfl)) ?_
  refine WL.nil ?_
  refine WX.keep [(4, _)] ⟨rfl, trivial⟩ ?_
  refine WX.next ?_
  refine WC.ret ?_
  refine WX.retE1 rfl rfl ?_
  obtain ⟨hI', hU'⟩ := IsW.put (m := m) hgl hFg hMg hFM (Upd.refl _ _) rfl ho rfl hu2 hu3 hb rfl
  refine ⟨rfl, ?_, ?_⟩
  · rw [← List.append_assoc]
    exact (hI'.mono (Grow.two hU1 hU')).mono (fun k hk => hk.imp (fun h => h.1) id)
  · exact (hU1.two hU').mono (fun k _ hk => hk.1)

theorem wtext_ok {w : World} {M : Nat → Prop} {g : Nat} {l : List UInt8} {s : ByteArray} (h : IsW w M g l) (hl : l.length + s.size ≤ 140737488354000) :
    Ret Tryd.prog 30 #[.pointer (some ⟨g, 0, none⟩), .string s] w fun v w' =>
      v = .pointer (some ⟨g, 0, none⟩) ∧ IsW w' (Grow M w w') g (l ++ (encU s.size ++ s.toList)) ∧ Upd M w w' := by
  have hs : s.toList.length = s.size := by simp [ByteArray.toList_eq]
  replace h := h.bound
  refine enterRet (vs := [_, _]) (N := 9) Tryd.func30 rfl rfl rfl ?_
  refine WC.keep [(0, _), (1, _)] ⟨rfl, rfl, trivial⟩ ?_
  refine WC.seq ?_
  refine WC.region ?_
  refine WL.val rfl rfl rfl rfl (r_assign rfl ev_c) ?_
  refine WL.nil ?_
  refine WX.keep [(0, _), (1, _)] ⟨rfl, rfl, trivial⟩ ?_
  refine WX.next ?_
  refine WC.seq ?_
  refine WC.region ?_
  refine WL.val rfl rfl rfl rfl (r_move rfl (ev_t rfl)) ?_
  refine WL.val rfl rfl rfl rfl (r_move rfl (ev_t rfl)) ?_
  refine WL.cons (SO.toBytes rfl (ev_t rfl) str_9 elem_30 int_5 (by omega) rfl rfl rfl rfl ?_)
  intro A1 c1 w1 hR1 hu1
  have hs1 := hu1.size
  replace h := h.upd hu1 (fun _ _ _ h => h)
  refine WL.cons (SO.call (wbytes_ok h hR1 (fun k hk hM => by have := hk.1; have := hM.2; omega) (by omega)) rfl body_45 ⟨(ev_t rfl), (ev_t rfl), trivial⟩ rfl rfl rfl rfl ?_)
  rintro v w2 ⟨rfl, hI, hu2⟩
  refine WL.val rfl rfl rfl rfl (r_assign rfl (ev_t rfl)) ?_
  refine WL.nil ?_
  refine WX.keep [(4, _)] ⟨rfl, trivial⟩ ?_
  refine WX.next ?_
  refine WC.ret ?_
  refine WX.retE1 rfl rfl ?_
  refine ⟨rfl, ?_, ?_⟩
  · rw [← hs]
    refine hI.mono fun k hk => ?_
    have h1 := hu1.size
    rcases hk with hk | hk
    · exact .inl hk.1
    · exact .inr ⟨by omega, hk.2⟩
  · exact hu1.no.trans_same (hu2.mono fun k _ hk => hk.1)
end Go.Proofs.YtipabhbnljadfaaDoor
