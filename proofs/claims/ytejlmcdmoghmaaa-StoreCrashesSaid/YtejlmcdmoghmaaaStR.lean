/-
  The store over a drum: opening. No program in sight.
-/
import Derived.Test.YtejlmcdmoghmaaaSw
namespace Go.Proofs.Ytejlmcdmoghmaaa
open Go
set_option linter.unusedSimpArgs false
set_option linter.unusedVariables false

theorem off_same {D : DS} (h : D.off = false) : ({ D with off := false } : DS) = D := by
  obtain ⟨l, m, o, a, f⟩ := D
  simp only at h
  subst h
  rfl
theorem open_half {M : Int} {D : DS} {T : SS} {x : Sn} (h : Half M D T x) (hoff : D.off = false) :
    (D.armed = 0 → (openD D).2 = 0 ∧ (openD D).1.armed = 0) ∧
    (((openD D).2 = 0 ∧ Quiet M (openD D).1 (pickN D 2) ∧ (pickN D 2 = T ∨ (pickN D 2 = ⟨1 - T.side, x⟩ ∧ T.s.idx < x.idx))) ∨ ((openD D).2 = 12 ∧ Half M (openD D).1 T x)) := by
  obtain ⟨p0, p1, h0, h1⟩ := half_tracks h
  have hp : pickN D 2 = pick2 p0 p1 := by rw [pickN_two, track_eq h0, track_eq h1]
  have hpk := pick_half h h0 h1
  rw [off_same hoff, ← hp] at hpk
  obtain ⟨hQ, hT⟩ : Quiet M D (pickN D 2) ∧ (pickN D 2 = T ∨ (pickN D 2 = ⟨1 - T.side, x⟩ ∧ T.s.idx < x.idx)) := by
    rcases hpk with ⟨e, hq⟩ | ⟨e, hq, hi⟩
    · exact ⟨by rw [e]; exact hq, .inl e⟩
    · exact ⟨by rw [e]; exact hq, .inr ⟨e, hi⟩⟩
  unfold openD
  generalize pickN D 2 = T' at hQ hT
  by_cases hz : T'.s.idx = 0
  · rw [if_pos hz]
    exact ⟨fun h0 => ⟨rfl, h0⟩, .inl ⟨rfl, hQ, hT⟩⟩
  · rw [if_neg hz]
    have hs := hQ.side
    have ec : (1 : Int) + (T'.side : Int) = ((1 + T'.side : Nat) : Int) := by omega
    obtain ⟨A, hA, hA2⟩ := hQ.cur
    have hlt : 1 + T'.side < D.l.length := (List.getElem?_eq_some_iff.1 hA).1
    have hl := look_of hlt hoff
    have hb := begin_calm hQ.armed hoff
    rw [ec]
    by_cases ho : D.begin.off = true
    · have hsy : D.sync ((1 + T'.side : Nat) : Int) = (D.begin, 12) := by unfold DS.sync; rw [hl, if_neg (by simp), if_pos ho]
      rw [hsy]
      refine ⟨fun h0 => ?_, .inr ⟨rfl, h.len, h.most, hb.1, h.side, h.cur, h.oth⟩⟩
      rw [(hb.2 h0).2] at ho
      cases ho
    · have hset : D.l.set (1 + T'.side) ⟨A, A, false⟩ = D.l := by
        obtain ⟨hi, he⟩ := List.getElem?_eq_some_iff.1 hA
        rw [← he]
        exact List.set_getElem_self hi
      have hsy : D.sync ((1 + T'.side : Nat) : Int) = (D.begin, 0) := by
        unfold DS.sync
        rw [hl, if_neg (by simp), if_neg ho, Int.toNat_natCast, track_eq hA]
        simp only [DS.setT, DS.begin, hset]
      rw [hsy]
      exact ⟨fun h0 => ⟨rfl, (hb.2 h0).1⟩, .inl ⟨rfl, ⟨hQ.len, hQ.most, hb.1, by simpa using ho, hQ.side, hQ.cur, hQ.oth⟩, hT⟩⟩
theorem open_quiet {M : Int} {D : DS} {T : SS} (h : Quiet M D T) (h0 : D.armed = 0) : ∃ D', openD D = (D', 0) ∧ pickN D 2 = T ∧ Quiet M D' T ∧ D'.armed = 0 := by
  obtain ⟨h1, h2⟩ := open_half (h.half sn0) h.off
  obtain ⟨h3, h4⟩ := h1 h0
  rcases h2 with ⟨_, h5, h6 | ⟨_, h6⟩⟩ | ⟨h5, _⟩
  · rw [h6] at h5
    exact ⟨_, by rw [show openD D = ((openD D).1, (openD D).2) from rfl, h3], h6, h5, h4⟩
  · simp [sn0] at h6
  · omega

theorem restartSt {w : World} {R H : Nat → Prop} {t p : Nat} {D : DS} {T : SS} {cv : Value} {n : Nat} {cuts : List Int} (h : St w R p t D T) (hr : Rd w H cv n 1 (cuts.map I64v)) (hH : ∀ k, H k → k < w.heap.size → ¬ R k) :
    Ret Try.prog 19 #[.pointer (some ⟨p, 0, none⟩), cv] w fun v w' => v = .int .i64 0 ∧ St w' (Grow R w w') p t (D.restart cuts) T ∧ Upd R w w' := by
  obtain ⟨F, G, h1, h2, h3, h4, h5⟩ := h
  refine Ret.mono (Restart_ok h2 hr (fun k hk hl hg => hH k hk hl (h5 k hg).1)) ?_
  rintro v w' ⟨hv, hd, hu⟩
  refine ⟨hv, ⟨F, Grow G w w', h1.upd hu (fun k hk _ => h3 k hk), hd, fun k hk hg => ?_, fun k hk => ⟨.inl (h4 k hk).1, Nat.lt_of_lt_of_le (h4 k hk).2 hu.size⟩, fun k hk => ?_⟩, hu.mono fun k _ hk => (h5 k hk).1⟩
  · rcases hg with hg | hg
    · exact h3 k hk hg
    · have := (h4 k hk).2; omega
  · rcases hk with hk | hk
    · exact ⟨.inl (h5 k hk).1, Nat.lt_of_lt_of_le (h5 k hk).2 hu.size⟩
    · exact ⟨.inr hk, hk.2⟩
theorem armSt {w : World} {R : Nat → Prop} {t p : Nat} {D : DS} {T : SS} {n : Int} (h : St w R p t D T) (hn : 0 ≤ n ∧ n ≤ 1000) :
    Ret Try.prog 21 #[.pointer (some ⟨p, 0, none⟩), .int .i64 n] w fun v w' => v = .int .i64 0 ∧ St w' R p t { D with armed := n } T ∧ Upd R w w' := by
  obtain ⟨F, G, h1, h2, h3, h4, h5⟩ := h
  refine Ret.mono (Arm_ok h2 (n := n) (by simp only [inK]; omega)) ?_
  rintro v w' ⟨hv, hd, hu⟩
  rw [if_neg (by omega)] at hv hd
  exact ⟨hv, ⟨F, G, h1.upd hu (fun k hk _ => h3 k hk), hd, h3, fun k hk => ⟨(h4 k hk).1, Nat.lt_of_lt_of_le (h4 k hk).2 hu.size⟩, fun k hk => ⟨(h5 k hk).1, Nat.lt_of_lt_of_le (h5 k hk).2 hu.size⟩⟩, hu.mono fun k _ hk => (h5 k hk).1⟩

/-- opening anew: the old store stands beside it -/
theorem openKeep {w : World} {R : Nat → Prop} {p t : Nat} {D : DS} {T : SS} (h : St w R p t D T) (hlen : D.l.length = 3) (hoff : D.off = false) :
    Ret Try.prog 32 #[.pointer (some ⟨p, 0, none⟩), .int .i64 1] w fun v w' => Upd R w w' ∧ (∃ u, v = .tuple #[u, .int .i64 ((openD D).2 : Int)]) ∧ St w' (Grow R w w') p t (openD D).1 T := by
  obtain ⟨F, G, h1, h2, h3, h4, h5⟩ := h
  refine Ret.mono (Open_ok h2 hlen hoff (fun k hk => (h5 k hk).2)) ?_
  rintro v w' ⟨hu, F', hd, hF, hc⟩
  refine ⟨hu.mono fun k _ hk => (h5 k hk).1, ?_, F, fun k => F' k ∧ k < w'.heap.size, h1.upd hu (fun k hk _ => h3 k hk), hd.mono fun k hk hl => ⟨hk, hl⟩, fun k hk hk' => ?_, fun k hk => ⟨.inl (h4 k hk).1, Nat.lt_of_lt_of_le (h4 k hk).2 hu.size⟩, fun k hk => ⟨?_, hk.2⟩⟩
  · rcases hc with ⟨_, rfl⟩ | ⟨h0, t', _, rfl, _⟩
    · exact ⟨_, rfl⟩
    · rw [h0]; exact ⟨_, rfl⟩
  · rcases hF k hk'.1 with hg | hg
    · exact h3 k hk hg
    · have := (h4 k hk).2; omega
  · rcases hF k hk.1 with hg | hg
    · exact .inl (h5 k hg).1
    · exact .inr hg
/-- whatever the cuts, what stands is known -/
def Falls (D : DS) (T : SS) (x : Sn) : Prop := ∀ cuts, Half 20000 (D.restart cuts) T x
theorem Quiet.falls {D : DS} {T : SS} (h : Quiet 20000 D T) : Falls D T sn0 := fun cuts => (h.restart cuts).half sn0
theorem Half.falls {D : DS} {T : SS} {x : Sn} (h : Half 20000 D T x) : Falls D T x := fun cuts => h.restart cuts
theorem Cut.falls {D : DS} {T : SS} {x : Sn} (h : Cut 20000 D T x) : Falls D T x := fun cuts => h.restart cuts
theorem Half.arm {M : Int} {D : DS} {T : SS} {x : Sn} (h : Half M D T x) {n : Int} (hn : 0 ≤ n) : Half M { D with armed := n } T x := ⟨h.len, h.most, hn, h.side, h.cur, h.oth⟩
theorem Quiet.arm {M : Int} {D : DS} {T : SS} (h : Quiet M D T) {n : Int} (hn : 0 ≤ n) : Quiet M { D with armed := n } T := ⟨h.len, h.most, hn, h.off, h.side, h.cur, h.oth⟩
theorem save_crash {D : DS} {T : SS} {x : Sn} (h : Quiet 20000 D T) (hx : x.ok) (hl : x.data.length ≤ 5000) :
    ∃ D2 T2 ce, SS.save D 1 T x = (D2, T2, ce) ∧ ((ce = 0 ∧ Quiet 20000 D2 T2 ∧ T2.s = x) ∨ (ce = 12 ∧ T2 = T ∧ Falls D2 T x) ∨ (ce = 16 ∧ T2 = T ∧ Quiet 20000 D2 T)) := by
  have hlb := layB_len hx
  by_cases hi : x.idx ≤ T.s.idx
  · exact ⟨D, T, 16, if_pos hi, .inr (.inr ⟨rfl, rfl, h⟩)⟩
  · obtain ⟨_, _, h2⟩ := save_quiet (x := x) h hx (by omega) (by omega)
    refine ⟨_, _, _, rfl, ?_⟩
    rcases h2 with ⟨h5, h6, h7⟩ | ⟨h5, h6, h7⟩
    · exact .inl ⟨h5, h7, h6⟩
    · exact .inr (.inl ⟨h5, h6, h7.falls⟩)

/-- a call: its kind, a snapshot, which index, how many bytes, the cuts -/
structure ActS where
  kind : Int
  s : Sn
  sv : Value
  near : Int
  n : Int
  cv : Value
  cuts : List Int
def ActS.cells (a : ActS) : List Value := [.int .u8 a.kind, .int .u64 (a.s.idx : Int), .int .u64 (a.s.term : Int), a.sv, .int .u8 a.near, .int .u16 a.n, a.cv]
theorem ActS.cells_len (a : ActS) : a.cells.length = 7 := rfl
structure ActS.OK (w : World) (a : ActS) : Prop where
  kind : 0 ≤ a.kind ∧ a.kind ≤ 255
  idx : a.s.idx < 18446744073709551616
  term : a.s.term < 18446744073709551616
  near : 0 ≤ a.near ∧ a.near ≤ 255
  n : 0 ≤ a.n ∧ a.n ≤ 65535
  data : Rd w (fun k => k < w.heap.size) a.sv a.s.data.length 1 (a.s.data.map U8)
  cuts : Rd w (fun k => k < w.heap.size) a.cv a.cuts.length 1 (a.cuts.map I64v)
/-- the snapshot that a call means -/
def snapA (a : ActS) (last : Nat) : Sn :=
  ⟨if 0 < a.near % 4 ∧ last < 1152921504606846976 then last + (a.near % 4).toNat - 1 else a.s.idx, a.s.term, if 128 ≤ a.near then List.replicate (a.n % 2000).toNat 0 ++ a.s.data else a.s.data⟩
theorem snapA_ok {w : World} {a : ActS} {last : Nat} (h : a.OK w) (hl : a.s.data.length ≤ 3000) : (snapA a last).ok ∧ (snapA a last).data.length ≤ 5000 := by
  have h1 := h.near
  have h2 := h.n
  have h3 : (snapA a last).data.length ≤ 5000 := by
    simp only [snapA]
    split
    · rw [List.length_append, List.length_replicate]; omega
    · omega
  refine ⟨⟨?_, h.term, by omega⟩, h3⟩
  simp only [snapA]
  split
  · omega
  · exact h.idx
end Go.Proofs.Ytejlmcdmoghmaaa
