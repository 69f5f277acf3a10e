/-
  law 05: a type that comes in, of a bounded bulk, opened.
-/
import Derived.Test.YtomkdhkkggbioaaGreatDoorFrep
import Derived.Test.YtomkdhkkggbioaaGreatDoorPrm
import Derived.Test.YtomkdhkkggbioaaGreatDoorRows
namespace Go.Proofs.YtomkdhkkggbioaaGreatDoor
open Go Go.ChangeShapes Go.WideShapes Go.ChangeAt Go.RowKit Go.Deep
set_option linter.unusedSimpArgs false
set_option linter.unusedVariables false

theorem bulk_one {H : Type} (d : DataW H) : 1 ≤ Rows.uptoBulk d := by
  cases d with
  | lit l => cases l <;> simp [Rows.uptoBulk]
  | nil => simp [Rows.uptoBulk]
  | ptr d => simp [Rows.uptoBulk]
  | slice elems spare => simp [Rows.uptoBulk]
  | agg parts => simp [Rows.uptoBulk]
  | iface t d => simp [Rows.uptoBulk]
  | map entries => simp [Rows.uptoBulk]
  | held h => simp [Rows.uptoBulk]
theorem bulk_part {H : Type} {d : DataW H} : ∀ {l : List (DataW H)}, d ∈ l → Rows.uptoBulk d ≤ Rows.uptoBulkAll l
  | [], h => by cases h
  | x :: r, h => by
    simp only [Rows.uptoBulkAll]
    rcases List.mem_cons.1 h with e | e
    · subst e; omega
    · have := bulk_part e; omega
theorem bulk_length {H : Type} : ∀ l : List (DataW H), l.length ≤ Rows.uptoBulkAll l
  | [] => by simp [Rows.uptoBulkAll]
  | x :: r => by have h1 := bulk_one x; have h2 := bulk_length r; simp only [Rows.uptoBulkAll, List.length_cons]; omega
theorem bulk_of {H : Type} {l : List (DataW H)} (hk : Rows.uptoSmall H l = true) : Rows.uptoBulkAll l ≤ 1048576 := of_decide_eq_true hk

theorem cellsTy : Tryz.prog.cellsOf 24 = 3 := by kernel_rfl
theorem cellsStr : Tryz.prog.cellsOf 9 = 1 := by kernel_rfl
theorem cellsInt : Tryz.prog.cellsOf 3 = 1 := by kernel_rfl
theorem cellsSl : Tryz.prog.cellsOf 22 = 1 := by kernel_rfl
theorem bytesTy : 0 < Tryz.prog.bytesOf 24 := by decide +kernel

theorem trod0 {H : Type} {enc : TypeId × Value → H} {W : World} {base : Nat} {sp : Nat → Bool} {hd : Bool} {t : TypeId} {cs : List Value} : DataW.trod enc Tryz.prog W base sp hd 0 t cs = none := by simp [DataW.trod]

theorem open_kids {H : Type} {enc : TypeId × Value → H} {W : World} {fuel M : Nat} (hM : M ≤ 1048576) {cs : List Value} {y : DataW H × List MemPlace} (h : DataW.trod enc Tryz.prog W 0 (fun _ => true) true (fuel + 1) 22 cs = some y) (hb : Rows.uptoBulk y.1 ≤ M)
    (ih : ∀ cs (y : DataW H × List MemPlace), DataW.trod enc Tryz.prog W 0 (fun _ => true) true fuel 24 cs = some y → Rows.uptoBulk y.1 ≤ M → ∃ t, TR W (fun k => k < W.heap.size) cs t) :
    ∃ (kv : Value) (ks : List Tr) (xs : List (List Value)), cs = [kv] ∧ Rd W (fun k => k < W.heap.size) kv ks.length 3 (xs.flatMap id) ∧ xs.length = ks.length ∧ ∀ (i : Nat) c k, xs[i]? = some c → ks[i]? = some k → TR W (fun k => k < W.heap.size) c k := by
  rcases DataW.trod_slice Tryz.underlying22 h with ⟨hcs, _⟩ | ⟨a, len, m, elems, rest, n, hn, hcs, rfl, _, hl, hm, hel, hcell, _, _⟩
  · exact ⟨_, [], [], hcs, Rd.nil _ _ _, rfl, fun i c k h1 => by simp at h1⟩
  · obtain rfl : fuel = n := by omega
    simp only [Rows.uptoBulk] at hb
    have hle := bulk_length (elems.map (·.1))
    rw [List.length_map] at hle
    have each : ∀ i, i < len → ∃ ct : List Value × Tr, W.cells? 0 (a.add (i * 3)) 3 = some ct.1 ∧ TR W (fun k => k < W.heap.size) ct.1 ct.2 := fun i hi => by
      have h1 := hcell i hi
      rw [cellsTy, List.getElem?_eq_getElem (by omega), Option.bind_eq_some_iff] at h1
      obtain ⟨c, h1, h2⟩ := h1
      have hp := bulk_part (d := (elems[i]'(by omega)).1) (l := elems.map (·.1)) (List.mem_map.2 ⟨_, List.getElem_mem (by omega), rfl⟩)
      obtain ⟨t, ht⟩ := ih c _ h2 (by omega)
      exact ⟨(c, t), h1, ht⟩
    haveI : Nonempty (List Value × Tr) := ⟨([], .mk [] 0 [])⟩
    obtain ⟨C, hC⟩ := choose_lt each
    have hCl : ∀ i, i < len → (C i).1.length = 3 := fun i hi => (World.cells?_some (hC i hi).1).2.1
    obtain ⟨f1, f2⟩ := flat_get (C := fun i => (C i).1) hCl
    have e9 : ((List.range len).map fun i => (C i).1).flatMap id = (List.range len).flatMap fun i => (C i).1 := by rw [List.flatMap_map]; rfl
    refine ⟨_, (List.range len).map (fun i => (C i).2), (List.range len).map (fun i => (C i).1), hcs, ?_, by simp, fun i c k h1 h2 => ?_⟩
    · rw [e9, List.length_map, List.length_range]
      refine ⟨some a, m, rfl, hl, by omega, f1, fun h0 => ?_⟩
      have hcl : ∀ i j, i < len → j < 3 → W.cell? (a.add (i * 3 + j)) = (C i).1[j]? := fun i j hi hj => by
        rw [← add_add]
        exact (World.cells?_some (hC i hi).1).2.2 j hj
      have hs : a.spot = none := by
        have h1 := hcl 0 0 (by omega) (by decide)
        rw [List.getElem?_eq_getElem (by rw [hCl 0 (by omega)]; decide)] at h1
        simp only [Nat.zero_mul, Nat.zero_add, Addr.add, if_true] at h1
        exact spot_none h1
      obtain ⟨b, off, sp⟩ := a
      simp only at hs
      subst hs
      have hlt : b < W.heap.size := by
        have h1 := hcl 0 0 (by omega) (by decide)
        rw [List.getElem?_eq_getElem (by rw [hCl 0 (by omega)]; decide), Addr.add_lit] at h1
        exact cell_lt h1
      refine ⟨b, off, rfl, hlt, hlt, fun j u hj => ?_⟩
      have hj2 : j < len * 3 := by
        have := (List.getElem?_eq_some_iff.1 hj).1
        rw [f1] at this
        exact this
      have hdv : j / 3 < len := by omega
      have hmd : j % 3 < 3 := Nat.mod_lt _ (by decide)
      have h1 := hcl (j / 3) (j % 3) hdv hmd
      have ej : j / 3 * 3 + j % 3 = j := by omega
      rw [ej, Addr.add_lit] at h1
      rw [h1]
      have h7 := f2 _ hdv
      rw [← h7, List.getElem?_take, if_pos hmd, List.getElem?_drop, ej]
      exact hj
    · rw [List.getElem?_map] at h1 h2
      rcases Nat.lt_or_ge i len with hi | hi
      · rw [List.getElem?_range hi] at h1 h2
        injection h1 with h1
        injection h2 with h2
        subst h1 h2
        exact (hC i hi).2
      · rw [List.getElem?_eq_none (by simpa using hi)] at h1
        cases h1
theorem open_tr {H : Type} {enc : TypeId × Value → H} {W : World} {M : Nat} (hM : M ≤ 1048576) : ∀ (fuel : Nat) (cs : List Value) (y : DataW H × List MemPlace), DataW.trod enc Tryz.prog W 0 (fun _ => true) true fuel 24 cs = some y → Rows.uptoBulk y.1 ≤ M → ∃ t, TR W (fun k => k < W.heap.size) cs t := by
  intro fuel
  induction fuel using Nat.strongRecOn with
  | _ fu ih =>
    intro cs y h hb
    obtain ⟨xs, n, hn, rfl, hlen, hxl, hf⟩ := DataW.trod_struct Tryz.underlying24 h
    have hi : xs.length = 3 := by simpa using hxl
    rw [cellsTy] at hlen
    obtain ⟨c0, c1, c2, rfl⟩ := len3e hlen
    simp only [Rows.uptoBulk] at hb
    have hp : ∀ (i : Nat) (h : i < xs.length), Rows.uptoBulk (xs[i]'h).1 + 1 ≤ M := fun i h => by
      have := bulk_part (d := (xs[i]'h).1) (l := xs.map (·.1)) (List.mem_map.2 ⟨_, List.getElem_mem h, rfl⟩)
      omega
    have h0 := hf 0 _ rfl
    have h1 := hf 1 _ rfl
    have h2 := hf 2 _ rfl
    rw [List.getElem?_eq_getElem (by omega)] at h0 h1 h2
    obtain ⟨fuel, rfl⟩ : ∃ f, n = f + 1 := by
      cases n with
      | zero => rw [trod0] at h0; cases h0
      | succ f => exact ⟨f, rfl⟩
    obtain ⟨s, e0, e0', _⟩ := DataW.trod_string Tryz.underlying9 h0
    obtain ⟨z, e1, _, hz⟩ := DataW.trod_int Tryz.underlying3 h1
    have hp0 := hp 0 (by omega)
    rw [e0'] at hp0
    obtain ⟨kv, ks, ys, e2, hr, hl, hk⟩ := open_kids hM h2 (Nat.le_trans (Nat.le_succ _) (hp 2 (by omega))) (fun cs y h hb => ih fuel (by omega) cs y h hb)
    have d0 : (List.drop 0 [c0, c1, c2]).take (Tryz.prog.cellsOf 9) = _ := e0
    rw [cellsStr] at d0
    have d1 : (List.drop 1 [c0, c1, c2]).take (Tryz.prog.cellsOf 3) = _ := e1
    rw [cellsInt] at d1
    have d2 : (List.drop 2 [c0, c1, c2]).take (Tryz.prog.cellsOf 22) = _ := e2
    rw [cellsSl] at d2
    have g0 : [c0] = [Value.string s] := d0
    have g1 : [c1] = [Value.int .i64 z] := d1
    have g2 : [c2] = [kv] := d2
    injection g0 with g0
    injection g1 with g1
    injection g2 with g2
    subst g0 g1 g2
    have hz' : IntKind.min .i64 ≤ z ∧ z ≤ IntKind.max .i64 := by simpa [Lit.wf] using hz
    have hzk : inK .i64 z := by
      simp only [IntKind.min, IntKind.max, IntKind.signed, IntKind.bits, inK] at hz' ⊢
      simp at hz'
      omega
    refine ⟨.mk s.data.toList z ks, ?_⟩
    have es : Value.string s = Sv s.data.toList := by simp [Sv]
    rw [es]
    refine .mk hr hl hzk ?_ hk
    simp only [Rows.uptoBulk] at hp0
    omega
end Go.Proofs.YtomkdhkkggbioaaGreatDoor
