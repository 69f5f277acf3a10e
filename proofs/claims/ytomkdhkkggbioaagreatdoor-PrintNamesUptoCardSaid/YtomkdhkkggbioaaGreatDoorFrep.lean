/-
  Arguments of any shape, opened: numbers, bools, texts, structs and slices, to any depth.
-/
import Derived.Test.YtomkdhkkggbioaaGreatDoorFopen
namespace Go.Proofs.YtomkdhkkggbioaaGreatDoor
open Go Go.ChangeShapes Go.WideShapes Go.ChangeAt Go.RowKit Go.Deep
set_option linter.unusedSimpArgs false
set_option linter.unusedVariables false

/-- cells that are of a type: what they lead to lies in memory -/
def Rep (P : Program) (W : World) : Nat → TypeId → List Value → Prop
  | 0, _, _ => False
  | f + 1, t, cs => match P.underlying t with
    | some .bool => ∃ b, cs = [.bool b]
    | some (.int k) => ∃ n, cs = [.int k n] ∧ inK k n
    | some .string => ∃ s : List UInt8, cs = [.string ⟨s.toArray⟩] ∧ s.length ≤ 140737488351232
    | some (.slice e) => 0 < P.cellsOf e → 0 < P.bytesOf e → ∃ v n xs, cs = [v] ∧ n * P.bytesOf e ≤ 140737488351232 ∧ Rd W (fun k => k < W.heap.size) v n (P.cellsOf e) xs ∧ ∀ i, i < n → Rep P W f e ((xs.drop (i * P.cellsOf e)).take (P.cellsOf e))
    | some (.struct fs) => cs.length = P.cellsOf t ∧ ∀ (i : Nat) (q : Field), fs[i]? = some q → Rep P W f q.type ((cs.drop q.offset).take (P.cellsOf q.type))
    | _ => True

theorem Rep.bool {P : Program} {W : World} {f : Nat} {t : TypeId} {cs : List Value} (h : Rep P W f t cs) (ht : P.underlying t = some .bool) : ∃ b, cs = [.bool b] := by
  cases f with
  | zero => exact h.elim
  | succ f => simp only [Rep, ht] at h; exact h
theorem Rep.int {P : Program} {W : World} {f : Nat} {t : TypeId} {k : IntKind} {cs : List Value} (h : Rep P W f t cs) (ht : P.underlying t = some (.int k)) : ∃ n, cs = [.int k n] ∧ inK k n := by
  cases f with
  | zero => exact h.elim
  | succ f => simp only [Rep, ht] at h; exact h
theorem Rep.str {P : Program} {W : World} {f : Nat} {t : TypeId} {cs : List Value} (h : Rep P W f t cs) (ht : P.underlying t = some .string) : ∃ s : List UInt8, cs = [.string ⟨s.toArray⟩] ∧ s.length ≤ 140737488351232 := by
  cases f with
  | zero => exact h.elim
  | succ f => simp only [Rep, ht] at h; exact h
theorem Rep.slice {P : Program} {W : World} {f : Nat} {t e : TypeId} {cs : List Value} (h : Rep P W f t cs) (ht : P.underlying t = some (.slice e)) (hc : 0 < P.cellsOf e) (hb : 0 < P.bytesOf e) :
    ∃ g v n xs, f = g + 1 ∧ cs = [v] ∧ n * P.bytesOf e ≤ 140737488351232 ∧ Rd W (fun k => k < W.heap.size) v n (P.cellsOf e) xs ∧ ∀ i, i < n → Rep P W g e ((xs.drop (i * P.cellsOf e)).take (P.cellsOf e)) := by
  cases f with
  | zero => exact h.elim
  | succ f =>
    simp only [Rep, ht] at h
    obtain ⟨v, n, xs, h1, h2, h3, h4⟩ := h hc hb
    exact ⟨f, v, n, xs, rfl, h1, h2, h3, h4⟩
theorem Rep.struct {P : Program} {W : World} {f : Nat} {t : TypeId} {fs : Array Field} {cs : List Value} (h : Rep P W f t cs) (ht : P.underlying t = some (.struct fs)) :
    ∃ g, f = g + 1 ∧ cs.length = P.cellsOf t ∧ ∀ (i : Nat) (q : Field), fs[i]? = some q → Rep P W g q.type ((cs.drop q.offset).take (P.cellsOf q.type)) := by
  cases f with
  | zero => exact h.elim
  | succ f => simp only [Rep, ht] at h; exact ⟨f, rfl, h.1, h.2⟩

theorem spot_none {w : World} {a : Addr} {v : Value} (h : w.cell? a = some v) : a.spot = none := by
  unfold World.cell? at h
  split at h
  · split at h
    · cases h
    · rename_i hs
      simpa using hs
  · cases h
theorem choose_lt {α : Type} [Nonempty α] {n : Nat} {p : Nat → α → Prop} (h : ∀ i, i < n → ∃ x, p i x) : ∃ f : Nat → α, ∀ i, i < n → p i (f i) :=
  ⟨fun i => if hi : i < n then Classical.choose (h i hi) else Classical.choice inferInstance, fun i hi => by simp only [hi, dif_pos]; exact Classical.choose_spec (h i hi)⟩
theorem weightsAll_mem {H : Type} {P : Program} {e : TypeId} {d : DataW H} : ∀ {l : List (DataW H)}, d ∈ l → ∀ x ∈ d.weights P e, x ∈ DataW.weightsAll P e l
  | [], h, _, _ => by cases h
  | a :: l, h, x, hx => by
    simp only [DataW.weightsAll, List.mem_append]
    rcases List.mem_cons.1 h with rfl | h
    · exact .inl hx
    · exact .inr (weightsAll_mem h x hx)
theorem weightsEach_mem {H : Type} {P : Program} : ∀ {ts : List TypeId} {l : List (DataW H)} {i : Nat} {t : TypeId} {d : DataW H}, ts[i]? = some t → l[i]? = some d → ∀ x ∈ d.weights P t, x ∈ DataW.weightsEach P ts l
  | [], _, _, _, _, h, _, _, _ => by simp at h
  | _ :: _, [], _, _, _, _, h, _, _ => by simp at h
  | t :: ts, d :: l, 0, _, _, h1, h2, x, hx => by
    simp only [List.getElem?_cons_zero, Option.some.injEq] at h1 h2
    subst h1 h2
    simp only [DataW.weightsEach, List.mem_append]
    exact .inl hx
  | t :: ts, d :: l, i + 1, _, _, h1, h2, x, hx => by
    simp only [DataW.weightsEach, List.mem_append]
    exact .inr (weightsEach_mem (i := i) (by simpa using h1) (by simpa using h2) x hx)

theorem flat_get {C : Nat → List Value} {sz : Nat} : ∀ {n : Nat}, (∀ i, i < n → (C i).length = sz) → ((List.range n).flatMap C).length = n * sz ∧ ∀ i, i < n → ((((List.range n).flatMap C).drop (i * sz)).take sz) = C i
  | 0, _ => ⟨by simp, fun i h => by omega⟩
  | n + 1, h => by
    obtain ⟨h1, h2⟩ := flat_get (n := n) fun i hi => h i (by omega)
    have e : (List.range (n + 1)).flatMap C = (List.range n).flatMap C ++ C n := by rw [List.range_succ, List.flatMap_append]; simp
    rw [e]
    refine ⟨by rw [List.length_append, h1, h n (by omega), Nat.add_mul, Nat.one_mul], fun i hi => ?_⟩
    by_cases hin : i = n
    · subst hin
      rw [List.drop_left' h1, List.take_of_length_le (by rw [h i (by omega)]; exact Nat.le_refl _)]
    · have hle : i * sz + sz ≤ n * sz := by
        rw [← Nat.succ_mul]
        exact Nat.mul_le_mul_right _ (by omega)
      rw [List.drop_append_of_le_length (by omega), List.take_append_of_le_length (by rw [List.length_drop]; omega)]
      exact h2 i (by omega)

theorem open_rep {H : Type} {enc : TypeId × Value → H} {P : Program} {W : World} : ∀ (fuel : Nat) (t : TypeId) (cs : List Value) (y : DataW H × List MemPlace), DataW.trod enc P W 0 (fun _ => true) true fuel t cs = some y →
    (y.1.weights P t).all (· ≤ reachBytes) = true → Rep P W fuel t cs
  | 0, t, cs, y, h, _ => by simp [DataW.trod] at h
  | fuel + 1, t, cs, y, h, hw => by
    have hrb : reachBytes = 140737488351232 := rfl
    cases hu : P.underlying t with
    | none => simp only [Rep, hu]
    | some d =>
      cases d with
      | bool =>
        simp only [Rep, hu]
        obtain ⟨b, h1, _⟩ := DataW.trod_bool hu h
        exact ⟨b, h1⟩
      | int k =>
        simp only [Rep, hu]
        obtain ⟨n, h1, _, hwf⟩ := DataW.trod_int hu h
        refine ⟨n, h1, ?_⟩
        have hwf' : k.min ≤ n ∧ n ≤ k.max := by simpa [Lit.wf] using hwf
        cases k <;> simp only [IntKind.min, IntKind.max, IntKind.signed, IntKind.bits, inK] at hwf' ⊢ <;> simp at hwf' <;> omega
      | string =>
        simp only [Rep, hu]
        obtain ⟨s, h1, h2, h3⟩ := DataW.trod_string hu h
        refine ⟨s.data.toList, h1, ?_⟩
        rw [h2] at hw
        simp [DataW.weights, hrb] at hw
        simpa using hw
      | slice e =>
        simp only [Rep, hu]
        intro hc hb
        rcases DataW.trod_slice hu h with ⟨hcs, _⟩ | ⟨a, len, m, elems, rest, n, hn, hcs, rfl, _, hl, hm, hel, hcell, _, _⟩
        · exact ⟨_, 0, [], hcs, by omega, Rd.nil _ _ _, fun i hi => by omega⟩
        · obtain rfl : fuel = n := by omega
          simp only [DataW.weights, hu, List.all_cons, Bool.and_eq_true, decide_eq_true_eq, List.length_map, List.all_append] at hw
          have hby : len * P.bytesOf e ≤ 140737488351232 := by
            have h1 := hw.1
            have h3 : elems.length * P.bytesOf e ≤ (elems.length + rest.length) * P.bytesOf e := Nat.mul_le_mul_right _ (by omega)
            rw [hel] at h3
            rw [hel] at h1
            omega
          have hsz : len ≤ 140737488351232 := by
            have h3 : len * 1 ≤ len * P.bytesOf e := Nat.mul_le_mul_left _ hb
            omega
          have each : ∀ i, i < len → ∃ c : List Value, W.cells? 0 (a.add (i * P.cellsOf e)) (P.cellsOf e) = some c ∧ Rep P W fuel e c := fun i hi => by
            have h1 := hcell i hi
            rw [List.getElem?_eq_getElem (by omega), Option.bind_eq_some_iff] at h1
            obtain ⟨c, h1, h2⟩ := h1
            exact ⟨c, h1, open_rep fuel e c _ h2 (List.all_eq_true.2 fun x hx => List.all_eq_true.1 hw.2.1 x (weightsAll_mem (List.mem_map.2 ⟨_, List.getElem_mem (by omega), rfl⟩) x hx))⟩
          obtain ⟨C, hC⟩ := choose_lt each
          have hCl : ∀ i, i < len → (C i).length = P.cellsOf e := fun i hi => (World.cells?_some (hC i hi).1).2.1
          obtain ⟨f1, f2⟩ := flat_get hCl
          refine ⟨_, len, (List.range len).flatMap C, hcs, hby, ?_, fun i hi => by rw [f2 i hi]; exact (hC i hi).2⟩
          refine ⟨some a, m, rfl, hl, by omega, f1, fun h0 => ?_⟩
          have hcl : ∀ i j, i < len → j < P.cellsOf e → W.cell? (a.add (i * P.cellsOf e + j)) = (C i)[j]? := fun i j hi hj => by
            rw [← add_add]
            exact (World.cells?_some (hC i hi).1).2.2 j hj
          have hs : a.spot = none := by
            have h1 := hcl 0 0 (by omega) hc
            rw [List.getElem?_eq_getElem (by rw [hCl 0 (by omega)]; exact hc)] at h1
            simp only [Nat.zero_mul, Nat.zero_add, Addr.add, if_true] at h1
            exact spot_none h1
          obtain ⟨b, off, sp⟩ := a
          simp only at hs
          subst hs
          have hlt : b < W.heap.size := by
            have h1 := hcl 0 0 (by omega) hc
            rw [List.getElem?_eq_getElem (by rw [hCl 0 (by omega)]; exact hc), Addr.add_lit] at h1
            exact cell_lt h1
          refine ⟨b, off, rfl, hlt, hlt, fun j u hj => ?_⟩
          have hj2 : j < len * P.cellsOf e := by
            have := (List.getElem?_eq_some_iff.1 hj).1
            rw [f1] at this
            exact this
          have hdv : j / P.cellsOf e < len := Nat.div_lt_of_lt_mul (by rw [Nat.mul_comm]; exact hj2)
          have hmd : j % P.cellsOf e < P.cellsOf e := Nat.mod_lt _ hc
          have h1 := hcl (j / P.cellsOf e) (j % P.cellsOf e) hdv hmd
          have ej : j / P.cellsOf e * P.cellsOf e + j % P.cellsOf e = j := by rw [Nat.mul_comm]; exact Nat.div_add_mod j _
          rw [ej, Addr.add_lit] at h1
          rw [h1, ← f2 _ hdv, List.getElem?_take, if_pos hmd, List.getElem?_drop, ej]
          exact hj
      | struct fs =>
        simp only [Rep, hu]
        obtain ⟨xs, n, hn, rfl, hlen, hxl, hf⟩ := DataW.trod_struct hu h
        obtain rfl : fuel = n := by omega
        refine ⟨hlen, fun i q hq => ?_⟩
        have h1 := hf i q hq
        have hi : i < fs.size := (Array.getElem?_eq_some_iff.1 hq).1
        rw [List.getElem?_eq_getElem (by omega)] at h1
        refine open_rep fuel q.type _ _ h1 (List.all_eq_true.2 fun x hx => List.all_eq_true.1 hw x ?_)
        simp only [DataW.weights, hu]
        refine weightsEach_mem (i := i) ?_ ?_ x hx
        · simp [hq]
        · rw [List.getElem?_map, List.getElem?_eq_getElem (by omega)]
          rfl
      | _ => simp only [Rep, hu]

theorem list_of {α : Type} {dec : α → List Value} {Q : α → Prop} {sz : Nat} : ∀ (n : Nat) (xs : List Value), xs.length = n * sz → (∀ i, i < n → ∃ a, (xs.drop (i * sz)).take sz = dec a ∧ Q a) → ∃ l : List α, l.length = n ∧ xs = l.flatMap dec ∧ ∀ a ∈ l, Q a
  | 0, xs, hl, _ => ⟨[], rfl, List.eq_nil_of_length_eq_zero (by simpa using hl), fun a h => by cases h⟩
  | n + 1, xs, hl, h => by
    obtain ⟨a, ha, hq⟩ := h 0 (by omega)
    rw [Nat.zero_mul, List.drop_zero] at ha
    obtain ⟨l, h1, h2, h3⟩ := list_of (dec := dec) (Q := Q) (sz := sz) n (xs.drop sz) (by rw [List.length_drop, hl, Nat.add_mul, Nat.one_mul, Nat.add_sub_cancel]) (fun i hi => by
      obtain ⟨a, h1, h2⟩ := h (i + 1) (by omega)
      refine ⟨a, ?_, h2⟩
      rw [List.drop_drop, ← h1, Nat.add_mul, Nat.one_mul, Nat.add_comm])
    refine ⟨a :: l, by simp [h1], ?_, fun b hb => ?_⟩
    · rw [List.flatMap_cons, ← h2, ← ha, List.take_append_drop]
    · rcases List.mem_cons.1 hb with rfl | hb
      · exact hq
      · exact h3 b hb

/-- a slice, its elements decoded -/
theorem Rep.list {α : Type} {P : Program} {W : World} {f : Nat} {t e : TypeId} {cs : List Value} (dec : α → List Value) (Q : Nat → α → Prop) (h : Rep P W f t cs) (ht : P.underlying t = some (.slice e)) (hc : 0 < P.cellsOf e) (hb : 0 < P.bytesOf e)
    (hel : ∀ g cs, g < f → Rep P W g e cs → ∃ a, cs = dec a ∧ Q g a) : ∃ (v : Value) (l : List α) (g : Nat), g < f ∧ cs = [v] ∧ l.length * P.bytesOf e ≤ 140737488351232 ∧ Rd W (fun k => k < W.heap.size) v l.length (P.cellsOf e) (l.flatMap dec) ∧ ∀ a ∈ l, Q g a := by
  obtain ⟨g, v, n, xs, rfl, hcs, hby, hr, hR⟩ := h.slice ht hc hb
  obtain ⟨l, h1, h2, h3⟩ := list_of (dec := dec) (Q := Q g) n xs hr.len (fun i hi => hel g _ (Nat.lt_succ_self g) (hR i hi))
  subst h1 h2
  exact ⟨v, l, g, Nat.lt_succ_self g, hcs, hby, hr, h3⟩

theorem flatMap_single {α β : Type} (f : α → β) (l : List α) : (l.flatMap fun a => [f a]) = l.map f := by
  induction l with
  | nil => rfl
  | cons a l ih => rw [List.flatMap_cons, ih]; rfl

theorem Rep.bytes {P : Program} {W : World} {f : Nat} {t e : TypeId} {cs : List Value} (h : Rep P W f t cs) (ht : P.underlying t = some (.slice e)) (he : P.underlying e = some (.int .u8)) (hc : P.cellsOf e = 1) (hb : P.bytesOf e = 1) :
    ∃ (v : Value) (l : List UInt8), cs = [v] ∧ l.length ≤ 140737488351232 ∧ Rd W (fun k => k < W.heap.size) v l.length 1 (l.map U8) := by
  obtain ⟨v, l, g, _, h1, h2, h3, _⟩ := h.list (fun c : UInt8 => [U8 c]) (fun _ _ => True) ht (by omega) (by omega) (fun g cs _ hr => by
    obtain ⟨n, h1, h2⟩ := hr.int he
    simp only [inK] at h2
    refine ⟨UInt8.ofNat n.toNat, ?_, trivial⟩
    rw [h1]
    simp only [U8, UInt8.toNat_ofNat']
    congr 2
    omega)
  rw [hc, flatMap_single] at h3
  exact ⟨v, l, h1, by rw [hb] at h2; omega, h3⟩
theorem Rep.ints {P : Program} {W : World} {f : Nat} {t e : TypeId} {k : IntKind} {cs : List Value} (h : Rep P W f t cs) (ht : P.underlying t = some (.slice e)) (he : P.underlying e = some (.int k)) (hc : P.cellsOf e = 1) (hb : 0 < P.bytesOf e) :
    ∃ (v : Value) (l : List Int), cs = [v] ∧ l.length * P.bytesOf e ≤ 140737488351232 ∧ Rd W (fun k => k < W.heap.size) v l.length 1 (l.map fun n => .int k n) ∧ ∀ n ∈ l, inK k n := by
  obtain ⟨v, l, g, _, h1, h2, h3, h4⟩ := h.list (fun n : Int => [.int k n]) (fun _ n => inK k n) ht (by omega) hb (fun g cs _ hr => hr.int he)
  rw [hc, flatMap_single] at h3
  exact ⟨v, l, h1, h2, h3, h4⟩

theorem Rep.field {P : Program} {W : World} {g : Nat} {fs : Array Field} {cs : List Value} (hf : ∀ (i : Nat) (q : Field), fs[i]? = some q → Rep P W g q.type ((cs.drop q.offset).take (P.cellsOf q.type))) (i : Nat) {q : Field} {t o n : Nat} (hq : fs[i]? = some q) (ht : q.type = t) (ho : q.offset = o) (hn : P.cellsOf t = n) : Rep P W g t ((cs.drop o).take n) := by
  subst ht ho hn
  exact hf i q hq

theorem len1 {cs : List Value} (h : cs.length = 1) : ∃ c0, cs = [c0] := by
  match cs, h with
  | [c0], _ => exact ⟨_, rfl⟩
theorem len2 {cs : List Value} (h : cs.length = 2) : ∃ c0 c1, cs = [c0, c1] := by
  match cs, h with
  | [c0, c1], _ => exact ⟨_, _, rfl⟩
theorem len3 {cs : List Value} (h : cs.length = 3) : ∃ c0 c1 c2, cs = [c0, c1, c2] := by
  match cs, h with
  | [c0, c1, c2], _ => exact ⟨_, _, _, rfl⟩
theorem len4 {cs : List Value} (h : cs.length = 4) : ∃ c0 c1 c2 c3, cs = [c0, c1, c2, c3] := by
  match cs, h with
  | [c0, c1, c2, c3], _ => exact ⟨_, _, _, _, rfl⟩
theorem len5 {cs : List Value} (h : cs.length = 5) : ∃ c0 c1 c2 c3 c4, cs = [c0, c1, c2, c3, c4] := by
  match cs, h with
  | [c0, c1, c2, c3, c4], _ => exact ⟨_, _, _, _, _, rfl⟩
theorem len6 {cs : List Value} (h : cs.length = 6) : ∃ c0 c1 c2 c3 c4 c5, cs = [c0, c1, c2, c3, c4, c5] := by
  match cs, h with
  | [c0, c1, c2, c3, c4, c5], _ => exact ⟨_, _, _, _, _, _, rfl⟩
theorem len7 {cs : List Value} (h : cs.length = 7) : ∃ c0 c1 c2 c3 c4 c5 c6, cs = [c0, c1, c2, c3, c4, c5, c6] := by
  match cs, h with
  | [c0, c1, c2, c3, c4, c5, c6], _ => exact ⟨_, _, _, _, _, _, _, rfl⟩
theorem len8 {cs : List Value} (h : cs.length = 8) : ∃ c0 c1 c2 c3 c4 c5 c6 c7, cs = [c0, c1, c2, c3, c4, c5, c6, c7] := by
  match cs, h with
  | [c0, c1, c2, c3, c4, c5, c6, c7], _ => exact ⟨_, _, _, _, _, _, _, _, rfl⟩

/-- a slice that is handed in -/
theorem open_slice_rep {H : Type} {enc : TypeId × Value → H} {P : Program} {W : World} {base : Nat} {v : Value} {d : DataW H} {ps : List MemPlace} {t e : TypeId} (ht : P.underlying t = some (.slice e))
    (hv : Value.okWide P W .any base t v) (h : DataW.Trod enc P W 0 (fun _ => true) true t v d ps) (hw : (d.weights P t).all (· ≤ reachBytes) = true) : ∃ f, Rep P W f t [v] := by
  obtain ⟨fuel, h⟩ := h
  have h1 := open_rep fuel t _ _ h hw
  rcases okWide_slice ht hv with rfl | ⟨b, off, len, cap, rfl, hle⟩
  · exact ⟨fuel, h1⟩
  · exact ⟨fuel, h1⟩
theorem rep_bytes {P : Program} {W : World} {t e : TypeId} {v : Value} (h : ∃ f, Rep P W f t [v]) (ht : P.underlying t = some (.slice e)) (he : P.underlying e = some (.int .u8)) (hc : P.cellsOf e = 1) (hb : P.bytesOf e = 1) :
    ∃ l : List UInt8, l.length ≤ 140737488351232 ∧ Rd W (fun k => k < W.heap.size) v l.length 1 (l.map U8) := by
  obtain ⟨f, h⟩ := h
  obtain ⟨v', l, h1, h2, h3⟩ := h.bytes ht he hc hb
  simp only [List.cons.injEq, and_true] at h1
  subst h1
  exact ⟨l, h2, h3⟩
theorem rep_ints {P : Program} {W : World} {t e : TypeId} {k : IntKind} {v : Value} (h : ∃ f, Rep P W f t [v]) (ht : P.underlying t = some (.slice e)) (he : P.underlying e = some (.int k)) (hc : P.cellsOf e = 1) (hb : 0 < P.bytesOf e) :
    ∃ l : List Int, l.length * P.bytesOf e ≤ 140737488351232 ∧ Rd W (fun k => k < W.heap.size) v l.length 1 (l.map fun n => .int k n) ∧ ∀ n ∈ l, inK k n := by
  obtain ⟨f, h⟩ := h
  obtain ⟨v', l, h1, h2, h3, h4⟩ := h.ints ht he hc hb
  simp only [List.cons.injEq, and_true] at h1
  subst h1
  exact ⟨l, h2, h3, h4⟩
end Go.Proofs.YtomkdhkkggbioaaGreatDoor
