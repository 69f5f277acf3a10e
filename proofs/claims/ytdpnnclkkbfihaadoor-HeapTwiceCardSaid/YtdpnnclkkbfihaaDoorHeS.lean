/-
  bytes.Buffer: WriteByte and String, the kit's contracts laid at this program (printed by the kit's lay-plain.mjs), and their use.
-/
import Derived.Shelf.LaysM
import Derived.Shelf.Bytes.StringAt
import Derived.Shelf.Bytes.WriteByteAt
import Derived.Test.YtdpnnclkkbfihaaDoorHef
namespace Go.Proofs
open Go.Shelf
def Tryd.laysM182_ren : Go.Shelf.Ren := ⟨fun | 182 => 47 | n => n, fun | 130 => 98 | 9 => 9 | 4 => 4 | 0 => 0 | 93 => 88 | 37 => 63 | 3 => 3 | 91 => 86 | 5 => 5 | n => n, fun | n => n⟩
theorem Tryd.laysM182 : Go.Proofs.LaysM.n182 Tryd.prog Tryd.laysM182_ren := {
  mixed := by kernel_rfl
  f182 := Tryd.func47.trans (congrArg some (by kernel_rfl))
  t0 := Tryd.underlying0
  a0 := Tryd.isAgg0
  z0 := Tryd.sizeOf0
  v0 := Tryd.zeroValue0
  t3 := Tryd.underlying3
  a3 := Tryd.isAgg3
  z3 := Tryd.sizeOf3
  v3 := Tryd.zeroValue3
  t4 := Tryd.underlying4
  a4 := Tryd.isAgg4
  z4 := Tryd.sizeOf4
  v4 := Tryd.zeroValue4
  t9 := Tryd.underlying9
  a9 := Tryd.isAgg9
  z9 := Tryd.sizeOf9
  v9 := Tryd.zeroValue9
  t37 := Tryd.underlying63
  a37 := Tryd.isAgg63
  z37 := Tryd.sizeOf63
  v37 := Tryd.zeroValue63
  t93 := Tryd.underlying88
  a93 := Tryd.isAgg88
  z93 := Tryd.sizeOf88
  v93 := Tryd.zeroValue88
  t130 := Tryd.underlying98
  a130 := Tryd.isAgg98
  z130 := Tryd.sizeOf98
  v130 := Tryd.zeroValue98
  t5 := Tryd.underlying5
  a5 := Tryd.isAgg5
  z5 := Tryd.sizeOf5
  v5 := Tryd.zeroValue5
  t91 := Tryd.underlying86
  a91 := Tryd.isAgg86
  z91 := Tryd.sizeOf86
  v91 := Tryd.zeroValue86
  i0 := by kernel_rfl
  i3 := by kernel_rfl
  i4 := by kernel_rfl
  i5 := by kernel_rfl
  i9 := by kernel_rfl
  i37 := by kernel_rfl
  i91 := by kernel_rfl
  i93 := by kernel_rfl
  i130 := by kernel_rfl }
open Go.RowKit in
theorem Tryd.Buffer_String_at (T : TypeId) (R : Nat → Option Value) (B b q : Nat) (l : List UInt8) (w : World) (h : LibA.IsBuffer T R 5 B b q (Lib.byteCells l) w) :
    Calls Tryd.prog 47 #[.pointer (some ⟨b, q, none⟩)] w fun e w' => e = .returned (.string ⟨l.toArray⟩) ∧ ∃ n, w' = w.drewN n := Any.Buffer_String_at Tryd.laysM182 T R B b q l w h
def Tryd.laysM179_ren : Go.Shelf.Ren := ⟨fun | 179 => 45 | 251 => 50 | 252 => 51 | 181 => 52 | 184 => 53 | 290 => 54 | 324 => 55 | n => n, fun | 130 => 98 | 5 => 5 | 75 => 90 | 0 => 0 | 93 => 88 | 91 => 86 | 3 => 3 | 131 => 99 | 4 => 4 | 37 => 63 | 20 => 20 | 80 => 92 | 9 => 9 | n => n, fun | 14 => 0 | n => n⟩
theorem Tryd.laysM179 : Go.Proofs.LaysM.n179 Tryd.prog Tryd.laysM179_ren := {
  mixed := by kernel_rfl
  f179 := Tryd.func45.trans (congrArg some (by kernel_rfl))
  f181 := Tryd.func52.trans (congrArg some (by kernel_rfl))
  f184 := Tryd.func53.trans (congrArg some (by kernel_rfl))
  f251 := Tryd.func50.trans (congrArg some (by kernel_rfl))
  f252 := Tryd.func51.trans (congrArg some (by kernel_rfl))
  f290 := Tryd.func54.trans (congrArg some (by kernel_rfl))
  f324 := Tryd.func55.trans (congrArg some (by kernel_rfl))
  t0 := Tryd.underlying0
  a0 := Tryd.isAgg0
  z0 := Tryd.sizeOf0
  v0 := Tryd.zeroValue0
  t3 := Tryd.underlying3
  a3 := Tryd.isAgg3
  z3 := Tryd.sizeOf3
  v3 := Tryd.zeroValue3
  t4 := Tryd.underlying4
  a4 := Tryd.isAgg4
  z4 := Tryd.sizeOf4
  v4 := Tryd.zeroValue4
  t5 := Tryd.underlying5
  a5 := Tryd.isAgg5
  z5 := Tryd.sizeOf5
  v5 := Tryd.zeroValue5
  t20 := Tryd.underlying20
  a20 := Tryd.isAgg20
  z20 := Tryd.sizeOf20
  v20 := Tryd.zeroValue20
  t37 := Tryd.underlying63
  a37 := Tryd.isAgg63
  z37 := Tryd.sizeOf63
  v37 := Tryd.zeroValue63
  t75 := Tryd.underlying90
  a75 := Tryd.isAgg90
  z75 := Tryd.sizeOf90
  v75 := Tryd.zeroValue90
  t91 := Tryd.underlying86
  a91 := Tryd.isAgg86
  z91 := Tryd.sizeOf86
  v91 := Tryd.zeroValue86
  t93 := Tryd.underlying88
  a93 := Tryd.isAgg88
  z93 := Tryd.sizeOf88
  v93 := Tryd.zeroValue88
  t130 := Tryd.underlying98
  a130 := Tryd.isAgg98
  z130 := Tryd.sizeOf98
  v130 := Tryd.zeroValue98
  t131 := Tryd.underlying99
  a131 := Tryd.isAgg99
  z131 := Tryd.sizeOf99
  v131 := Tryd.zeroValue99
  g14 := by kernel_rfl
  t9 := Tryd.underlying9
  a9 := Tryd.isAgg9
  z9 := Tryd.sizeOf9
  v9 := Tryd.zeroValue9
  t80 := Tryd.underlying92
  a80 := Tryd.isAgg92
  z80 := Tryd.sizeOf92
  v80 := Tryd.zeroValue92
  i0 := by kernel_rfl
  i3 := by kernel_rfl
  i4 := by kernel_rfl
  i5 := by kernel_rfl
  i9 := by kernel_rfl
  i20 := by kernel_rfl
  i37 := by kernel_rfl
  i75 := by kernel_rfl
  i80 := by kernel_rfl
  i91 := by kernel_rfl
  i93 := by kernel_rfl
  i130 := by kernel_rfl
  i131 := by kernel_rfl
  m14 := by kernel_rfl }
open Go.RowKit in
theorem Tryd.Buffer_WriteByte_at (T : TypeId) (R : Nat → Option Value) (B b q : Nat) (bs : List Value) (c : Int) (w : World) (h : LibA.IsBuffer T R 5 B b q bs w) (hBw : B ≤ w.heap.size) (h1 : ∀ v ∈ bs, v.oneCell' = true) (hlim : bs.length + 1 ≤ 140737488355328) :
    Calls Tryd.prog 45 #[.pointer (some ⟨b, q, none⟩), .int .u8 c] w fun e w' => e = .returned .nilIface ∧ LibA.IsBuffer T R 5 B b q (bs ++ [.int .u8 c]) w' ∧ Below B w w' ∧ Lib.OthersKept 5 (some b) w w' := Any.Buffer_WriteByte_at Tryd.laysM179 T R B b q bs c w h hBw h1 hlim
end Go.Proofs
namespace Go.Proofs.YtdpnnclkkbfihaaDoor
open Go
set_option linter.unusedSimpArgs false
set_option linter.unusedVariables false

/-- a bytes.Buffer with these bytes: its block is b, its row lies behind it -/
def Buf (w : World) (b : Nat) (l : List UInt8) : Prop := LibA.IsBuffer 88 (fun _ => none) 5 b b 0 (l.map U8) w
theorem Buf.new {w : World} {b : Nat} (h : Blk w b #[.slice none 0 0, .int .i64 0, .int .i8 0] 88) : Buf w b [] :=
  LibA.zero_isBuffer (Nat.le_refl _) (LibA.three_whole h)
theorem Buf.lt {w : World} {b : Nat} {l : List UInt8} (h : Buf w b l) : b < w.heap.size := LibA.IsBuffer.lt h
theorem Buf.upd {w w' : World} {b : Nat} {l : List UInt8} {S : Nat → Prop} (h : Buf w b l) (hu : Upd S w w') (hn : ∀ k, b ≤ k → k < w.heap.size → ¬ S k) : Buf w' b l := by
  obtain ⟨hB, v, lr, h3, ⟨hl, ho⟩, hne⟩ := h
  refine ⟨hB, v, lr, h3.of_heap (hu.block b h3.lt (hn b (Nat.le_refl _) h3.lt)), ⟨hl, ?_⟩, hne⟩
  rcases ho with hh | ⟨g, cap, cur, rfl, hb, hg, rest⟩
  · exact .inl hh
  · have hgl := (Array.getElem?_eq_some_iff.1 hg).1
    exact .inr ⟨g, cap, cur, rfl, hb, (hu.block g hgl (hn g hb hgl)).trans hg, rest⟩
theorem Upd.of_below {B : Nat} {w w' : World} (h : Go.RowKit.Below B w w') : Upd (From B) w w' :=
  ⟨h.os, h.tape, h.output, h.size, fun k _ hn => h.block k (by unfold From at hn; omega)⟩
theorem bwrite_ok {w : World} {b : Nat} {l : List UInt8} {x : UInt8} (h : Buf w b l) (hl : l.length ≤ 1000000000) :
    Ret Tryd.prog 45 #[.pointer (some ⟨b, 0, none⟩), .int .u8 (x.toNat : Int)] w fun v w' => Buf w' b (l ++ [x]) ∧ Upd (From b) w w' := by
  refine Calls.mono (Tryd.Buffer_WriteByte_at _ _ b b 0 _ (x.toNat : Int) w h (Nat.le_of_lt h.lt) (fun v hv => ?_) (by simp; omega)) ?_
  · obtain ⟨y, _, rfl⟩ := List.mem_map.1 hv
    rfl
  · rintro e w' ⟨rfl, h1, h2, _⟩
    refine ⟨_, rfl, ?_, Upd.of_below h2⟩
    unfold Buf
    rw [List.map_append]
    exact h1
theorem drewN_upd (n : Nat) (w : World) : Upd No w (w.drewN n) := ⟨rfl, rfl, rfl, Nat.le_refl _, fun _ _ _ => rfl⟩
theorem bstring_ok {w : World} {b : Nat} {l : List UInt8} (h : Buf w b l) :
    Ret Tryd.prog 47 #[.pointer (some ⟨b, 0, none⟩)] w fun v w' => v = .string ⟨l.toArray⟩ ∧ Upd No w w' := by
  refine Calls.mono (Tryd.Buffer_String_at _ _ b b 0 l w h) ?_
  rintro e w' ⟨rfl, n, rfl⟩
  exact ⟨_, rfl, rfl, drewN_upd n w⟩
end Go.Proofs.YtdpnnclkkbfihaaDoor
