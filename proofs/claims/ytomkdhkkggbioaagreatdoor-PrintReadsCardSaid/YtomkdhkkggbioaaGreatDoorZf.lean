/-
  Several texts put together: RtR, Pbe, Pbf, RtS, Prb, Prc, Prd, Pre, Prg, Pri, Prj, Prk, Rta.
-/
import Derived.Test.YtomkdhkkggbioaaGreatDoorZe
/-
  A type's text is lexed as its tokens; these are parsed as the type. In plain Lean.
-/
namespace Go.Proofs.YtomkdhkkggbioaaGreatDoor
open Go
set_option linter.unusedSimpArgs false
set_option linter.unusedVariables false

theorem tkT_nil {f : Nat} {v a : Int} {ks : List Tr} : tkT (f + 1) (.mk [] v ks) a = [⟨3, varS v⟩] := rfl
theorem tkT_arr {f : Nat} {v a : Int} {k0 k1 : Tr} : tkT (f + 1) (.mk [45, 62] v [k0, k1]) a = brkT (decide (0 < a)) (tkT f k0 1 ++ sgT [45, 62] :: tkT f k1 0) := rfl
theorem tkT_star {f : Nat} {v a : Int} {ks : List Tr} : tkT (f + 1) (.mk [42] v ks) a = brkT (decide (1 < a)) (inter [sgT [42]] (ks.map fun k => tkT f k 2)) := rfl
theorem tkT_bare {f : Nat} {n : List UInt8} {v a : Int} (h0 : n ≠ []) (h1 : n ≠ [45, 62]) (h2 : n ≠ [42]) : tkT (f + 1) (.mk n v []) a = [⟨1, n⟩] := by
  unfold tkT
  rw [if_neg h0, if_neg h1, if_neg h2]
theorem tkT_one {f : Nat} {n : List UInt8} {v a : Int} {k0 : Tr} (h0 : n ≠ []) (h1 : n ≠ [45, 62]) (h2 : n ≠ [42]) : tkT (f + 1) (.mk n v [k0]) a = tkT f k0 2 ++ [⟨1, n⟩] := by
  conv => lhs; unfold tkT
  rw [if_neg h0, if_neg h1, if_neg h2]
theorem tkT_many {f : Nat} {n : List UInt8} {v a : Int} {k0 k1 : Tr} {r : List Tr} (h0 : n ≠ []) (h1 : n ≠ [45, 62]) (h2 : n ≠ [42]) : tkT (f + 1) (.mk n v (k0 :: k1 :: r)) a = sgT [40] :: (inter [sgT [44]] ((k0 :: k1 :: r).map fun k => tkT f k 0) ++ [sgT [41], ⟨1, n⟩]) := by
  conv => lhs; unfold tkT
  rw [if_neg h0, if_neg h1, if_neg h2]
theorem Bgn.pre {s : List UInt8} (h : Bgn s) (r : List UInt8) : Bgn (s ++ r) := by
  obtain ⟨c, l, rfl, hc⟩ := h
  exact ⟨c, l ++ r, rfl, hc⟩
theorem lex_inter {sep : List UInt8} {st : Tok} {S : Tr → List UInt8} {T : Tr → List Tok} (hs : ∀ r, LX sep [st] r) (hst : ∀ r, Stp (sep ++ r)) : ∀ ks : List Tr, ks ≠ [] → (∀ k ∈ ks, (∀ r, Stp r → LX (S k) (T k) r) ∧ Bgn (S k)) → (∀ r, Stp r → LX (inter sep (ks.map S)) (inter [st] (ks.map T)) r) ∧ Bgn (inter sep (ks.map S))
  | [], h, _ => absurd rfl h
  | [k], _, h => by simpa only [List.map_cons, List.map_nil, inter] using h k (by simp)
  | k :: k1 :: r0, _, h => by
    have h1 := h k (by simp)
    have h2 := lex_inter hs hst (k1 :: r0) (by simp) (fun x hx => h x (by simp [hx]))
    refine ⟨fun r hr => ?_, ?_⟩
    · have h3 := h2.1 r hr
      simp only [List.map_cons, inter] at h3 ⊢
      refine LX.app (LX.app (h1.1 _ ?_) (hs _)) h3
      exact hst _
    · simp only [List.map_cons, inter, List.append_assoc]
      exact h1.2.pre _
theorem lex_brk {b : Bool} {s : List UInt8} {ts : List Tok} (h : (∀ r, Stp r → LX s ts r) ∧ Bgn s) : (∀ r, Stp r → LX (brk b s) (brkT b ts) r) ∧ Bgn (brk b s) := by
  cases b with
  | false => exact h
  | true =>
    refine ⟨fun r hr => ?_, ⟨40, _, rfl, by decide⟩⟩
    show LX ([40] ++ s ++ [41]) (sgT [40] :: (ts ++ [sgT [41]])) r
    have h1 : LX ([40] ++ (s ++ [41])) ([sgT [40]] ++ (ts ++ [sgT [41]])) r := LX.app (LX.opn (by rw [List.append_assoc]; exact h.2.app _)) (LX.app (h.1 _ (Stp.of (by decide))) (LX.shut r))
    rw [List.append_assoc]
    exact h1
theorem lex_typ {N : Nat} (hN : N ≤ 26) : ∀ (f : Nat) (t : Tr) (a : Int), szT t ≤ f → gT N t → (∀ r, Stp r → LX (typS f t a) (tkT f t a) r) ∧ Bgn (typS f t a)
  | 0, t, a, h, _ => by have := szT_pos t; omega
  | f + 1, .mk n v ks, a, h, hg => by
    rw [szT] at h
    rw [gT, gTs_mem] at hg
    obtain ⟨hsh, hk⟩ := hg
    have each : ∀ b : Int, ∀ k ∈ ks, (∀ r, Stp r → LX (typS f k b) (tkT f k b) r) ∧ Bgn (typS f k b) := fun b k hm => lex_typ hN f k b (by have := szTs_mem hm; omega) (hk k hm)
    have hsp : ∀ (w : List UInt8) (t : Tok), (∀ r, LX w [t] r) → ∀ r, LX ([32] ++ w ++ [32]) [t] r := fun w t hw r => by
      have := LX.app (LX.app (LX.sp _) (hw _)) (LX.sp r)
      simpa using this
    rcases hsh with ⟨rfl, rfl, h1, h2⟩ | ⟨rfl, ⟨rfl, hl⟩ | ⟨rfl, hl⟩ | hnb⟩
    · rw [typS_nil, tkT_nil]
      refine ⟨fun r hr => LX.var h1 (by omega) hr, ?_⟩
      unfold varS
      rw [if_pos (by omega)]
      exact ⟨39, _, rfl, by decide⟩
    · obtain ⟨k0, k1, rfl⟩ : ∃ k0 k1, ks = [k0, k1] := by
        match ks, hl with
        | [a, b], _ => exact ⟨a, b, rfl⟩
      have e0 := each 1 k0 (by simp)
      have e1 := each 0 k1 (by simp)
      rw [typS_arr, tkT_arr]
      refine lex_brk ⟨fun r hr => ?_, by rw [List.append_assoc]; exact e0.2.pre _⟩
      have h1 := LX.app (LX.app (e0.1 _ (Stp.of (r := 45 :: 62 :: 32 :: (typS f k1 0 ++ r)) (c := 32) (by decide))) (hsp [45, 62] (sgT [45, 62]) LX.arrow _)) (e1.1 r hr)
      simpa using h1
    · rw [typS_star, tkT_star, join_inter]
      refine lex_brk (lex_inter (hsp [42] (sgT [42]) LX.star) (fun r => Stp.of (by decide)) ks (by intro e; subst e; simp at hl) (each 2))
    · obtain ⟨hl, h0, h4, h5⟩ := nameB_len hnb
      match ks, each with
      | [], _ => rw [typS_bare h0 h4 h5, tkT_bare h0 h4 h5]; exact ⟨fun r hr => LX.name hnb hr, nameB_bgn hnb⟩
      | [k0], each =>
        have e0 := each 2 k0 (by simp)
        rw [typS_one h0 h4 h5, tkT_one h0 h4 h5]
        refine ⟨fun r hr => ?_, by rw [List.append_assoc]; exact e0.2.pre _⟩
        have h1 := LX.app (LX.app (e0.1 _ (Stp.of (c := 32) (r := n ++ r) (by decide))) (LX.sp _)) (LX.name hnb hr)
        simpa using h1
      | k0 :: k1 :: r0, each =>
        rw [typS_many h0 h4 h5, tkT_many h0 h4 h5, join_inter]
        refine ⟨fun r hr => ?_, ⟨40, _, rfl, by decide⟩⟩
        have hc : ∀ r, LX [44, 32] [sgT [44]] r := fun r => by
          have := LX.app (LX.comma _) (LX.sp r)
          simpa using this
        have hi := lex_inter hc (fun r => Stp.of (by decide)) (k0 :: k1 :: r0) (by simp) (each 0)
        have h1 := LX.app (LX.app (LX.app (LX.opn (r := inter [44, 32] ((k0 :: k1 :: r0).map fun k => typS f k 0) ++ ([41, 32] ++ (n ++ r))) (hi.2.app _)) (hi.1 _ (Stp.of (c := 41) (r := 32 :: (n ++ r)) (by decide)))) (LX.app (LX.shut _) (LX.sp _))) (LX.name hnb hr)
        simpa using h1

/-! parsing -/
def vs4 : List (List UInt8) := [[39, 97], [39, 98], [39, 99], [39, 100]]
theorem has4 {v : Int} (h1 : 1 ≤ v) (h2 : v ≤ 4) : (hasQ vs4 (varS v) : Int) = v := by
  rcases (show v = 1 ∨ v = 2 ∨ v = 3 ∨ v = 4 by omega) with h | h | h | h <;> subst h <;> decide
abbrev S0 (ts : List Tok) (d : Nat) : St := ⟨ts, d, 0⟩
/-- either a fault of depth, or that -/
def O5 {α : Type} (p : α × St) (x : α) (s : St) : Prop := p.2.e = 5 ∨ p = (x, s)
theorem opnQ_S0 {ts : List Tok} {d : Nat} : (d ≤ 49 ∧ opnQ (S0 ts d) = S0 ts (d + 1)) ∨ (50 ≤ d ∧ (opnQ (S0 ts d)).e = 5) := by
  rcases Nat.lt_or_ge d 50 with h | h
  · left
    refine ⟨by omega, ?_⟩
    unfold opnQ
    rw [if_neg (by show ¬ (0 = 0 ∧ 50 < d + 1); omega)]
  · right
    refine ⟨h, ?_⟩
    unfold opnQ
    rw [if_pos (by show 0 = 0 ∧ 50 < d + 1; omega)]
theorem isQ_sg {w u : List UInt8} {ts : List Tok} {d : Nat} : isQ (S0 (sgT w :: ts) d) u = decide (w = u) := by simp [isQ, S0, St.hd, sgT]
theorem isQ_nm {k : Nat} {w u : List UInt8} {ts : List Tok} {d : Nat} (h : k ≠ 7 ∧ k ≠ 6) : isQ (S0 (⟨k, w⟩ :: ts) d) u = false := by simp [isQ, S0, St.hd, h.1, h.2]
theorem kdQ_S0 {k j : Nat} {w : List UInt8} {ts : List Tok} {d : Nat} : kdQ (S0 (⟨k, w⟩ :: ts) d) j = decide (k = j) := by simp [kdQ, S0, St.hd]
theorem tlQ_S0 {t : Tok} {ts : List Tok} {d : Nat} : tlQ (S0 (t :: ts) d) = S0 ts d := rfl
theorem musQ_S0 {w : List UInt8} {ts : List Tok} {d : Nat} : musQ (S0 (sgT w :: ts) d) w = S0 ts d := by unfold musQ; rw [if_pos (by rw [isQ_sg]; simp)]; rfl
theorem Pst.five {s s' : St} (h : Pst s s') (he : s.e = 5) : s'.e = 5 := by rw [h.2.2.1 (by omega), he]
/-- where one is done with a type that stands ahead of a name -/
def RA (n : Nat) (ts : List Tok) (d : Nat) (t : Tr) (rest : List Tok) : Prop :=
  ((tq n).app vs4 (S0 ts d)).2.e = 5 ∨ ∃ k l s k', ((tq n).app vs4 (S0 ts d)) = ((tnmQ k l s).1.headD Tr.z, clsQ (tnmQ k l s).2) ∧ rest.length ≤ k' ∧ tnmQ k l s = tnmQ k' [t] (S0 rest (d + 1))
def PA (f : Nat) (t : Tr) : Prop := ∀ n d rest, 51 ≤ d + n → d ≤ 50 → RA n (tkT f t 2 ++ rest) d t rest
def NoN (rest : List Tok) : Prop := ∀ t, rest.head? = some t → t.k ≠ 1
def NoS (w : List UInt8) (rest : List Tok) : Prop := ∀ t, rest.head? = some t → ¬ (t.s = w ∧ (t.k = 7 ∨ t.k = 6))
theorem NoS.isQ {w : List UInt8} {rest : List Tok} {d : Nat} (h : NoS w rest) (hw : w ≠ []) : isQ (S0 rest d) w = false := by
  unfold Proofs.YtomkdhkkggbioaaGreatDoor.isQ St.hd
  cases rest with
  | nil => simp
  | cons t r =>
    have := h t rfl
    simp only [List.headD_cons]
    simp only [Bool.and_eq_false_iff, decide_eq_false_iff_not, Bool.or_eq_false_iff]
    by_cases hs : t.s = w
    · right; right
      exact ⟨decide_eq_false fun e => this ⟨hs, .inl e⟩, decide_eq_false fun e => this ⟨hs, .inr e⟩⟩
    · right; left; exact decide_eq_false hs
theorem NoN.kdQ {rest : List Tok} {d : Nat} (h : NoN rest) : kdQ (S0 rest d) 1 = false := by
  unfold Proofs.YtomkdhkkggbioaaGreatDoor.kdQ St.hd
  cases rest with
  | nil => simp
  | cons t r => have := h t rfl; simp [this]
theorem PA.done {f : Nat} {t : Tr} (h : PA f t) {n d : Nat} {rest : List Tok} (h1 : 51 ≤ d + n) (h2 : d ≤ 50) (hr : NoN rest) : O5 ((tq n).app vs4 (S0 (tkT f t 2 ++ rest) d)) t (S0 rest d) := by
  rcases h n d rest h1 h2 with h | ⟨k, l, s, k', h3, h4, h5⟩
  · exact .inl h
  · right
    rw [h3, h5, tnmQ_stop hr.kdQ]
    show (t, clsQ (S0 rest (d + 1))) = _
    rfl
def PB (f : Nat) (t : Tr) : Prop := ∀ n d rest, 51 ≤ d + n → d ≤ 50 → NoN rest → NoS [42] rest →
  (sepQ ((tq n).app vs4) [42] ((tq n).app vs4 (S0 (tkT f t 1 ++ rest) d)).2.ts.length [((tq n).app vs4 (S0 (tkT f t 1 ++ rest) d)).1] ((tq n).app vs4 (S0 (tkT f t 1 ++ rest) d)).2).2.e = 5 ∨
  (starQ (sepQ ((tq n).app vs4) [42] ((tq n).app vs4 (S0 (tkT f t 1 ++ rest) d)).2.ts.length [((tq n).app vs4 (S0 (tkT f t 1 ++ rest) d)).1] ((tq n).app vs4 (S0 (tkT f t 1 ++ rest) d)).2).1 = t ∧ (sepQ ((tq n).app vs4) [42] ((tq n).app vs4 (S0 (tkT f t 1 ++ rest) d)).2.ts.length [((tq n).app vs4 (S0 (tkT f t 1 ++ rest) d)).1] ((tq n).app vs4 (S0 (tkT f t 1 ++ rest) d)).2).2 = S0 rest d)
def PC9 (f : Nat) (t : Tr) : Prop := ∀ n d rest, 51 ≤ d + n → d ≤ 50 → NoN rest → NoS [42] rest → NoS [45, 62] rest → O5 ((tq n).arr vs4 (S0 (tkT f t 0 ++ rest) d)) t (S0 rest d)
theorem PB.of {f : Nat} {t : Tr} (h : PA f t) (e : tkT f t 1 = tkT f t 2) : PB f t := by
  intro n d rest h1 h2 hn hs
  rw [e]
  rcases h.done h1 h2 hn with h5 | h5
  · left
    exact (Mo.sep (Mo.tq vs4 n).2 _ _ _ _).five h5
  · right
    rw [h5, sepQ_stop (hs.isQ (by simp))]
    exact ⟨rfl, rfl⟩
theorem arr_succ {n : Nat} {vs : List (List UInt8)} {s : St} : (tq (n + 1)).arr vs s = arrB (tq n) vs s := rfl
theorem app_succ {n : Nat} {vs : List (List UInt8)} {s : St} : (tq (n + 1)).app vs s = appB (tq n) vs s := rfl
theorem PC9.of {f : Nat} {t : Tr} (h : PB f t) (e : tkT f t 0 = tkT f t 1) : PC9 f t := by
  intro n d rest h1 h2 hn hs ha
  obtain ⟨m, rfl⟩ : ∃ m, n = m + 1 := ⟨n - 1, by omega⟩
  rw [e, arr_succ]
  rcases opnQ_S0 (ts := tkT f t 1 ++ rest) (d := d) with ⟨hd, ho⟩ | ⟨hd, ho⟩
  · rcases h m (d + 1) rest (by omega) (by omega) hn hs with h5 | ⟨h5, h6⟩
    · left
      unfold arrB
      rw [ho, if_pos rfl]
      dsimp only
      rw [if_neg (by rw [isQ_e (by omega)]; simp)]
      exact h5
    · right
      unfold arrB
      rw [ho, if_pos rfl]
      dsimp only
      rw [h6, if_neg (by rw [ha.isQ (by simp)]; simp), h5]
      rfl
  · left
    unfold arrB
    rw [if_neg (by omega)]
    exact ho
theorem PA.brk {f : Nat} {t : Tr} (h : PC9 f t) (e : tkT f t 2 = sgT [40] :: (tkT f t 0 ++ [sgT [41]])) : PA f t := by
  intro n d rest h1 h2
  obtain ⟨m, rfl⟩ : ∃ m, n = m + 1 := ⟨n - 1, by omega⟩
  unfold RA
  rw [app_succ, e]
  rcases opnQ_S0 (ts := sgT [40] :: (tkT f t 0 ++ [sgT [41]]) ++ rest) (d := d) with ⟨hd, ho⟩ | ⟨hd, ho⟩
  · have hc := h m (d + 1) (sgT [41] :: rest) (by omega) (by omega) (fun t ht => by simp at ht; subst ht; decide) (fun t ht => by simp at ht; subst ht; decide) (fun t ht => by simp at ht; subst ht; decide)
    have hq : (sgT [40] :: (tkT f t 0 ++ [sgT [41]]) ++ rest) = sgT [40] :: (tkT f t 0 ++ sgT [41] :: rest) := by simp
    rw [hq] at ho ⊢
    unfold appB
    rw [ho, if_pos rfl]
    have hap : apbB (tq m) vs4 (S0 (sgT [40] :: (tkT f t 0 ++ sgT [41] :: rest)) (d + 1)) = ((sepQ ((tq m).arr vs4) [44] ((tq m).arr vs4 (S0 (tkT f t 0 ++ sgT [41] :: rest) (d + 1))).2.ts.length [((tq m).arr vs4 (S0 (tkT f t 0 ++ sgT [41] :: rest) (d + 1))).1] ((tq m).arr vs4 (S0 (tkT f t 0 ++ sgT [41] :: rest) (d + 1))).2).1,
        (fun b : List Tr × St => if 1 < b.1.length ∧ (musQ b.2 [41]).e = 0 ∧ kdQ (musQ b.2 [41]) 1 = false then fauQ (musQ b.2 [41]) 4 else musQ b.2 [41]) (sepQ ((tq m).arr vs4) [44] ((tq m).arr vs4 (S0 (tkT f t 0 ++ sgT [41] :: rest) (d + 1))).2.ts.length [((tq m).arr vs4 (S0 (tkT f t 0 ++ sgT [41] :: rest) (d + 1))).1] ((tq m).arr vs4 (S0 (tkT f t 0 ++ sgT [41] :: rest) (d + 1))).2)) := by
      unfold apbB
      rw [if_neg (by rw [sgT, kdQ_S0]; decide), if_neg (by rw [sgT, kdQ_S0]; decide), musQ_S0]
    dsimp only
    rcases hc with hc | hc
    · left
      have h9 : (sepQ ((tq m).arr vs4) [44] ((tq m).arr vs4 (S0 (tkT f t 0 ++ sgT [41] :: rest) (d + 1))).2.ts.length [((tq m).arr vs4 (S0 (tkT f t 0 ++ sgT [41] :: rest) (d + 1))).1] ((tq m).arr vs4 (S0 (tkT f t 0 ++ sgT [41] :: rest) (d + 1))).2).2.e = 5 := (Mo.sep (Mo.tq vs4 m).1 _ _ _ _).five hc
      rw [hap]
      dsimp only
      refine (Mo.tnm _ _ _).five ?_
      split
      · exact (Pst.fau _ _).five ((Pst.mus _ _).five h9)
      · exact (Pst.mus _ _).five h9
    · right
      rw [hap, hc]
      dsimp only
      rw [sepQ_stop (by rw [isQ_sg]; decide)]
      dsimp only
      rw [musQ_S0, if_neg (by simp)]
      exact ⟨_, _, _, _, rfl, Nat.le_refl _, rfl⟩
  · left
    unfold appB
    rw [if_neg (by omega)]
    exact ho
/-- more types behind a sign -/
theorem sep_more {f m d : Nat} {w : List UInt8} {b : Int} {g : St → Tr × St} {rest : List Tok} (hm : Mo g) (hr : isQ (S0 rest d) w = false) : ∀ (ks l : List Tr) (k : Nat), (∀ k ∈ ks, ∀ r, NoN r → (∀ t, r.head? = some t → t = sgT w ∨ r = rest) → O5 (g (S0 (tkT f k b ++ r) d)) k (S0 r d)) → NoN rest → ks.length ≤ k →
    (sepQ g w k l (S0 ((ks.flatMap fun k => sgT w :: tkT f k b) ++ rest) d)).2.e = 5 ∨ sepQ g w k l (S0 ((ks.flatMap fun k => sgT w :: tkT f k b) ++ rest) d) = (l ++ ks, S0 rest d)
  | [], l, k, _, _, _ => by
    right
    rw [List.flatMap_nil, List.nil_append, sepQ_stop hr, List.append_nil]
  | x :: ks, l, k, h, hn, hk => by
    obtain ⟨k, rfl⟩ : ∃ j, k = j + 1 := ⟨k - 1, by simp at hk; omega⟩
    rw [List.flatMap_cons, List.cons_append, List.cons_append, List.append_assoc, sepQ_step (by rw [isQ_sg]; simp), tlQ_S0]
    have hx := h x (by simp) ((ks.flatMap fun k => sgT w :: tkT f k b) ++ rest) (by
      cases ks with
      | nil => exact hn
      | cons y r => intro t ht; simp at ht; subst ht; exact (by decide : (7 : Nat) ≠ 1)) (by
      cases ks with
      | nil => intro t ht; right; rfl
      | cons y r => intro t ht; left; simp at ht; exact ht.symm)
    rcases hx with hx | hx
    · left
      exact (Mo.sep hm _ _ _ _).five hx
    · rw [hx]
      have := sep_more (f := f) (m := m) (b := b) hm hr ks (l ++ [x]) k (fun y hy => h y (by simp [hy])) hn (by simp at hk; omega)
      simpa using this
theorem inter_flat {w : List UInt8} {T : Tr → List Tok} : ∀ (k0 : Tr) (ks : List Tr), inter [sgT w] ((k0 :: ks).map T) = T k0 ++ ks.flatMap fun k => sgT w :: T k
  | k0, [] => by simp [inter]
  | k0, k1 :: r => by
    have := inter_flat (w := w) (T := T) k1 r
    simp only [List.map_cons, inter] at this ⊢
    rw [this]
    simp
theorem pars_all : ∀ (f : Nat) (t : Tr), szT t ≤ f → gT 4 t → PA f t ∧ PB f t ∧ PC9 f t
  | 0, t, h, _ => by have := szT_pos t; omega
  | f + 1, .mk n v ks, h, hg => by
    rw [szT] at h
    rw [gT, gTs_mem] at hg
    obtain ⟨hsh, hk⟩ := hg
    have each : ∀ k ∈ ks, PA f k ∧ PB f k ∧ PC9 f k := fun k hm => pars_all f k (by have := szTs_mem hm; omega) (hk k hm)
    have base : PA (f + 1) (.mk n v ks) → (∀ a b : Int, tkT (f + 1) (.mk n v ks) a = tkT (f + 1) (.mk n v ks) b) → PA (f + 1) (.mk n v ks) ∧ PB (f + 1) (.mk n v ks) ∧ PC9 (f + 1) (.mk n v ks) := fun hA he => ⟨hA, PB.of hA (he 1 2), PC9.of (PB.of hA (he 1 2)) (he 0 1)⟩
    rcases hsh with ⟨rfl, rfl, h1, h2⟩ | ⟨rfl, ⟨rfl, hl⟩ | ⟨rfl, hl⟩ | hnb⟩
    · refine base ?_ (fun a b => by rw [tkT_nil, tkT_nil])
      intro n d rest g1 g2
      obtain ⟨m, rfl⟩ : ∃ m, n = m + 1 := ⟨n - 1, by omega⟩
      unfold RA
      rw [app_succ, tkT_nil]
      rcases opnQ_S0 (ts := [⟨3, varS v⟩] ++ rest) (d := d) with ⟨hd, ho⟩ | ⟨hd, ho⟩
      · right
        unfold appB
        rw [ho, if_pos rfl]
        dsimp only
        have hh := has4 h1 h2
        have hap : apbB (tq m) vs4 (S0 ([⟨3, varS v⟩] ++ rest) (d + 1)) = ([.mk [] v []], S0 rest (d + 1)) := by
          unfold apbB
          rw [if_pos (by show kdQ (S0 (⟨3, varS v⟩ :: rest) (d + 1)) 3 = true; rw [kdQ_S0]; decide)]
          show ([Tr.mk [] (hasQ vs4 (varS v) : Int) []], if hasQ vs4 (varS v) = 0 then _ else _) = _
          rw [if_neg (by omega), hh]
          rfl
        rw [hap]
        exact ⟨_, _, _, _, rfl, Nat.le_refl _, rfl⟩
      · left
        unfold appB
        rw [if_neg (by omega)]
        exact ho
    · obtain ⟨k0, k1, rfl⟩ : ∃ k0 k1, ks = [k0, k1] := by
        match ks, hl with
        | [a, b], _ => exact ⟨a, b, rfl⟩
      have e0 := each k0 (by simp)
      have e1 := each k1 (by simp)
      have hC : PC9 (f + 1) (.mk [45, 62] 0 [k0, k1]) := by
        intro n d rest g1 g2 gn gs ga
        obtain ⟨m, rfl⟩ : ∃ m, n = m + 1 := ⟨n - 1, by omega⟩
        rw [arr_succ, tkT_arr]
        show O5 (arrB (tq m) vs4 (S0 ((tkT f k0 1 ++ sgT [45, 62] :: tkT f k1 0) ++ rest) d)) _ _
        rw [List.append_assoc, List.cons_append]
        rcases opnQ_S0 (ts := tkT f k0 1 ++ sgT [45, 62] :: (tkT f k1 0 ++ rest)) (d := d) with ⟨hd, ho⟩ | ⟨hd, ho⟩
        · have hB := e0.2.1 m (d + 1) (sgT [45, 62] :: (tkT f k1 0 ++ rest)) (by omega) (by omega) (fun t ht => by simp at ht; subst ht; decide) (fun t ht => by simp at ht; subst ht; decide)
          have hC1 := e1.2.2 m (d + 1) rest (by omega) (by omega) gn gs ga
          unfold arrB
          rw [ho, if_pos rfl]
          dsimp only
          rcases hB with h5 | ⟨h5, h6⟩
          · left
            rw [if_neg (by rw [isQ_e (by omega)]; simp)]
            exact h5
          · rw [h6, if_pos (by rw [isQ_sg]; simp), tlQ_S0, h5]
            rcases hC1 with hc | hc
            · left; exact hc
            · right; rw [hc]; rfl
        · left
          unfold arrB
          rw [if_neg (by omega)]
          exact ho
      have hA : PA (f + 1) (.mk [45, 62] 0 [k0, k1]) := PA.brk hC rfl
      exact ⟨hA, PB.of hA rfl, hC⟩
    · obtain ⟨k0, kr, rfl⟩ : ∃ k0 kr, ks = k0 :: kr := by
        match ks, hl with
        | a :: b, _ => exact ⟨a, b, rfl⟩
      have hB : PB (f + 1) (.mk [42] 0 (k0 :: kr)) := by
        intro n d rest g1 g2 gn gs
        have ht : tkT (f + 1) (.mk [42] 0 (k0 :: kr)) 1 = tkT f k0 2 ++ kr.flatMap fun k => sgT [42] :: tkT f k 2 := by
          rw [tkT_star]
          exact inter_flat k0 kr
        rw [ht, List.append_assoc]
        obtain ⟨k1, kr, rfl⟩ : ∃ k1 kr', kr = k1 :: kr' := by
          match kr, hl with
          | a :: b, _ => exact ⟨a, b, rfl⟩
        have h0 := (each k0 (by simp)).1.done (n := n) (d := d) (rest := ((k1 :: kr).flatMap fun k => sgT [42] :: tkT f k 2) ++ rest) g1 g2 (fun t ht => by simp at ht; subst ht; decide)
        rcases h0 with h5 | h5
        · left
          exact (Mo.sep (Mo.tq vs4 n).2 _ _ _ _).five h5
        · rw [h5]
          have := sep_more (f := f) (m := n) (b := 2) (Mo.tq vs4 n).2 (gs.isQ (d := d) (by simp)) (k1 :: kr) [k0] (S0 (((k1 :: kr).flatMap fun k => sgT [42] :: tkT f k 2) ++ rest) d).ts.length (fun k hm r hr1 _ => (each k (by simp at hm ⊢; exact .inr hm)).1.done g1 g2 hr1) gn (by
            show (k1 :: kr).length ≤ (((k1 :: kr).flatMap fun k => sgT [42] :: tkT f k 2) ++ rest).length
            rw [List.length_append]
            have : ∀ l : List Tr, l.length ≤ (l.flatMap fun k => sgT [42] :: tkT f k 2).length := by
              intro l
              induction l with
              | nil => simp
              | cons a l ih => simp only [List.flatMap_cons, List.length_append, List.length_cons]; omega
            have := this (k1 :: kr)
            omega)
          rcases this with h6 | h6
          · exact .inl h6
          · right
            rw [h6]
            exact ⟨rfl, rfl⟩
      have hC : PC9 (f + 1) (.mk [42] 0 (k0 :: kr)) := PC9.of hB rfl
      exact ⟨PA.brk hC rfl, hB, hC⟩
    · obtain ⟨hl24, h0, h4, h5⟩ := nameB_len hnb
      match ks, each with
      | [], _ =>
        refine base ?_ (fun a b => by rw [tkT_bare h0 h4 h5, tkT_bare h0 h4 h5])
        intro n' d rest g1 g2
        obtain ⟨m, rfl⟩ : ∃ m, n' = m + 1 := ⟨n' - 1, by omega⟩
        unfold RA
        rw [app_succ, tkT_bare h0 h4 h5]
        rcases opnQ_S0 (ts := [⟨1, n⟩] ++ rest) (d := d) with ⟨hd, ho⟩ | ⟨hd, ho⟩
        · right
          unfold appB
          rw [ho, if_pos rfl]
          dsimp only
          have hap : apbB (tq m) vs4 (S0 ([⟨1, n⟩] ++ rest) (d + 1)) = ([.mk n 0 []], S0 rest (d + 1)) := by
            unfold apbB
            rw [if_neg (by show ¬ kdQ (S0 (⟨1, n⟩ :: rest) (d + 1)) 3 = true; rw [kdQ_S0]; decide), if_pos (by show kdQ (S0 (⟨1, n⟩ :: rest) (d + 1)) 1 = true; rw [kdQ_S0]; decide)]
            rfl
          rw [hap]
          exact ⟨_, _, _, _, rfl, Nat.le_refl _, rfl⟩
        · left
          unfold appB
          rw [if_neg (by omega)]
          exact ho
      | [k0], each =>
        refine base ?_ (fun a b => by rw [tkT_one h0 h4 h5, tkT_one h0 h4 h5])
        intro n' d rest g1 g2
        rw [tkT_one h0 h4 h5, List.append_assoc]
        rcases (each k0 (by simp)).1 n' d ([⟨1, n⟩] ++ rest) g1 g2 with h6 | ⟨k, l, s, k', h6, h7, h8⟩
        · exact .inl h6
        · right
          obtain ⟨k', rfl⟩ : ∃ j, k' = j + 1 := ⟨k' - 1, by simp at h7; omega⟩
          refine ⟨k, l, s, k', h6, by simp at h7; omega, ?_⟩
          rw [h8, tnmQ_step (by show kdQ (S0 (⟨1, n⟩ :: rest) (d + 1)) 1 = true; rw [kdQ_S0]; decide)]
          rfl
      | k0 :: k1 :: kr, each =>
        refine base ?_ (fun a b => by rw [tkT_many h0 h4 h5, tkT_many h0 h4 h5])
        intro n' d rest g1 g2
        obtain ⟨m, rfl⟩ : ∃ m, n' = m + 1 := ⟨n' - 1, by omega⟩
        unfold RA
        have ht : tkT (f + 1) (.mk n 0 (k0 :: k1 :: kr)) 2 ++ rest = sgT [40] :: (tkT f k0 0 ++ (((k1 :: kr).flatMap fun k => sgT [44] :: tkT f k 0) ++ (sgT [41] :: ⟨1, n⟩ :: rest))) := by
          rw [tkT_many h0 h4 h5, inter_flat]
          simp
        rw [app_succ, ht]
        obtain ⟨R, hR⟩ : ∃ R, R = sgT [41] :: ⟨1, n⟩ :: rest := ⟨_, rfl⟩
        rw [← hR]
        rcases opnQ_S0 (ts := sgT [40] :: (tkT f k0 0 ++ (((k1 :: kr).flatMap fun k => sgT [44] :: tkT f k 0) ++ R))) (d := d) with ⟨hd, ho⟩ | ⟨hd, ho⟩
        · obtain ⟨s1, hs1⟩ : ∃ s1, s1 = S0 (tkT f k0 0 ++ (((k1 :: kr).flatMap fun k => sgT [44] :: tkT f k 0) ++ R)) (d + 1) := ⟨_, rfl⟩
          have hap : apbB (tq m) vs4 (S0 (sgT [40] :: (tkT f k0 0 ++ (((k1 :: kr).flatMap fun k => sgT [44] :: tkT f k 0) ++ R))) (d + 1)) = ((sepQ ((tq m).arr vs4) [44] ((tq m).arr vs4 s1).2.ts.length [((tq m).arr vs4 s1).1] ((tq m).arr vs4 s1).2).1,
              (fun b : List Tr × St => if 1 < b.1.length ∧ (musQ b.2 [41]).e = 0 ∧ kdQ (musQ b.2 [41]) 1 = false then fauQ (musQ b.2 [41]) 4 else musQ b.2 [41]) (sepQ ((tq m).arr vs4) [44] ((tq m).arr vs4 s1).2.ts.length [((tq m).arr vs4 s1).1] ((tq m).arr vs4 s1).2)) := by
            unfold apbB
            rw [if_neg (by rw [sgT, kdQ_S0]; decide), if_neg (by rw [sgT, kdQ_S0]; decide), musQ_S0, ← hs1]
          have hmo := (Mo.tq vs4 m).1
          have hRn : NoN R := fun t ht => by rw [hR] at ht; simp at ht; subst ht; decide
          have hc0 := (each k0 (by simp)).2.2 m (d + 1) (((k1 :: kr).flatMap fun k => sgT [44] :: tkT f k 0) ++ R) (by omega) (by omega) (fun t ht => by simp at ht; subst ht; decide) (fun t ht => by simp at ht; subst ht; decide) (fun t ht => by simp at ht; subst ht; decide)
          rw [← hs1] at hc0
          have hS : (sepQ ((tq m).arr vs4) [44] ((tq m).arr vs4 s1).2.ts.length [((tq m).arr vs4 s1).1] ((tq m).arr vs4 s1).2).2.e = 5 ∨ sepQ ((tq m).arr vs4) [44] ((tq m).arr vs4 s1).2.ts.length [((tq m).arr vs4 s1).1] ((tq m).arr vs4 s1).2 = (k0 :: k1 :: kr, S0 R (d + 1)) := by
            rcases hc0 with h5 | h5
            · left; exact (Mo.sep hmo _ _ _ _).five h5
            · rw [h5]
              refine sep_more (f := f) (m := m) (b := 0) hmo (by rw [hR, isQ_sg]; decide) (k1 :: kr) [k0] _ (fun k hm r hr1 hr2 => (each k (by simp at hm ⊢; exact .inr hm)).2.2 m (d + 1) r (by omega) (by omega) hr1 (fun t ht => by rcases hr2 t ht with h | h; (subst h; decide); (rw [h, hR] at ht; simp at ht; subst ht; decide)) (fun t ht => by rcases hr2 t ht with h | h; (subst h; decide); (rw [h, hR] at ht; simp at ht; subst ht; decide))) hRn (by
                show (k1 :: kr).length ≤ (((k1 :: kr).flatMap fun k => sgT [44] :: tkT f k 0) ++ R).length
                rw [List.length_append]
                have : ∀ l : List Tr, l.length ≤ (l.flatMap fun k => sgT [44] :: tkT f k 0).length := by
                  intro l
                  induction l with
                  | nil => simp
                  | cons a l ih => simp only [List.flatMap_cons, List.length_append, List.length_cons]; omega
                have := this (k1 :: kr)
                omega)
          unfold appB
          rw [ho, if_pos rfl]
          dsimp only
          rw [hap]
          rcases hS with h5 | h5
          · left
            dsimp only
            refine (Mo.tnm _ _ _).five ?_
            split
            · exact (Pst.fau _ _).five ((Pst.mus _ _).five h5)
            · exact (Pst.mus _ _).five h5
          · right
            rw [h5, hR]
            dsimp only
            rw [musQ_S0, if_neg (by rintro ⟨_, _, h9⟩; rw [kdQ_S0] at h9; exact absurd h9 (by decide))]
            refine ⟨_, _, _, rest.length, rfl, Nat.le_refl _, ?_⟩
            show tnmQ (rest.length + 1) _ (S0 (⟨1, n⟩ :: rest) (d + 1)) = _
            rw [tnmQ_step (by rw [kdQ_S0]; decide)]
            rfl
        · left
          unfold appB
          rw [if_neg (by omega)]
          exact ho
end Go.Proofs.YtomkdhkkggbioaaGreatDoor

/-
 The reference's parser: a declaration.
-/
namespace Go.Proofs.YtomkdhkkggbioaaGreatDoor
open Go
set_option linter.unusedSimpArgs false
set_option linter.unusedVariables false

section
set_option maxRecDepth 10000
set_option maxHeartbeats 2000000
theorem fill_dc4 (k : Int) (s : ByteArray) (r : Bool) (c0 c1 c2 c3 c4 c5 c6 c7 c8 c9 c10 e0 e1 e2 e3 e4 e5 : Value) : Instr.fill (fun i => [(0, 1), (1, 1), (2, 1), (3, 6), (9, 1), (10, 1)][i]?) #[c0, c1, c2, c3, c4, c5, c6, c7, c8, c9, c10] [(0, .int .u8 k), (1, .string s), (2, .bool r), (3, .agg #[e0, e1, e2, e3, e4, e5])] = some #[.int .u8 k, .string s, .bool r, e0, e1, e2, e3, e4, e5, c9, c10] := by
 have hA : ∀ u0 u1 u2 u3 u4 u5 : Value, (Value.agg #[u0, u1, u2, u3, u4, u5]).cells = #[u0, u1, u2, u3, u4, u5] := fun _ _ _ _ _ _ => by simp [Value.cells]
 have h1 : ∀ (k : Int), (Value.int .u8 k).cells = #[.int .u8 k] := fun _ => by simp [Value.cells]
 have h2 : ∀ (s : ByteArray), (Value.string s).cells = #[.string s] := fun _ => by simp [Value.cells]
 have h3 : ∀ (r : Bool), (Value.bool r).cells = #[.bool r] := fun _ => by simp [Value.cells]
 simp [Instr.fill, hA, h1, h2, h3]
theorem fill_dc2 (k : Int) (c0 c1 c2 c3 c4 c5 c6 c7 c8 c9 c10 e0 e1 e2 e3 e4 e5 : Value) : Instr.fill (fun i => [(0, 1), (1, 1), (2, 1), (3, 6), (9, 1), (10, 1)][i]?) #[c0, c1, c2, c3, c4, c5, c6, c7, c8, c9, c10] [(0, .int .u8 k), (3, .agg #[e0, e1, e2, e3, e4, e5])] = some #[.int .u8 k, c1, c2, e0, e1, e2, e3, e4, e5, c9, c10] := by
 have hA : ∀ u0 u1 u2 u3 u4 u5 : Value, (Value.agg #[u0, u1, u2, u3, u4, u5]).cells = #[u0, u1, u2, u3, u4, u5] := fun _ _ _ _ _ _ => by simp [Value.cells]
 have h1 : ∀ (k : Int), (Value.int .u8 k).cells = #[.int .u8 k] := fun _ => by simp [Value.cells]
 simp [Instr.fill, hA, h1]
theorem zcells_dc : (Value.agg #[.int .u8 0, .string ⟨#[]⟩, .bool false, .int .u8 0, .string ⟨#[]⟩, .int .i64 0, .bool false, .slice none 0 0, .slice none 0 0, .int .i64 0, .slice none 0 0]).cells = #[.int .u8 0, .string ⟨#[]⟩, .bool false, .int .u8 0, .string ⟨#[]⟩, .int .i64 0, .bool false, .slice none 0 0, .slice none 0 0, .int .i64 0, .slice none 0 0] := by simp [Value.cells]
theorem r_buildDc4 {E : Env} {o : Oper} {w : World} {x y z u : Operand} {k : Int} {s : ByteArray} {r : Bool} {e0 e1 e2 e3 e4 e5 : Value} (ho : o.op = .build 39 #[(0, x), (1, y), (2, z), (3, u)]) (hx : Env.ev E x = .int .u8 k) (hy : Env.ev E y = .string s) (hz : Env.ev E z = .bool r) (hu : Env.ev E u = .agg #[e0, e1, e2, e3, e4, e5]) :
  (execOp (Env.ev E) o).run Tryz.prog w = .ok (.value (.agg #[.int .u8 k, .string s, .bool r, e0, e1, e2, e3, e4, e5, .int .i64 0, .slice none 0 0])) w :=
 r_build (vs := [(0, .int .u8 k), (1, .string s), (2, .bool r), (3, .agg #[e0, e1, e2, e3, e4, e5])]) ho ⟨⟨rfl, hx⟩, ⟨rfl, hy⟩, ⟨rfl, hz⟩, ⟨rfl, hu⟩, trivial⟩ plc_39 zero_39 (by rw [zcells_dc]; exact fill_dc4 ..)
theorem r_buildDc2 {E : Env} {o : Oper} {w : World} {x u : Operand} {k : Int} {e0 e1 e2 e3 e4 e5 : Value} (ho : o.op = .build 39 #[(0, x), (3, u)]) (hx : Env.ev E x = .int .u8 k) (hu : Env.ev E u = .agg #[e0, e1, e2, e3, e4, e5]) :
  (execOp (Env.ev E) o).run Tryz.prog w = .ok (.value (.agg #[.int .u8 k, .string ⟨#[]⟩, .bool false, e0, e1, e2, e3, e4, e5, .int .i64 0, .slice none 0 0])) w :=
 r_build (vs := [(0, .int .u8 k), (3, .agg #[e0, e1, e2, e3, e4, e5])]) ho ⟨⟨rfl, hx⟩, ⟨rfl, hu⟩, trivial⟩ plc_39 zero_39 (by rw [zcells_dc]; exact fill_dc2 ..)
end
theorem TM.mk11 {w : World} {F : Nat → Prop} {c : List Value} {t : Dc} (h : TM w F c t) : ∃ (k : Nat) (s : List UInt8) (n : Int) (A' : Option Addr) (p' q' : Nat) (A : Option Addr) (p q : Nat) (rc' : Bool) (B : Option Addr) (m : Nat), c = [.int .u8 (t.k : Int), Sv t.s, .bool t.rc, .int .u8 (k : Int), Sv s, .int .i64 n, .bool rc', .slice A' q' p', .slice A q p, .int .i64 (t.n : Int), .slice B t.cs.length m] := by
 obtain ⟨e, cv, xs, rfl, he, hr, hm, hn⟩ := h
 have he9 : TM w F e t.e := he
 obtain ⟨k, s, n, rc, ps, ks, A', p', A, p, ys, xs, het, rfl, _⟩ := he9.mk6
 obtain ⟨B, m, rfl, _⟩ := hr.slice_form
 exact ⟨k, s, n, A', p', _, A, p, _, rc, B, m, rfl⟩
theorem TM.dcE {w : World} {F : Nat → Prop} {k : Nat} {s : List UInt8} {rc : Bool} {e : List Value} {x : Ex} (he : TM w F e x) : TM w F ([.int .u8 (k : Int), Sv s, .bool rc] ++ e ++ [.int .i64 0, .slice none 0 0]) (⟨k, s, rc, x, 0, []⟩ : Dc) := ⟨e, _, [], rfl, he, Rd.nil _ _ _, Ms.nil _ _, Nat.zero_le _⟩
theorem Pst.dcl (s : St) : Pst s (dclQ s).2 := by
 have hE := (MoE.all 51).expr
 have ht : Mo typQ := fun s => by
  have h1 : ∀ (m : Bool) (k : Nat) (l : List (List UInt8)) (s : St), Pst s (varL m k l s).2 := by
   intro m k
   induction k with
   | zero => intro l s; rw [varL]; exact Pst.refl _
   | succ k ih =>
    intro l s
    by_cases he : s.e = 0
    ·by_cases hc : m = true ∧ isQ (newQ l (txtQ s 3)) [44] = true
     ·obtain ⟨rfl, hc⟩ := hc
      rw [varL_step he hc]
      exact (Pst.txt _ _).trans ((Pst.new _ _).trans ((Pst.tl _).trans (ih _ _)))
     ·rw [varL_last he (by cases m with | false => exact .inl rfl | true => exact .inr (by simpa using hc))]
      exact (Pst.txt _ _).trans (Pst.new _ _)
    ·rw [varL_stop he]; exact Pst.refl _
  have h2 : ∀ (vs : List (List UInt8)) (k : Nat) (l : List Ct) (s : St), Pst s (ctrL vs k l s).2 := by
   intro vs k
   induction k with
   | zero => intro l s; rw [ctrL]; exact Pst.refl _
   | succ k ih =>
    intro l s
    by_cases he : s.e = 0
    ·by_cases hc : isQ (ctQ vs l s).2 [124] = true
     ·rw [ctrL_step he hc]
      exact (Mo.ct _ _ _).trans ((Pst.tl _).trans (ih _ _))
     ·rw [ctrL_last he (by simpa using hc)]
      exact Mo.ct _ _ _
    ·rw [ctrL_stop he]; exact Pst.refl _
  unfold typQ
  dsimp only
  refine Pst.trans ?_ (h2 _ _ _ _)
  refine Pst.trans ?_ ((Pst.mus _ _).trans (Pst.tak _ _))
  refine Pst.trans ?_ (Pst.txt _ _)
  refine (Pst.tak s [40]).trans ?_
  split
  ·dsimp only
   split
   ·exact (h1 _ _ _ _).trans (Pst.mus _ _)
   ·exact h1 _ _ _ _
  ·exact Pst.refl _
 unfold dclQ
 generalize (eq9 51).expr = ex at hE ⊢
 by_cases c1 : isQ s [116, 121, 112, 101] = true
 ·rw [if_pos c1]; exact (Pst.tl s).trans (ht _)
 rw [if_neg c1]
 by_cases c2 : isQ s [108, 101, 116] = true
 ·rw [if_pos c2]
  dsimp only
  have hb : Pst s (binB ex (tlQ s)).2 := (Pst.tl s).trans (Mo.bin hE _)
  split
  ·split
   ·exact hE s
   ·exact hb
  ·exact hb
 rw [if_neg c2]
 exact hE s
set_option maxHeartbeats 4000000 in
theorem decl_ok {w : World} {r B0 : Nat} {A : List Tok} {s : St} (hp : PS w r B0 A s) (hd : s.d = 0) : Ret Tryz.prog 33 #[.pointer (some ⟨r, 0, none⟩)] w fun v w' => ∃ c, v = .agg c.toArray ∧ TM w' (Bt w.heap.size w'.heap.size) c (dclQ s).1 ∧ PS w' r B0 A (dclQ s).2 ∧ Pst s (dclQ s).2 ∧ Upd (At r) w w' := by
 obtain ⟨hI1, hI2, hI3, hI4, hI5⟩ := hp.I
 have hPd := Pst.dcl s
 have hall := all_ok 51
 have hT0 : s.ts <:+ A ∧ EndT s.ts := ⟨hp.suf, hp.fin⟩
 refine enterRet (vs := [_]) (N := 49) Tryz.func33 rfl rfl rfl ?_
 have hU := Upd.refl (At r) w
 refine WC.keep [(0, _)] ⟨rfl, trivial⟩ (WC.seq (WC.region (WL.cons (SO.alloc rfl rfl rfl rfl (r_alloc rfl zero_39) ?_))))
 intro w1 hu1 hB1 hz1
 have hs1 := hu1.size
 replace hU := hU.trans hu1 (by exact (fun _ _ h => h.elim))
 replace hp := hp.upd hu1 (by exact (fun _ _ h => h))
 refine WL.nil (WX.keep [(0, _), (2, _)] ⟨rfl, rfl, trivial⟩ (WX.next (WC.seq (WC.seq (WC.region (WL.val rfl rfl rfl rfl (r_move rfl (ev_t rfl)) ?_))))))
 refine WL.cons (SO.call (take_ok (u := [116, 121, 112, 101]) hp) rfl body_31 ⟨(ev_t rfl), ev_c, trivial⟩ rfl rfl rfl rfl ?_)
 rintro v9 w2 ⟨rfl, hp2, hu2⟩
 have hs2 := hu2.size
 replace hU := hU.trans hu2 (by exact (fun _ _ h => h))
 replace hB1 := hB1.upd hu2 (by (simp only [At]; omega))
 have hp := hp2
 refine WL.nil (WX.keep [(0, _), (2, _), (6, _)] ⟨rfl, rfl, rfl, trivial⟩ (WX.next (WC.cond rfl (ev_t rfl) (fun hc1 => ?_) (fun hc1 => ?_))))
 ·rw [takQ_T hc1] at hp
  refine WC.seq (WC.region (WL.val rfl rfl rfl rfl (r_move rfl (ev_t rfl)) ?_))
  refine WL.cons (SO.call (typ_ok hp (by rw [tlQ_d]; exact hd)) rfl body_57 ⟨(ev_t rfl), trivial⟩ rfl rfl rfl rfl ?_)
  rintro v9 w3 ⟨c9, rfl, ht, hp2, hst, hu3⟩
  have hs3 := hu3.size
  replace hU := hU.trans hu3 (by exact (fun _ _ h => h))
  replace hB1 := hB1.upd hu3 (by (simp only [At]; omega))
  have hp := hp2
  obtain ⟨a1, a2, a3, a4, a5, a6, a7, a8, a9, a10, a11, a12, rfl⟩ := ht.mk11
  refine WL.cons (SO.storeAll (us := [_, _, _, _, _, _, _, _, _, _, _]) rfl (ev_t rfl) (ev_t rfl) size_39 hB1 rfl rfl rfl rfl rfl ?_)
  intro w4 hu4 hB1 hz4
  have hs4 := hu4.size
  replace hU := hU.trans hu4 (by (intro k hl hk; (try simp only [At, New, Grow, From, No] at hk ⊢); omega))
  replace hp := hp.upd hu4 (by (intro k hk hS; first | (simp only [At] at hS; omega) | (have := hG k hS; omega)))
  replace ht := ht.upd hu4 (fun k hk hl hS => by (simp only [At, Bt] at hS hk; omega))
  refine WL.nil (WX.keep [(2, _)] ⟨rfl, trivial⟩ (WX.next (WC.ret (WX.thenRet (WX.retC (vs := [_, _, _, _, _, _, _, _, _, _, _]) rfl rfl agg_39 size_39 (Blk.cellsL hB1) ?_)))))
  have he9 : dclQ s = typQ (tlQ s) := by unfold dclQ; rw [if_pos hc1]
  rw [he9] at hPd ⊢
  exact ⟨_, rfl, ht.mono fun k hk => by simp only [Bt] at *; omega, hp, hPd, hU⟩
 ·rw [takQ_F hc1] at hp
  refine WC.skip (WX.next ?_)
  -- cut 3: live [0, 2]
  refine WC.cut (fun E wA => (isQ s [108, 101, 116] = true → (binB (eq9 51).expr (tlQ s)).2.e = 0 ∧ isQ (binB (eq9 51).expr (tlQ s)).2 [105, 110] = true) ∧ Upd (At r) w wA ∧ PS wA r B0 A s ∧ Blk wA w.heap.size #[.int .u8 0, .string ⟨#[]⟩, .bool false, .int .u8 0, .string ⟨#[]⟩, .int .i64 0, .bool false, .slice none 0 0, .slice none 0 0, .int .i64 0, .slice none 0 0] 39 ∧ E = [(0, (.pointer (some ⟨r, 0, none⟩))), (2, .pointer (some ⟨w.heap.size, 0, none⟩))]) ?_ ?_
  ·refine WC.seq (WC.region (WL.val rfl rfl rfl rfl (r_move rfl (ev_t rfl)) ?_))
   refine WL.cons (SO.call (is_ok (u := [108, 101, 116]) hp) rfl body_34 ⟨(ev_t rfl), ev_c, trivial⟩ rfl rfl rfl rfl ?_)
   rintro v9 w5 ⟨rfl, hu5⟩
   have hs5 := hu5.size
   replace hU := hU.trans hu5 (by exact (fun _ _ h => h.elim))
   replace hB1 := hB1.upd hu5 (by exact (fun h => h))
   replace hp := hp.upd hu5 (by exact (fun _ _ h => h))
   refine WL.nil (WX.keep [(0, _), (2, _), (10, _)] ⟨rfl, rfl, rfl, trivial⟩ (WX.next (WC.cond rfl (ev_t rfl) (fun hc3 => ?_) (fun hc3 => ?_))))
   ·refine WC.seq (WC.region ?_)
    obtain ⟨FE, bE, offE, cE, zE, badE, hbE, hzE, hrE, hFE, hIE⟩ := hp.open
    have hik := isQ_kind hc3
    have hT := hp.tail hik.2.2
    have hT3 := hT.2.2
    refine WL.val rfl rfl rfl rfl (r_move rfl (ev_t rfl)) ?_
    refine WL.val rfl rfl rfl rfl (r_nilCheck rfl (ev_t rfl)) ?_
    refine WL.val rfl rfl rfl rfl (r_field0 rfl (ev_t rfl) fld_58_1) ?_
    refine WL.val rfl rfl rfl rfl (r_load rfl (ev_t rfl) flat_3 (Blk.cell hbE rfl)) ?_
    refine WL.val rfl rfl rfl rfl (r_assign rfl (ev_t rfl)) ?_
    refine WL.nil (WX.keep [(0, _), (2, _), (3, _)] ⟨rfl, rfl, rfl, trivial⟩ (WX.next (WC.seq (WC.region ?_))))
    obtain ⟨FD, bD, offD, cD, zD, badD, hbD, hzD, hrD, hFD, hID⟩ := hp.open
    have hp0 := hp
    refine WL.val rfl rfl rfl rfl (r_move rfl (ev_t rfl)) ?_
    refine WL.val rfl rfl rfl rfl (r_nilCheck rfl (ev_t rfl)) ?_
    refine WL.val rfl rfl rfl rfl (r_field0 rfl (ev_t rfl) fld_58_1) ?_
    refine WL.val rfl rfl rfl rfl (r_load rfl (ev_t rfl) flat_3 (Blk.cell hbD rfl)) ?_
    refine WL.val rfl rfl rfl rfl (r_addN rfl (ev_t rfl) ev_c (by simp only [inK]; omega)) ?_
    refine WL.val rfl rfl rfl rfl (r_nilCheck rfl (ev_t rfl)) ?_
    refine WL.val rfl rfl rfl rfl (r_field0 rfl (ev_t rfl) fld_58_1) ?_
    refine WL.cons (SO.store rfl (ev_t rfl) (ev_t rfl) size_3 hbD rfl rfl rfl rfl rfl ?_)
    intro w6 hu6 hbD hz6
    have hs6 := hu6.size
    replace hU := hU.trans hu6 (by exact (fun _ _ h => h))
    replace hB1 := hB1.upd hu6 (by (simp only [At]; omega))
    refine WL.nil (WX.keep [(0, _), (2, _), (3, _)] ⟨rfl, rfl, rfl, trivial⟩ ?_)
    rw [show (A.length : Int) - (s.ts.length : Int) + 1 = (A.length : Int) - ((tlQ s).ts.length : Int) by omega] at hbD
    replace hp : PS w6 r B0 A (tlQ s) := hp0.shut hu6 hbD hzD (hrD.upd hu6 (fun k hk hl hS => (hFD k hk).1 hS)) hFD hT.1 hT.2.1 hp0.dle hp0.ele
    refine WX.next (WC.seq (WC.region (WL.val rfl rfl rfl rfl (r_move rfl (ev_t rfl)) ?_)))
    refine WL.cons (SO.call (bind_ok hall.expr _ _ _ _ _ hp (by rw [tlQ_d]; omega) (by rw [tlQ_d]; omega)) rfl body_58 ⟨(ev_t rfl), trivial⟩ rfl rfl rfl rfl ?_)
    rintro v9 w7 ⟨g, tx, rc, y, hbin, rfl, hac, hp2, hst, hu7⟩
    have hs7 := hu7.size
    replace hU := hU.trans hu7 (by exact (fun _ _ h => h))
    replace hB1 := hB1.upd hu7 (by (simp only [At]; omega))
    have hp := hp2
    obtain ⟨xs, hrx, hmx⟩ := hac.done (by simp)
    obtain ⟨x0, hx0, ht0⟩ := hmx.get (i := 0) (k := y) rfl
    obtain ⟨tk, ts, tn, trc, tps, tks, tA9, tp9, tA, tp, tys, txs, het, rfl, hrP, hmP, hrK, hmK, hin⟩ := ht0.mk6
    have hyt : TM w7 (Bt w6.heap.size w7.heap.size) [.int .u8 (tk : Int), Sv ts, .int .i64 tn, .bool trc, .slice tA9 tps.length tp9, .slice tA tks.length tp] y := ht0
    refine WL.cons (SO.alloc rfl rfl rfl rfl (r_alloc rfl zero_36) ?_)
    intro w8 hu8 hB8 hz8
    have hs8 := hu8.size
    replace hU := hU.trans hu8 (by exact (fun _ _ h => h.elim))
    replace hB1 := hB1.upd hu8 (by exact (fun h => h))
    replace hp := hp.upd hu8 (by exact (fun _ _ h => h))
    replace hyt := hyt.upd hu8 (fun k hk hl hS => by exact (show False from hS).elim)
    replace hrx := hrx.upd hu8 (fun k hk hl hS => by exact (show False from hS).elim)
    refine WL.cons (SO.storeAll (us := [_, _, _, _, _, _]) rfl (ev_t rfl) (ev_t rfl) size_36 hB8 rfl rfl rfl rfl rfl ?_)
    intro w9 hu9 hB8 hz9
    have hs9 := hu9.size
    replace hU := hU.trans hu9 (by (intro k hl hk; (try simp only [At, New, Grow, From, No] at hk ⊢); omega))
    replace hB1 := hB1.upd hu9 (by (simp only [At]; omega))
    replace hp := hp.upd hu9 (by (intro k hk hS; first | (simp only [At] at hS; omega) | (have := hG k hS; omega)))
    replace hyt := hyt.upd hu9 (fun k hk hl hS => by (simp only [At, Bt] at hS hk; omega))
    replace hrx := hrx.upd hu9 (fun k hk hl hS => by (simp only [At, Bt] at hS hk; omega))
    refine WL.nil (WX.keep [(0, _), (2, _), (3, _), (4, _)] ⟨rfl, rfl, rfl, rfl, trivial⟩ ?_)
    have hb4 := hB8
    change Blk _ _ #[.int .u8 12, Sv tx, .int .i64 0, .bool rc, .slice none 0 0, .slice (some ⟨g, 0, none⟩) 1 1] _ at hb4
    have hlt4 := hb4.lt
    refine WX.next (WC.seq (WC.seq (WC.region ?_)))
    obtain ⟨FD, bD, offD, cD, zD, badD, hbD, hzD, hrD, hFD, hID⟩ := hp.open
    refine WL.val rfl rfl rfl rfl (r_move rfl (ev_t rfl)) ?_
    refine WL.val rfl rfl rfl rfl (r_nilCheck rfl (ev_t rfl)) ?_
    refine WL.val rfl rfl rfl rfl (r_field0 rfl (ev_t rfl) fld_58_4) ?_
    refine WL.val rfl rfl rfl rfl (r_load rfl (ev_t rfl) flat_3 (Blk.cell hbD rfl)) ?_
    refine WL.val rfl rfl rfl rfl (r_neq rfl (ev_t rfl) ev_c) ?_
    refine WL.nil (WX.keep [(0, _), (2, _), (3, _), (4, _), (28, _)] ⟨rfl, rfl, rfl, rfl, rfl, trivial⟩ (WX.next (WC.cond rfl (ev_t rfl) (fun hc7 => ?_) (fun hc7 => ?_))))
    ·try simp only [cS, ne_eq, Decidable.not_not] at hc7
     refine WC.seq (WC.region (WL.val rfl rfl rfl rfl (r_build (cs := #[_, _, _, _, _, _, _, _, _, _, _]) (vs := []) rfl trivial plc_39 zero_39 rfl) ?_))
     refine WL.cons (SO.storeAll (us := [_, _, _, _, _, _, _, _, _, _, _]) rfl (ev_t rfl) (ev_t rfl) size_39 hB1 rfl rfl rfl rfl rfl ?_)
     intro w10 hu10 hB1 hz10
     have hs10 := hu10.size
     replace hU := hU.trans hu10 (by (intro k hl hk; (try simp only [At, New, Grow, From, No] at hk ⊢); omega))
     replace hp := hp.upd hu10 (by (intro k hk hS; first | (simp only [At] at hS; omega) | (have := hG k hS; omega)))
     replace hyt := hyt.upd hu10 (fun k hk hl hS => by (simp only [At, Bt] at hS hk; omega))
     replace hrx := hrx.upd hu10 (fun k hk hl hS => by (simp only [At, Bt] at hS hk; omega))
     replace hb4 := hb4.upd hu10 (by (simp only [At]; omega))
     refine WL.nil (WX.keep [(2, _)] ⟨rfl, trivial⟩ (WX.next (WC.ret (WX.thenRet (WX.thenRet (WX.retC (vs := [_, _, _, _, _, _, _, _, _, _, _]) rfl rfl agg_39 size_39 (Blk.cellsL hB1) ?_))))))
     have he9 : dclQ s = (Dc.z, (binB (eq9 51).expr (tlQ s)).2) := by unfold dclQ; rw [if_neg (by simp [hc1]), if_pos hc3]; exact if_neg (by omega)
     rw [he9] at hPd ⊢
     exact ⟨_, rfl, (TM.dcE (e := [_, _, _, _, _, _]) (TM.ex0 (by simp [inK])) : TM _ _ _ Dc.z), hp, hPd, hU⟩
    ·try simp only [cS, ne_eq, Decidable.not_not] at hc7
     refine WC.skip (WX.next (WC.seq (WC.seq (WC.region (WL.val rfl rfl rfl rfl (r_move rfl (ev_t rfl)) ?_)))))
     refine WL.cons (SO.call (is_ok (u := [105, 110]) hp) rfl body_34 ⟨(ev_t rfl), ev_c, trivial⟩ rfl rfl rfl rfl ?_)
     rintro v9 w11 ⟨rfl, hu11⟩
     have hs11 := hu11.size
     replace hU := hU.trans hu11 (by exact (fun _ _ h => h.elim))
     replace hB1 := hB1.upd hu11 (by exact (fun h => h))
     replace hp := hp.upd hu11 (by exact (fun _ _ h => h))
     replace hyt := hyt.upd hu11 (fun k hk hl hS => by exact (show False from hS).elim)
     replace hrx := hrx.upd hu11 (fun k hk hl hS => by exact (show False from hS).elim)
     replace hb4 := hb4.upd hu11 (by exact (fun h => h))
     refine WL.val rfl rfl rfl rfl (r_not rfl (ev_t rfl)) ?_
     refine WL.nil (WX.keep [(0, _), (2, _), (3, _), (4, _), (32, _)] ⟨rfl, rfl, rfl, rfl, rfl, trivial⟩ (WX.next (WC.cond rfl (ev_t rfl) (fun hc9 => ?_) (fun hc9 => ?_))))
     ·try simp only [cS, ne_eq, Decidable.not_not] at hc9
      refine WC.seq (WC.draws' (fun u0_ u1_ => Upd No u0_ u1_) (fun j => [0, 0, 0, 0, 0, 1, 0, 1, 0, 2].getD j 0) (.calm 0 (.calm 2 (.calm 4 (.held 1 (.held 3 (.one 5 (.calm 6 (.one 7 (.calm 8 (.one 9 (.done))))))))))) mixed (by kernel_rfl) (by repeat (first | with_reducible exact Deaf.body | with_reducible apply Deaf.then)) ?_)
      intro w12 hu12
      have hz12 := congrArg Array.size hu12.2.2.2
      replace hu12 := Upd.of_draw hu12
      have hs12 := hu12.size
      replace hU := hU.trans hu12 (by exact (fun _ _ h => h.elim))
      replace hB1 := hB1.upd hu12 (by exact (fun h => h))
      replace hp := hp.upd hu12 (by exact (fun _ _ h => h))
      replace hyt := hyt.upd hu12 (fun k hk hl hS => by exact (show False from hS).elim)
      replace hrx := hrx.upd hu12 (fun k hk hl hS => by exact (show False from hS).elim)
      replace hb4 := hb4.upd hu12 (by exact (fun h => h))
      have hS10 := Upd.refl No w12
      have hrx2 := hrx
      refine WN.calm _ rfl rfl rfl rfl rfl (fun _ => r_field0 rfl (ev_t rfl) fld_36_1) ?_
      refine WN.calm _ rfl rfl rfl rfl rfl (fun _ => r_field0 rfl (ev_t rfl) fld_36_3) ?_
      refine WN.calm _ rfl rfl rfl rfl rfl (fun _ => r_field0 rfl (ev_t rfl) fld_36_5) ?_
      refine WN.held _ rfl rfl rfl rfl rfl hS10 (fun w' hS => r_load rfl (ev_t rfl) flat_9 (Blk.cell (hb4.upd hS (fun h => h)) rfl)) ?_
      refine WN.held _ rfl rfl rfl rfl rfl hS10 (fun w' hS => r_load rfl (ev_t rfl) flat_4 (Blk.cell (hb4.upd hS (fun h => h)) rfl)) ?_
      refine WN.step _ rfl (SO.val rfl rfl rfl rfl (r_load rfl (ev_t rfl) flat_34 (Blk.cell hb4 rfl)) ?_)
      refine ⟨hS10, ?_⟩
      refine WN.calm _ rfl rfl rfl rfl rfl (fun _ => r_indexAddr rfl (ev_t rfl) ev_c elem_34 size_36 (by omega) (by omega)) ?_
      refine WN.step _ rfl (SO.val rfl rfl rfl rfl (r_loadAgg (vs := [_, _, _, _, _, _]) rfl (ev_t rfl) agg_36 size_36 (Rd.cellsL (us := [_, _, _, _, _, _]) hrx (i := 0 * 6) (by omega) (fun q v hv => flat_getN hmx.one_len hx0 hv))) ?_)
      refine ⟨hS10, ?_⟩
      refine WN.calm _ rfl rfl rfl rfl rfl (fun _ => r_buildDc4 rfl ev_c (ev_t rfl) (ev_t rfl) (ev_t rfl)) ?_
      refine WN.step _ rfl (SO.storeAll (us := [_, _, _, _, _, _, _, _, _, _, _]) rfl (ev_t rfl) (ev_t rfl) size_39 hB1 rfl rfl rfl rfl rfl ?_)
      intro w13 hu13 hB1 hz13
      have hs13 := hu13.size
      try replace hS10 := Upd.transA hS10 hu13
      replace hU := hU.trans hu13 (by (intro k hl hk; (try simp only [At, New, Grow, From, No] at hk ⊢); omega))
      replace hp := hp.upd hu13 (by (intro k hk hS; first | (simp only [At] at hS; omega) | (have := hG k hS; omega)))
      replace hyt := hyt.upd hu13 (fun k hk hl hS => by (simp only [At, Bt] at hS hk; omega))
      replace hrx := hrx.upd hu13 (fun k hk hl hS => by (simp only [At, Bt] at hS hk; omega))
      replace hb4 := hb4.upd hu13 (by (simp only [At]; omega))
      refine ⟨trivial, ?_⟩
      refine WN.done ?_
      refine WX.keep [(2, _)] ⟨rfl, trivial⟩ (WX.next (WC.ret (WX.thenRet (WX.thenRet (WX.retC (vs := [_, _, _, _, _, _, _, _, _, _, _]) rfl rfl agg_39 size_39 (Blk.cellsL hB1) ?_)))))
      have hbe : (binB (eq9 51).expr (tlQ s)).2.e = 0 := by omega
      have hbi : ¬ isQ (binB (eq9 51).expr (tlQ s)).2 [105, 110] = true := by simpa using hc9
      have he9 : dclQ s = (⟨2, tx, rc, y, 0, []⟩, (binB (eq9 51).expr (tlQ s)).2) := by
       unfold dclQ
       rw [if_neg (by simp [hc1]), if_pos hc3]
       simp only
       rw [if_pos hbe, if_neg hbi, hbin]
       rfl
      rw [he9] at hPd ⊢
      exact ⟨_, rfl, (TM.dcE (e := [_, _, _, _, _, _]) (hyt.mono fun k hk => by simp only [Bt] at *; omega)), hp, hPd, hU⟩
     ·try simp only [cS, ne_eq, Decidable.not_not] at hc9
      refine WC.skip (WX.next (WC.region ?_))
      obtain ⟨FD, bD, offD, cD, zD, badD, hbD, hzD, hrD, hFD, hID⟩ := hp.open
      have hp0 := hp
      refine WL.val rfl rfl rfl rfl (r_move rfl (ev_t rfl)) ?_
      refine WL.val rfl rfl rfl rfl (r_move rfl (ev_t rfl)) ?_
      refine WL.val rfl rfl rfl rfl (r_nilCheck rfl (ev_t rfl)) ?_
      refine WL.val rfl rfl rfl rfl (r_field0 rfl (ev_t rfl) fld_58_1) ?_
      refine WL.cons (SO.store rfl (ev_t rfl) (ev_t rfl) size_3 hbD rfl rfl rfl rfl rfl ?_)
      intro w14 hu14 hbD hz14
      have hs14 := hu14.size
      replace hU := hU.trans hu14 (by exact (fun _ _ h => h))
      replace hB1 := hB1.upd hu14 (by (simp only [At]; omega))
      replace hyt := hyt.upd hu14 (fun k hk hl hS => by (simp only [At, Bt] at hS hk; omega))
      replace hrx := hrx.upd hu14 (fun k hk hl hS => by (simp only [At, Bt] at hS hk; omega))
      replace hb4 := hb4.upd hu14 (by (simp only [At]; omega))
      refine WL.nil (WX.keep [(0, _), (2, _)] ⟨rfl, rfl, trivial⟩ ?_)
      have hbe : (binB (eq9 51).expr (tlQ s)).2.e = 0 := by omega
      have hsd := hst.1
      rw [tlQ_d] at hsd
      replace hp : PS w14 r B0 A s := hp0.shut hu14 (by rw [hik.1, ← hsd, ← hbe]; exact hbD) hzD (hrD.upd hu14 (fun k hk hl hS => (hFD k hk).1 hS)) hFD hT0.1 hT0.2 (by omega) (by omega)
      refine WX.meet [(0, _), (2, _)] ⟨rfl, rfl, trivial⟩ ?_
      first
       | exact ⟨fun _ => ⟨hbe, by simpa using hc9⟩, hU, hp, hB1, rfl⟩
       | exact ⟨fun h => absurd h (by simp [hc3]), hU, hp, hB1, rfl⟩
   ·refine WC.skip (WX.meet [(0, _), (2, _)] ⟨rfl, rfl, trivial⟩ ?_)
    first
     | exact ⟨fun _ => ⟨hbe, by simpa using hc9⟩, hU, hp, hB1, rfl⟩
     | exact ⟨fun h => absurd h (by simp [hc3]), hU, hp, hB1, rfl⟩
  ·clear hU hp hB1
   rintro E wA ⟨hlet, hU, hp, hB1, rfl⟩
   have hsA := hU.size
   have hlt1 := hB1.lt
   have he9 : dclQ s = (⟨1, [], false, ((eq9 51).expr s).1, 0, []⟩, ((eq9 51).expr s).2) := by
    unfold dclQ
    rw [if_neg (by simp [hc1])]
    cases hq9 : isQ s [108, 101, 116] with
    | false => rw [if_neg (by simp)]
    | true =>
     rw [if_pos rfl]
     simp only
     rw [if_pos (hlet hq9).1, if_pos (hlet hq9).2]
   refine WC.seq (WC.region (WL.val rfl rfl rfl rfl (r_move rfl (ev_t rfl)) ?_))
   refine WL.cons (SO.call (hall.expr _ _ _ _ _ hp (by omega) (by omega)) rfl body_59 ⟨(ev_t rfl), trivial⟩ rfl rfl rfl rfl ?_)
   rintro v9 w15 ⟨c9, rfl, ht, hp2, hst, hu15⟩
   have hs15 := hu15.size
   replace hU := hU.trans hu15 (by exact (fun _ _ h => h))
   replace hB1 := hB1.upd hu15 (by (simp only [At]; omega))
   have hp := hp2
   obtain ⟨tk, ts, tn, trc, tps, tks, tA9, tp9, tA, tp, tys, txs, het, rfl, _⟩ := ht.mk6
   refine WL.val rfl rfl rfl rfl (r_buildDc2 rfl ev_c (ev_t rfl)) ?_
   refine WL.cons (SO.storeAll (us := [_, _, _, _, _, _, _, _, _, _, _]) rfl (ev_t rfl) (ev_t rfl) size_39 hB1 rfl rfl rfl rfl rfl ?_)
   intro w16 hu16 hB1 hz16
   have hs16 := hu16.size
   replace hU := hU.trans hu16 (by (intro k hl hk; (try simp only [At, New, Grow, From, No] at hk ⊢); omega))
   replace hp := hp.upd hu16 (by (intro k hk hS; first | (simp only [At] at hS; omega) | (have := hG k hS; omega)))
   replace ht := ht.upd hu16 (fun k hk hl hS => by (simp only [At, Bt] at hS hk; omega))
   refine WL.nil (WX.keep [(2, _)] ⟨rfl, trivial⟩ (WX.next (WC.ret (WX.retC (vs := [_, _, _, _, _, _, _, _, _, _, _]) rfl rfl agg_39 size_39 (Blk.cellsL hB1) ?_))))
   rw [he9] at hPd ⊢
   exact ⟨_, rfl, (TM.dcE (s := []) (rc := false) (e := [_, _, _, _, _, _]) (ht.mono fun k hk => by simp only [Bt] at *; omega)), hp, hPd, hU⟩
end Go.Proofs.YtomkdhkkggbioaaGreatDoor

/-
 The reference's parser: a cell.
-/
namespace Go.Proofs.YtomkdhkkggbioaaGreatDoor
open Go
set_option linter.unusedSimpArgs false
set_option linter.unusedVariables false

theorem all_take {p : UInt8 → Bool} : ∀ r : List UInt8, (r.takeWhile p).all p = true
 | [] => rfl
 | c :: r => by
  rw [List.takeWhile_cons]
  split
  ·rename_i h; rw [List.all_cons, h, all_take r]; rfl
  ·rfl
theorem oneF_good {s : List UInt8} {t : Tok} {q : List UInt8} (h : oneF s = .ok (t, q)) (hs : s.length ≤ 2000) : TokG t ∧ t.k ≠ 0 := by
 have hl := oneF_len h
 cases s with
 | nil => simp [oneF] at h
 | cons c r =>
  refine ⟨⟨?_, by omega, ?_⟩, ?_⟩
  all_goals
   simp only [oneF] at h
   split at h
   ·split at h
    ·cases h
    ·split at h
     ·injection h with h; injection h with h1 h2; subst h1; first | decide | simp
     ·split at h
      ·split at h
       ·injection h with h; injection h with h1 h2; subst h1; first | decide | simp
       ·cases h
      ·split at h <;> · injection h with h; injection h with h1 h2; subst h1; first | decide | simp
   ·split at h
    ·rename_i hd
     split at h
     ·cases h
     ·split at h
      ·cases h
      ·rename_i hn
       injection h with h; injection h with h1 h2; subst h1
       first
        | decide
        | (simp; done)
        | (intro _; exact ⟨by rw [List.all_cons, hd, all_take]; rfl, by cases hx : numF 0 (c :: r.takeWhile dgB) <;> simp_all⟩)
    ·split at h
     ·split at h
      ·cases h
      ·injection h with h; injection h with h1 h2; subst h1; first | decide | simp
     ·split at h
      ·cases h
      ·injection h with h; injection h with h1 h2; subst h1; first | decide | simp
theorem lexF_good : ∀ (n : Nat) (s : List UInt8) (ts : List Tok), s.length ≤ n → s.length ≤ 2000 → lexF s = .ok ts → EndT ts ∧ ∀ t ∈ ts, TokG t := by
 intro n
 induction n with
 | zero =>
  intro s ts h0 _ h
  have : s = [] := List.eq_nil_of_length_eq_zero (by omega)
  subst this
  rw [lexF_end skipF_nil] at h
  injection h with h
  subst h
  exact ⟨⟨[], _, rfl, rfl⟩, fun t ht => by simp at ht; subst ht; exact ⟨by decide, by simp, by simp⟩⟩
 | succ n ih =>
  intro s ts h0 h9 h
  cases hs : skipF s with
  | none => rw [lexF_none hs] at h; cases h
  | some q =>
   have hq := skipF_len s q hs
   by_cases hq0 : q = []
   ·subst hq0
    rw [lexF_end hs] at h
    injection h with h
    subst h
    exact ⟨⟨[], _, rfl, rfl⟩, fun t ht => by simp at ht; subst ht; exact ⟨by decide, by simp, by simp⟩⟩
   ·cases ho : oneF q with
    | error e => rw [lexF_err hs hq0 ho] at h; cases h
    | ok p =>
     obtain ⟨t, r⟩ := p
     rw [lexF_step hs hq0 ho] at h
     have hl := oneF_len ho
     cases hr : lexF r with
     | error e => rw [hr] at h; cases h
     | ok l =>
      rw [hr] at h
      injection h with h
      subst h
      obtain ⟨⟨l', t', rfl, h1⟩, h2⟩ := ih r l (by omega) (by omega) hr
      refine ⟨⟨t :: l', t', rfl, h1⟩, fun u hu => ?_⟩
      rcases List.mem_cons.1 hu with h3 | h3
      ·rw [h3]; exact (oneF_good ho (by omega)).1
      ·exact h2 u h3
theorem tokF_good {s : List UInt8} {ts : List Tok} (h : tokF s = .ok ts) : EndT ts ∧ ∀ t ∈ ts, TokG t := by
 unfold tokF at h
 split at h
 ·cases h
 ·exact lexF_good _ s ts (Nat.le_refl _) (by omega) h
theorem lexF_e : ∀ (n : Nat) (s : List UInt8) (e : Nat), s.length ≤ n → lexF s = .error e → e = 1 ∨ e = 2 ∨ e = 4 := by
 intro n
 induction n with
 | zero =>
  intro s e h0 h
  have : s = [] := List.eq_nil_of_length_eq_zero (by omega)
  subst this
  rw [lexF_end skipF_nil] at h
  cases h
 | succ n ih =>
  intro s e h0 h
  cases hs : skipF s with
  | none => rw [lexF_none hs] at h; injection h with h; omega
  | some q =>
   have hq := skipF_len s q hs
   by_cases hq0 : q = []
   ·subst hq0
    rw [lexF_end hs] at h
    cases h
   ·cases ho : oneF q with
    | error e' => rw [lexF_err hs hq0 ho] at h; injection h with h; subst h; exact oneF_err ho
    | ok p =>
     obtain ⟨t, r⟩ := p
     rw [lexF_step hs hq0 ho] at h
     have hl := oneF_len ho
     cases hr : lexF r with
     | error e' => rw [hr] at h; injection h with h; subst h; exact ih r e' (by omega) hr
     | ok l => rw [hr] at h; cases h
/-- behind a declaration -/
def aftQ (s : St) : St := if s.e = 0 ∧ kdQ s 0 = false ∧ isQ s [59, 59] = false then fauQ s 4 else s
def celM (s : St) : Nat := s.ts.length + (if s.e = 0 then 1 else 0)
theorem celL_err {k : Nat} {l : List Dc} {s : St} (h : s.e ≠ 0) : celL k l s = .error s.e := by
 cases k with
 | zero => rfl
 | succ k => simp [celL, h]
theorem celL_skip {k : Nat} {l : List Dc} {s : St} (h : s.e = 0) (h2 : isQ s [59, 59] = true) : celL (k + 1) l s = celL k l (tlQ s) := by simp [celL, h, h2]
theorem celL_end {k : Nat} {l : List Dc} {s : St} (h : s.e = 0) (h2 : isQ s [59, 59] = false) (h3 : kdQ s 0 = true) : celL (k + 1) l s = .ok l := by simp [celL, h, h2, h3]
theorem celL_step {k : Nat} {l : List Dc} {s : St} (h : s.e = 0) (h2 : isQ s [59, 59] = false) (h3 : kdQ s 0 = false) : celL (k + 1) l s = celL k (l ++ [(dclQ s).1]) (aftQ (dclQ s).2) := by
 rw [celL, if_pos h, if_neg (by simp [h2]), if_neg (by simp [h3])]
 rfl
theorem Pst.aft (s : St) : Pst s (aftQ s) := by unfold aftQ; split; exact Pst.fau _ _; exact Pst.refl _
theorem cel_less {A : List Tok} {s s' : St} (hs : s.ts <:+ A) (hs' : s'.ts <:+ A) (h0 : s.e = 0) (hp : Pst s s') (h1 : isQ s [59, 59] = false) (h2 : kdQ s 0 = false) : celM (aftQ s') < celM s := by
 unfold celM
 rw [if_pos h0]
 have hle := hp.2.1
 unfold aftQ
 split
 ·rename_i h
  rw [fauQ_ts, fauQ_z h.1, if_neg (by decide)]
  omega
 ·rename_i h
  by_cases he : s'.e = 0
  ·rcases Nat.lt_or_ge s'.ts.length s.ts.length with hl | hl
   ·split <;> omega
   ·exfalso
    apply h
    have hts : s'.ts = s.ts := by
     have := List.suffix_of_suffix_length_le hs' hs (by omega)
     exact this.eq_of_length (by omega)
    refine ⟨he, ?_, ?_⟩
    ·unfold kdQ St.hd at *; rw [he, hts]; rw [h0] at h2; exact h2
    ·unfold isQ St.hd at *; rw [he, hts]; rw [h0] at h1; exact h1
  ·rw [if_neg he]; omega
/-- what is told of a cell -/
def celV (w w' : World) (x : Except Nat (List Dc)) (v : Value) : Prop := match x with
 | .ok l => ∃ (A : Option Addr) (p : Nat) (xs : List (List Value)), v = .tuple #[.slice A l.length p, .int .i64 0, .int .i64 0] ∧ Rd w' (Bt w.heap.size w'.heap.size) (.slice A l.length p) l.length 11 (xs.flatMap id) ∧ Ms w' (Bt w.heap.size w'.heap.size) xs l ∧ l.length ≤ 2100
 | .error e => ∃ (k : Int), e ≠ 0 ∧ e ≤ 17 ∧ v = .tuple #[.slice none 0 0, .int .i64 k, .int .i64 (e : Int)]
set_option maxHeartbeats 4000000 in
theorem cell_ok {w : World} {s : List UInt8} (hs : s.length ≤ 140737488355328) : Ret Tryz.prog 15 #[Sv s] w fun v w' => celV w w' (celF s) v ∧ Upd No w w' := by
 have hcf : celF s = match tokF s with | .error e => .error e | .ok ts => celL (ts.length + 2) [] ⟨ts, 0, 0⟩ := rfl
 refine enterRet (vs := [_]) (N := 69) Tryz.func15 rfl rfl rfl ?_
 have hU := Upd.refl No w
 refine WC.keep [(0, _)] ⟨rfl, trivial⟩ (WC.seq (WC.region (WL.val rfl rfl rfl rfl (r_assign rfl ev_c) ?_)))
 refine WL.val rfl rfl rfl rfl (r_assign rfl ev_c) ?_
 refine WL.val rfl rfl rfl rfl (r_assign rfl ev_c) ?_
 refine WL.nil (WX.keep [(0, _)] ⟨rfl, trivial⟩ (WX.next (WC.seq (WC.region (WL.val rfl rfl rfl rfl (r_move rfl (ev_t rfl)) ?_)))))
 refine WL.cons (SO.call (ltokens_ok hs) rfl body_30 ⟨(ev_t rfl), trivial⟩ rfl rfl rfl rfl ?_)
 rintro v9 w1 ⟨hlx, hu1⟩
 have hs1 := hu1.size
 replace hU := hU.trans hu1 (by exact (fun _ _ h => h))
 have hlv : (∃ e, tokF s = .error e ∧ e ≠ 0 ∧ e ≤ 17 ∧ ∃ k : Int, v9 = .tuple #[.slice none 0 0, .int .i64 k, .int .i64 (e : Int)]) ∨ ∃ ts A p zs, tokF s = .ok ts ∧ v9 = .tuple #[.slice A ts.length p, .int .i64 0, .int .i64 0] ∧ zs.length = ts.length ∧ Rd w1 (fun k => w.heap.size ≤ k) (.slice A ts.length p) ts.length 3 ((ts.zip zs).flatMap tokC) ∧ ts.length ≤ 2001 := by
  cases htf : tokF s with
  | error e =>
   rw [htf] at hlx
   obtain ⟨k, h1, h2⟩ := hlx
   refine .inl ⟨e, rfl, h1, ?_, k, h2⟩
   unfold tokF at htf
   split at htf
   ·injection htf with htf; omega
   ·have := lexF_e _ s e (Nat.le_refl _) htf; omega
  | ok ts =>
   rw [htf] at hlx
   obtain ⟨sl, zs, h1, h2, h3, h4⟩ := hlx
   obtain ⟨A, p, rfl, _⟩ := h3.slice_form
   exact .inr ⟨ts, A, p, zs, rfl, h1, h2, h3, h4⟩
 clear hlx
 obtain ⟨A, n, p, k, e, rfl, hlw⟩ : ∃ (A : Option Addr) (n p : Nat) (k e : Int), v9 = .tuple #[.slice A n p, .int .i64 k, .int .i64 e] ∧ ((∃ e' : Nat, tokF s = .error e' ∧ e' ≠ 0 ∧ e' ≤ 17 ∧ e = e' ∧ A = none ∧ n = 0 ∧ p = 0) ∨ ∃ ts zs, tokF s = .ok ts ∧ e = 0 ∧ k = 0 ∧ n = ts.length ∧ zs.length = ts.length ∧ Rd w1 (fun k => w.heap.size ≤ k) (.slice A ts.length p) ts.length 3 ((ts.zip zs).flatMap tokC) ∧ ts.length ≤ 2001) := by
  rcases hlv with ⟨e, h1, h2, h3, k, rfl⟩ | ⟨ts, A, p, zs, h1, rfl, h2, h3, h4⟩
  ·exact ⟨_, _, _, _, _, rfl, .inl ⟨e, h1, h2, h3, rfl, rfl, rfl, rfl⟩⟩
  ·exact ⟨_, _, _, _, _, rfl, .inr ⟨ts, zs, h1, rfl, rfl, rfl, h2, h3, h4⟩⟩
 clear hlv
 refine WL.val rfl rfl rfl rfl (r_move rfl (ev_t rfl)) ?_
 refine WL.val rfl rfl rfl rfl (r_extract rfl (ev_t rfl) rfl) ?_
 refine WL.val rfl rfl rfl rfl (r_extract rfl (ev_t rfl) rfl) ?_
 refine WL.val rfl rfl rfl rfl (r_extract rfl (ev_t rfl) rfl) ?_
 refine WL.val rfl rfl rfl rfl (r_assign rfl (ev_t rfl)) ?_
 refine WL.val rfl rfl rfl rfl (r_assign rfl (ev_t rfl)) ?_
 refine WL.val rfl rfl rfl rfl (r_assign rfl (ev_t rfl)) ?_
 refine WL.nil (WX.keep [(5, _), (6, _), (7, _)] ⟨rfl, rfl, rfl, trivial⟩ (WX.next (WC.seq (WC.seq (WC.region (WL.val rfl rfl rfl rfl (r_move rfl (ev_t rfl)) ?_))))))
 refine WL.val rfl rfl rfl rfl (r_neq rfl (ev_t rfl) ev_c) ?_
 refine WL.nil (WX.keep [(5, _), (6, _), (7, _), (18, _)] ⟨rfl, rfl, rfl, rfl, trivial⟩ (WX.next (WC.cond rfl (ev_t rfl) (fun hc2 => ?_) (fun hc2 => ?_))))
 ·try simp only [cS, ne_eq, Decidable.not_not] at hc2
  refine WC.seq (WC.region (WL.val rfl rfl rfl rfl (r_move rfl (ev_t rfl)) ?_))
  refine WL.val rfl rfl rfl rfl (r_move rfl (ev_t rfl)) ?_
  refine WL.val rfl rfl rfl rfl (r_assign rfl ev_c) ?_
  refine WL.val rfl rfl rfl rfl (r_assign rfl (ev_t rfl)) ?_
  refine WL.val rfl rfl rfl rfl (r_assign rfl (ev_t rfl)) ?_
  refine WL.nil (WX.keep [(2, _), (3, _), (4, _)] ⟨rfl, rfl, rfl, trivial⟩ (WX.next (WC.ret (WX.thenRet (WX.retE (l := [.tmp 2, .tmp 3, .tmp 4]) (vs := [_, _, _]) rfl ⟨rfl, rfl, rfl, trivial⟩ ?_)))))
  rcases hlw with ⟨e', h1, h2, h3, rfl, rfl, rfl, rfl⟩ | ⟨ts, zs, h1, h2, _⟩
  ·refine ⟨?_, hU⟩
   rw [hcf, h1]
   exact ⟨_, h2, h3, rfl⟩
  ·omega
 ·try simp only [cS, ne_eq, Decidable.not_not] at hc2
  refine WC.skip (WX.next (WC.seq ?_))
  obtain ⟨ts, zs, htf, rfl, rfl, rfl, hzl, hrt, htl⟩ : ∃ ts zs, tokF s = .ok ts ∧ e = 0 ∧ k = 0 ∧ n = ts.length ∧ zs.length = ts.length ∧ Rd w1 (fun k => w.heap.size ≤ k) (.slice A ts.length p) ts.length 3 ((ts.zip zs).flatMap tokC) ∧ ts.length ≤ 2001 := by
   rcases hlw with ⟨e', h1, h2, h3, h4, _⟩ | h
   ·omega
   ·exact h
  replace hrt := hrt.bound
  obtain ⟨hEnd, hGood⟩ := tokF_good htf
  refine WC.region (WL.val rfl rfl rfl rfl (r_move rfl (ev_t rfl)) ?_)
  refine WL.val rfl rfl rfl rfl (r_build (cs := #[_, _, _, _, _]) (vs := [(0, _)]) rfl ⟨⟨rfl, (ev_t rfl)⟩, trivial⟩ plc_58 zero_58 rfl) ?_
  refine WL.cons (SO.alloc rfl rfl rfl rfl (r_boxAgg rfl (ev_t rfl)) ?_)
  intro w2 hu2 hB2 hz2
  have hs2 := hu2.size
  replace hU := hU.trans hu2 (by exact (fun _ _ h => h))
  replace hrt := hrt.upd hu2 (fun k hk hl hS => by exact (show False from hS).elim)
  refine WL.val rfl rfl rfl rfl (r_assign rfl (ev_t rfl)) ?_
  refine WL.nil (WX.keep [(8, _)] ⟨rfl, trivial⟩ ?_)
  have hbr := hB2
  change Blk _ _ #[.slice A ts.length p, .int .i64 0, .int .i64 0, .int .i64 0, .int .i64 0] _ at hbr
  have hlr := hbr.lt
  obtain ⟨r, hre⟩ : ∃ r, r = w1.heap.size := ⟨_, rfl⟩
  rw [← hre] at hbr hlr ⊢
  obtain ⟨st0, hst0⟩ : ∃ st0 : St, st0 = ⟨ts, 0, 0⟩ := ⟨_, rfl⟩
  have hp : PS w2 r (r + 1) ts st0 := by
   subst hst0
   refine ⟨⟨_, _, zs, 0, by rw [show (ts.length : Int) - (ts.length : Int) = 0 by omega]; exact hbr, hzl, hrt, fun k hk => ?_⟩, by omega, by omega, List.suffix_refl _, hEnd, hGood, htl, by simp, by simp⟩
   have := hk.2; omega
  have hc0 : celF s = celL (ts.length + 2) [] st0 := by rw [hcf, htf, hst0]
  have hwr : w.heap.size ≤ r := by omega
  rw [hc0]
  refine WX.next (WC.seq (WC.region (WL.val rfl rfl rfl rfl (r_assign rfl ev_c) ?_)))
  refine WL.nil (WX.keep [(8, _), (9, _)] ⟨rfl, rfl, trivial⟩ (WX.next (WC.seq (WC.block ?_))))
  -- loop 1: live [8, 9]
  refine WC.keep [(8, _), (9, _)] ⟨rfl, rfl, trivial⟩ (WC.loop (fun qq E wA => ∃ (s1 : St) (l : List Dc) (R : Nat → Prop) (v1 : Value) (k1 : Nat), qq = k1 ∧ celM s1 ≤ k1 ∧ Upd No w wA ∧ PS wA r (r + 1) ts s1 ∧ Pst st0 s1 ∧ AccR 39 wA R v1 l ∧ (∀ k, R k → r + 1 ≤ k ∧ k < wA.heap.size) ∧ l.length + celM s1 ≤ 2100 ∧ celL (ts.length + 2) [] st0 = celL k1 l s1 ∧ E = [(8, .pointer (some ⟨r, 0, none⟩)), (9, v1)]) (ts.length + 2) ?_ ?_)
  ·exact ⟨st0, [], No, _, _, rfl, by rw [hst0]; unfold celM; simp only; split <;> omega, hU, hp, Pst.refl _, AccR.nil _ _, fun k h => h.elim, by rw [hst0]; unfold celM; simp only [List.length_nil]; split <;> omega, rfl, rfl⟩
  ·clear hU hp
   rintro qq E wA ⟨s1, l, R, v1, k1, rfl, hk1, hU, hp, hPst, haR, hR, hcl, hce, rfl⟩
   obtain ⟨A1, c1, rfl, hcc1⟩ := haR.form
   have hI := hp.I
   have hsA := hU.size
   have hd1 := hPst.1
   rw [hst0] at hd1
   have hd0 : s1.d = 0 := hd1
   have hM : celM s1 = s1.ts.length + (if s1.e = 0 then 1 else 0) := rfl
   refine WC.seq (WC.seq (WC.region ?_))
   obtain ⟨FD, bD, offD, cD, zD, badD, hbD, hzD, hrD, hFD, hID⟩ := hp.open
   refine WL.val rfl rfl rfl rfl (r_move rfl (ev_t rfl)) ?_
   refine WL.val rfl rfl rfl rfl (r_nilCheck rfl (ev_t rfl)) ?_
   refine WL.val rfl rfl rfl rfl (r_field0 rfl (ev_t rfl) fld_58_4) ?_
   refine WL.val rfl rfl rfl rfl (r_load rfl (ev_t rfl) flat_3 (Blk.cell hbD rfl)) ?_
   refine WL.val rfl rfl rfl rfl (r_eql rfl (ev_t rfl) ev_c) ?_
   refine WL.nil (WX.keep [(8, _), (9, _), (28, _)] ⟨rfl, rfl, rfl, trivial⟩ (WX.next (WC.cond rfl (ev_t rfl) (fun hc6 => ?_) (fun hc6 => ?_))))
   ·try simp only [cS, ne_eq, Decidable.not_not] at hc6
    have he0 : s1.e = 0 := by omega
    rw [if_pos he0] at hM
    obtain ⟨k2, rfl⟩ : ∃ k2, qq = k2 + 1 := ⟨qq - 1, by omega⟩
    refine WC.skip (WX.next (WC.block (WC.seq (WC.seq (WC.region (WL.val rfl rfl rfl rfl (r_move rfl (ev_t rfl)) ?_))))))
    refine WL.cons (SO.call (take_ok (u := [59, 59]) hp) rfl body_31 ⟨(ev_t rfl), ev_c, trivial⟩ rfl rfl rfl rfl ?_)
    rintro v9 w3 ⟨rfl, hp2, hu3⟩
    have hs3 := hu3.size
    replace hU := hU.trans hu3 (by (intro k hl hk; (try simp only [At, New, Grow, From, No] at hk ⊢); omega))
    replace haR := haR.upd hu3 (fun k hk hl hS => by (simp only [At] at hS; have := hR k hk; omega))
    have hp := hp2
    refine WL.nil (WX.keep [(8, _), (9, _), (30, _)] ⟨rfl, rfl, rfl, trivial⟩ (WX.next (WC.cond rfl (ev_t rfl) (fun hc7 => ?_) (fun hc7 => ?_))))
    ·rw [takQ_T hc7] at hp
     refine WC.exit (WX.thenExit (WX.blockHere (WX.meet [(8, _), (9, _)] ⟨rfl, rfl, trivial⟩ ?_)))
     first
      | (have htl := tlQ_len s1
         rw [celL_skip he0 hc7] at hce
         have hM2 : celM (tlQ s1) = celM s1 - 1 := by unfold celM; rw [if_pos he0, if_pos (show (tlQ s1).e = 0 from he0)]; omega
         exact ⟨k2, by omega, _, _, _, _, k2, rfl, by omega, hU, hp, hPst.trans (Pst.tl _), haR, fun k hk => by have := hR k hk; omega, by omega, hce, rfl⟩)
      | (have haf : aftQ (dclQ s1).2 = fauQ (dclQ s1).2 4 := by unfold aftQ; rw [if_pos ⟨by omega, by simp_all, by simp_all⟩]
         rw [← haf] at hp
         rw [celL_step he0 hc7 hc8] at hce
         exact ⟨k2, by omega, _, _, R2, _, k2, rfl, by omega, hU, hp, hPst.trans (hst.trans (Pst.aft _)), haR3, fun k hk => by have := hR2 k hk; omega, by simp only [List.length_append, List.length_cons, List.length_nil]; omega, hce, rfl⟩)
      | (have haf : aftQ (dclQ s1).2 = (dclQ s1).2 := by
           unfold aftQ
           rw [if_neg]
           rintro ⟨h1, h2, h3⟩
           first | omega | (simp_all; done)
         rw [← haf] at hp
         rw [celL_step he0 hc7 hc8] at hce
         exact ⟨k2, by omega, _, _, R2, _, k2, rfl, by omega, hU, hp, hPst.trans (hst.trans (Pst.aft _)), haR3, fun k hk => by have := hR2 k hk; omega, by simp only [List.length_append, List.length_cons, List.length_nil]; omega, hce, rfl⟩)
    ·rw [takQ_F hc7] at hp
     refine WC.skip (WX.next (WC.seq (WC.seq (WC.region (WL.val rfl rfl rfl rfl (r_move rfl (ev_t rfl)) ?_)))))
     refine WL.cons (SO.call (kind_ok (k := 0) hp) rfl body_32 ⟨(ev_t rfl), ev_c, trivial⟩ rfl rfl rfl rfl ?_)
     rintro v9 w4 ⟨rfl, hu4⟩
     have hs4 := hu4.size
     replace hU := hU.trans hu4 (by exact (fun _ _ h => h))
     replace haR := haR.upd hu4 (fun k hk hl hS => by exact (show False from hS).elim)
     replace hp := hp.upd hu4 (by exact (fun _ _ h => h))
     refine WL.nil (WX.keep [(8, _), (9, _), (32, _)] ⟨rfl, rfl, rfl, trivial⟩ (WX.next (WC.cond rfl (ev_t rfl) (fun hc8 => ?_) (fun hc8 => ?_))))
     ·refine WC.seq (WC.region (WL.val rfl rfl rfl rfl (r_move rfl (ev_t rfl)) ?_))
      refine WL.val rfl rfl rfl rfl (r_assign rfl (ev_t rfl)) ?_
      refine WL.val rfl rfl rfl rfl (r_assign rfl ev_c) ?_
      refine WL.val rfl rfl rfl rfl (r_assign rfl ev_c) ?_
      refine WL.nil (WX.keep [(2, _), (3, _), (4, _)] ⟨rfl, rfl, rfl, trivial⟩ (WX.next (WC.ret (WX.thenRet (WX.blockRet (WX.thenRet (WX.blockRet (WX.thenRet (WX.retE (l := [.tmp 2, .tmp 3, .tmp 4]) (vs := [_, _, _]) rfl ⟨rfl, rfl, rfl, trivial⟩ ?_)))))))))
      rw [hce, celL_end he0 hc7 hc8]
      obtain ⟨xs, hrx, hmx⟩ := haR.done (by omega)
      exact ⟨⟨_, _, xs, rfl, hrx.mono fun k hk => by have := hR k hk.1; simp only [Bt]; omega, hmx.mono fun k hk => by have := hR k hk.1; simp only [Bt]; omega, by omega⟩, hU⟩
     ·refine WC.skip (WX.next (WC.seq (WC.region (WL.val rfl rfl rfl rfl (r_move rfl (ev_t rfl)) ?_))))
      refine WL.cons (SO.call (decl_ok hp hd0) rfl body_33 ⟨(ev_t rfl), trivial⟩ rfl rfl rfl rfl ?_)
      rintro v9 w5 ⟨c9, rfl, ht, hp2, hst, hu5⟩
      have hless := cel_less hp.suf hp2.suf he0 hst hc7 hc8
      have hs5 := hu5.size
      replace hU := hU.trans hu5 (by (intro k hl hk; (try simp only [At, New, Grow, From, No] at hk ⊢); omega))
      replace haR := haR.upd hu5 (fun k hk hl hS => by (simp only [At] at hS; have := hR k hk; omega))
      have hp := hp2
      obtain ⟨a1, a2, a3, a4, a5, a6, a7, a8, a9, a10, a11, a12, rfl⟩ := ht.mk11
      refine WL.cons (SO.alloc rfl rfl rfl rfl (r_alloc rfl zero_39) ?_)
      intro w6 hu6 hB6 hz6
      have hs6 := hu6.size
      replace hU := hU.trans hu6 (by exact (fun _ _ h => h))
      replace haR := haR.upd hu6 (fun k hk hl hS => by exact (show False from hS).elim)
      replace hp := hp.upd hu6 (by exact (fun _ _ h => h))
      replace ht := ht.upd hu6 (fun k hk hl hS => by exact (show False from hS).elim)
      refine WL.cons (SO.storeAll (us := [_, _, _, _, _, _, _, _, _, _, _]) rfl (ev_t rfl) (ev_t rfl) size_39 hB6 rfl rfl rfl rfl rfl ?_)
      intro w7 hu7 hB6 hz7
      have hs7 := hu7.size
      replace hU := hU.trans hu7 (by (intro k hl hk; (try simp only [At, New, Grow, From, No] at hk ⊢); omega))
      replace haR := haR.upd hu7 (fun k hk hl hS => by (simp only [At] at hS; have := hR k hk; omega))
      replace hp := hp.upd hu7 (by (intro k hk hS; first | (simp only [At] at hS; omega) | (have := hR k hS; omega)))
      replace ht := ht.upd hu7 (fun k hk hl hS => by (simp only [At, Bt] at hS hk; omega))
      refine WL.nil (WX.keep [(8, _), (9, _), (10, _)] ⟨rfl, rfl, rfl, trivial⟩ ?_)
      have hb10 := hB6
      refine WX.next (WC.seq (WC.region (WL.val rfl rfl rfl rfl (r_move rfl (ev_t rfl)) ?_)))
      refine WL.val rfl rfl rfl rfl (r_loadAgg (vs := [_, _, _, _, _, _, _, _, _, _, _]) rfl (ev_t rfl) agg_39 size_39 (Blk.cellsL hb10)) ?_
      refine WL.cons (SO.alloc rfl rfl rfl rfl (r_buildSlice11 rfl (ev_t rfl) row_30) ?_)
      intro w8 hu8 hB8 hz8
      have hs8 := hu8.size
      replace hU := hU.trans hu8 (by exact (fun _ _ h => h))
      replace haR := haR.upd hu8 (fun k hk hl hS => by exact (show False from hS).elim)
      replace hp := hp.upd hu8 (by exact (fun _ _ h => h))
      replace ht := ht.upd hu8 (fun k hk hl hS => by exact (show False from hS).elim)
      replace hb10 := hb10.upd hu8 (by exact (fun h => h))
      refine WL.cons (SO.appendR haR ht (fun k hk hR9 => by have := hR k hR9; simp only [Bt] at hk; omega) (Rd.of_blk (F := At _) (n := 1) (sz := 11) hB8 rfl rfl (by omega)) row_30 (by omega) rfl rfl (ev_t rfl) (ev_t rfl) rfl rfl rfl rfl ?_)
      intro v5 w9 haR2 hu9
      have hs9 := hu9.size
      replace hU := hU.trans hu9 (by (intro k hl hk; first | exact (show False from hk).elim | (have := hR k hk; omega) | (simp only [At] at hk; omega)))
      replace hp := hp.upd hu9 (by (intro k hk hS; first | (simp only [At] at hS; omega) | (have := hR k hS; omega)))
      obtain ⟨A5, c5, rfl, _⟩ := haR2.form
      obtain ⟨R2, haR3, hR2⟩ : ∃ R2 : Nat → Prop, AccR 39 w9 R2 (.slice A5 (l ++ [(dclQ s1).1]).length c5) (l ++ [(dclQ s1).1]) ∧ ∀ k, R2 k → r + 1 ≤ k ∧ k < w9.heap.size := ⟨fun k => r + 1 ≤ k ∧ k < w9.heap.size, haR2.mono (fun k hk hl => by
          rcases hk with h | h | h
          · exact ⟨(hR k h).1, hl⟩
          · simp only [Bt] at h; omega
          · omega), fun k hk => hk⟩
      clear haR2
      refine WL.val rfl rfl rfl rfl (r_assign rfl (ev_t rfl)) ?_
      refine WL.nil (WX.keep [(8, _), (9, _)] ⟨rfl, rfl, trivial⟩ (WX.next (WC.seq (WC.region ?_))))
      obtain ⟨FE, bE, offE, cE, zE, badE, hbE, hzE, hrE, hFE, hIE⟩ := hp.open
      refine WL.val rfl rfl rfl rfl (r_move rfl (ev_t rfl)) ?_
      refine WL.val rfl rfl rfl rfl (r_nilCheck rfl (ev_t rfl)) ?_
      refine WL.val rfl rfl rfl rfl (r_field0 rfl (ev_t rfl) fld_58_4) ?_
      refine WL.val rfl rfl rfl rfl (r_load rfl (ev_t rfl) flat_3 (Blk.cell hbE rfl)) ?_
      refine WL.val rfl rfl rfl rfl (r_eql rfl (ev_t rfl) ev_c) ?_
      refine WL.val rfl rfl rfl rfl (r_move rfl (ev_t rfl)) ?_
      refine WL.cases 45 rfl (fun hb12_5 => ?_) (fun hb12_5 => ?_)
      ·try simp only [cS, ne_eq, Decidable.not_not] at hb12_5
       refine WL.val rfl rfl rfl rfl (r_move rfl (ev_t rfl)) ?_
       refine WL.cons (SO.call (kind_ok (k := 0) hp) rfl body_32 ⟨(ev_t rfl), ev_c, trivial⟩ rfl rfl rfl rfl ?_)
       rintro v9 w10 ⟨rfl, hu10⟩
       have hs10 := hu10.size
       replace hU := hU.trans hu10 (by exact (fun _ _ h => h))
       replace hp := hp.upd hu10 (by exact (fun _ _ h => h))
       replace haR3 := haR3.upd hu10 (fun k hk hl hS => by exact (show False from hS).elim)
       refine WL.val rfl rfl rfl rfl (r_not rfl (ev_t rfl)) ?_
       refine WL.val rfl rfl rfl rfl (r_pickT rfl (ev_t rfl) (ev_t rfl)) ?_
       refine WL.val rfl rfl rfl rfl (r_move rfl (ev_t rfl)) ?_
       refine WL.cases 50 rfl (fun hb12_10 => ?_) (fun hb12_10 => ?_)
       ·try simp only [cS, ne_eq, Decidable.not_not] at hb12_10
        refine WL.val rfl rfl rfl rfl (r_move rfl (ev_t rfl)) ?_
        refine WL.cons (SO.call (is_ok (u := [59, 59]) hp) rfl body_34 ⟨(ev_t rfl), ev_c, trivial⟩ rfl rfl rfl rfl ?_)
        rintro v9 w11 ⟨rfl, hu11⟩
        have hs11 := hu11.size
        replace hU := hU.trans hu11 (by exact (fun _ _ h => h))
        replace hp := hp.upd hu11 (by exact (fun _ _ h => h))
        replace haR3 := haR3.upd hu11 (fun k hk hl hS => by exact (show False from hS).elim)
        refine WL.val rfl rfl rfl rfl (r_not rfl (ev_t rfl)) ?_
        refine WL.val rfl rfl rfl rfl (r_pickT rfl (ev_t rfl) (ev_t rfl)) ?_
        refine WL.nil (WX.keep [(8, _), (9, _), (54, _)] ⟨rfl, rfl, rfl, trivial⟩ (WX.next (WC.cond rfl (ev_t rfl) (fun hc12 => ?_) (fun hc12 => ?_))))
        ·try simp only [cS, ne_eq, Decidable.not_not] at hc12
         refine WC.region ?_
         obtain ⟨FD, bD, offD, cD, zD, badD, hbD, hzD, hrD, hFD, hID⟩ := hp.open
         refine WL.val rfl rfl rfl rfl (r_move rfl (ev_t rfl)) ?_
         refine WL.val rfl rfl rfl rfl (r_move rfl (ev_t rfl)) ?_
         refine WL.val rfl rfl rfl rfl (r_nilCheck rfl (ev_t rfl)) ?_
         refine WL.val rfl rfl rfl rfl (r_field0 rfl (ev_t rfl) fld_58_1) ?_
         refine WL.val rfl rfl rfl rfl (r_load rfl (ev_t rfl) flat_3 (Blk.cell hbD rfl)) ?_
         refine WL.cons (SO.call (fault_ok (e := 4) hp (by omega) (by decide)) rfl body_35 ⟨(ev_t rfl), (ev_t rfl), ev_c, trivial⟩ rfl rfl rfl rfl ?_)
         rintro v9 w12 ⟨hp2, hu12⟩
         have hs12 := hu12.size
         replace hU := hU.trans hu12 (by (intro k hl hk; (try simp only [At, New, Grow, From, No] at hk ⊢); omega))
         replace haR3 := haR3.upd hu12 (fun k hk hl hS => by (simp only [At] at hS; have := hR2 k hk; omega))
         have hp := hp2
         refine WL.nil (WX.keep [(8, _), (9, _)] ⟨rfl, rfl, trivial⟩ (WX.blockNormal (WX.meet [(8, _), (9, _)] ⟨rfl, rfl, trivial⟩ ?_)))
         first
          | (have htl := tlQ_len s1
             rw [celL_skip he0 hc7] at hce
             have hM2 : celM (tlQ s1) = celM s1 - 1 := by unfold celM; rw [if_pos he0, if_pos (show (tlQ s1).e = 0 from he0)]; omega
             exact ⟨k2, by omega, _, _, _, _, k2, rfl, by omega, hU, hp, hPst.trans (Pst.tl _), haR, fun k hk => by have := hR k hk; omega, by omega, hce, rfl⟩)
          | (have haf : aftQ (dclQ s1).2 = fauQ (dclQ s1).2 4 := by unfold aftQ; rw [if_pos ⟨by omega, by simp_all, by simp_all⟩]
             rw [← haf] at hp
             rw [celL_step he0 hc7 hc8] at hce
             exact ⟨k2, by omega, _, _, R2, _, k2, rfl, by omega, hU, hp, hPst.trans (hst.trans (Pst.aft _)), haR3, fun k hk => by have := hR2 k hk; omega, by simp only [List.length_append, List.length_cons, List.length_nil]; omega, hce, rfl⟩)
          | (have haf : aftQ (dclQ s1).2 = (dclQ s1).2 := by
               unfold aftQ
               rw [if_neg]
               rintro ⟨h1, h2, h3⟩
               first | omega | (simp_all; done)
             rw [← haf] at hp
             rw [celL_step he0 hc7 hc8] at hce
             exact ⟨k2, by omega, _, _, R2, _, k2, rfl, by omega, hU, hp, hPst.trans (hst.trans (Pst.aft _)), haR3, fun k hk => by have := hR2 k hk; omega, by simp only [List.length_append, List.length_cons, List.length_nil]; omega, hce, rfl⟩)
        ·try simp only [cS, ne_eq, Decidable.not_not] at hc12
         refine WC.skip (WX.blockNormal (WX.meet [(8, _), (9, _)] ⟨rfl, rfl, trivial⟩ ?_))
         first
          | (have htl := tlQ_len s1
             rw [celL_skip he0 hc7] at hce
             have hM2 : celM (tlQ s1) = celM s1 - 1 := by unfold celM; rw [if_pos he0, if_pos (show (tlQ s1).e = 0 from he0)]; omega
             exact ⟨k2, by omega, _, _, _, _, k2, rfl, by omega, hU, hp, hPst.trans (Pst.tl _), haR, fun k hk => by have := hR k hk; omega, by omega, hce, rfl⟩)
          | (have haf : aftQ (dclQ s1).2 = fauQ (dclQ s1).2 4 := by unfold aftQ; rw [if_pos ⟨by omega, by simp_all, by simp_all⟩]
             rw [← haf] at hp
             rw [celL_step he0 hc7 hc8] at hce
             exact ⟨k2, by omega, _, _, R2, _, k2, rfl, by omega, hU, hp, hPst.trans (hst.trans (Pst.aft _)), haR3, fun k hk => by have := hR2 k hk; omega, by simp only [List.length_append, List.length_cons, List.length_nil]; omega, hce, rfl⟩)
          | (have haf : aftQ (dclQ s1).2 = (dclQ s1).2 := by
               unfold aftQ
               rw [if_neg]
               rintro ⟨h1, h2, h3⟩
               (simp_all; done)
             rw [← haf] at hp
             rw [celL_step he0 hc7 hc8] at hce
             exact ⟨k2, by omega, _, _, R2, _, k2, rfl, by omega, hU, hp, hPst.trans (hst.trans (Pst.aft _)), haR3, fun k hk => by have := hR2 k hk; omega, by simp only [List.length_append, List.length_cons, List.length_nil]; omega, hce, rfl⟩)
       ·try simp only [cS, ne_eq, Decidable.not_not] at hb12_10
        refine WL.skip rfl rfl rfl (WL.skip rfl rfl rfl (WL.skip rfl rfl rfl (WL.val rfl rfl rfl rfl (r_pickF rfl (ev_t rfl) ev_c) ?_)))
        refine WL.nil (WX.keep [(8, _), (9, _), (54, _)] ⟨rfl, rfl, rfl, trivial⟩ (WX.next (WC.cond_false rfl (ev_t rfl) ?_)))
        refine WC.skip (WX.blockNormal (WX.meet [(8, _), (9, _)] ⟨rfl, rfl, trivial⟩ ?_))
        first
         | (have htl := tlQ_len s1
            rw [celL_skip he0 hc7] at hce
            have hM2 : celM (tlQ s1) = celM s1 - 1 := by unfold celM; rw [if_pos he0, if_pos (show (tlQ s1).e = 0 from he0)]; omega
            exact ⟨k2, by omega, _, _, _, _, k2, rfl, by omega, hU, hp, hPst.trans (Pst.tl _), haR, fun k hk => by have := hR k hk; omega, by omega, hce, rfl⟩)
         | (have haf : aftQ (dclQ s1).2 = fauQ (dclQ s1).2 4 := by unfold aftQ; rw [if_pos ⟨by omega, by simp_all, by simp_all⟩]
            rw [← haf] at hp
            rw [celL_step he0 hc7 hc8] at hce
            exact ⟨k2, by omega, _, _, R2, _, k2, rfl, by omega, hU, hp, hPst.trans (hst.trans (Pst.aft _)), haR3, fun k hk => by have := hR2 k hk; omega, by simp only [List.length_append, List.length_cons, List.length_nil]; omega, hce, rfl⟩)
         | (have haf : aftQ (dclQ s1).2 = (dclQ s1).2 := by
              unfold aftQ
              rw [if_neg]
              rintro ⟨h1, h2, h3⟩
              (simp_all; done)
            rw [← haf] at hp
            rw [celL_step he0 hc7 hc8] at hce
            exact ⟨k2, by omega, _, _, R2, _, k2, rfl, by omega, hU, hp, hPst.trans (hst.trans (Pst.aft _)), haR3, fun k hk => by have := hR2 k hk; omega, by simp only [List.length_append, List.length_cons, List.length_nil]; omega, hce, rfl⟩)
      ·try simp only [cS, ne_eq, Decidable.not_not] at hb12_5
       refine WL.skip rfl rfl rfl (WL.skip rfl rfl rfl (WL.skip rfl rfl rfl (WL.val rfl rfl rfl rfl (r_pickF rfl (ev_t rfl) ev_c) ?_)))
       refine WL.val rfl rfl rfl rfl (r_move rfl (ev_t rfl)) ?_
       refine WL.skip rfl rfl rfl (WL.skip rfl rfl rfl (WL.skip rfl rfl rfl (WL.val rfl rfl rfl rfl (r_pickF rfl (ev_t rfl) ev_c) ?_)))
       refine WL.nil (WX.keep [(8, _), (9, _), (54, _)] ⟨rfl, rfl, rfl, trivial⟩ (WX.next (WC.cond_false rfl (ev_t rfl) ?_)))
       refine WC.skip (WX.blockNormal (WX.meet [(8, _), (9, _)] ⟨rfl, rfl, trivial⟩ ?_))
       first
        | (have htl := tlQ_len s1
           rw [celL_skip he0 hc7] at hce
           have hM2 : celM (tlQ s1) = celM s1 - 1 := by unfold celM; rw [if_pos he0, if_pos (show (tlQ s1).e = 0 from he0)]; omega
           exact ⟨k2, by omega, _, _, _, _, k2, rfl, by omega, hU, hp, hPst.trans (Pst.tl _), haR, fun k hk => by have := hR k hk; omega, by omega, hce, rfl⟩)
        | (have haf : aftQ (dclQ s1).2 = fauQ (dclQ s1).2 4 := by unfold aftQ; rw [if_pos ⟨by omega, by simp_all, by simp_all⟩]
           rw [← haf] at hp
           rw [celL_step he0 hc7 hc8] at hce
           exact ⟨k2, by omega, _, _, R2, _, k2, rfl, by omega, hU, hp, hPst.trans (hst.trans (Pst.aft _)), haR3, fun k hk => by have := hR2 k hk; omega, by simp only [List.length_append, List.length_cons, List.length_nil]; omega, hce, rfl⟩)
        | (have haf : aftQ (dclQ s1).2 = (dclQ s1).2 := by
             unfold aftQ
             rw [if_neg]
             rintro ⟨h1, h2, h3⟩
             omega
           rw [← haf] at hp
           rw [celL_step he0 hc7 hc8] at hce
           exact ⟨k2, by omega, _, _, R2, _, k2, rfl, by omega, hU, hp, hPst.trans (hst.trans (Pst.aft _)), haR3, fun k hk => by have := hR2 k hk; omega, by simp only [List.length_append, List.length_cons, List.length_nil]; omega, hce, rfl⟩)
   ·try simp only [cS, ne_eq, Decidable.not_not] at hc6
    have he1 : s1.e ≠ 0 := by omega
    rw [celL_err (s := s1) he1] at hce
    refine WC.exit (WX.thenExit (WX.thenExit (WX.blockHere (WX.next (WC.seq (WC.draws' (fun u0_ u1_ => Upd No u0_ u1_) (fun j => [0, 0, 0, 0, 0, 0, 0, 1, 0, 0, 0].getD j 0) (.calm 0 (.calm 1 (.calm 2 (.calm 4 (.calm 5 (.calm 6 (.calm 8 (.held 3 (.calm 9 (.one 7 (.calm 10 (.done)))))))))))) mixed (by kernel_rfl) (by repeat (first | with_reducible exact Deaf.body | with_reducible apply Deaf.then)) ?_))))))
    intro w13 hu13
    have hz13 := congrArg Array.size hu13.2.2.2
    replace hu13 := Upd.of_draw hu13
    have hs13 := hu13.size
    replace hU := hU.trans hu13 (by exact (fun _ _ h => h))
    replace hp := hp.upd hu13 (by exact (fun _ _ h => h))
    replace haR := haR.upd hu13 (fun k hk hl hS => by exact (show False from hS).elim)
    have hS14 := Upd.refl No w13
    obtain ⟨FD, bD, offD, cD, zD, badD, hbD, hzD, hrD, hFD, hID⟩ := hp.open
    refine WN.calm _ rfl rfl rfl rfl rfl (fun _ => r_move rfl (ev_t rfl)) ?_
    refine WN.calm _ rfl rfl rfl rfl rfl (fun _ => r_nilCheck rfl (ev_t rfl)) ?_
    refine WN.calm _ rfl rfl rfl rfl rfl (fun _ => r_field0 rfl (ev_t rfl) fld_58_3) ?_
    refine WN.calm _ rfl rfl rfl rfl rfl (fun _ => r_move rfl (ev_t rfl)) ?_
    refine WN.calm _ rfl rfl rfl rfl rfl (fun _ => r_nilCheck rfl (ev_t rfl)) ?_
    refine WN.calm _ rfl rfl rfl rfl rfl (fun _ => r_field0 rfl (ev_t rfl) fld_58_4) ?_
    refine WN.calm _ rfl rfl rfl rfl rfl (fun _ => r_assign rfl ev_c) ?_
    refine WN.held _ rfl rfl rfl rfl rfl hS14 (fun w' hS => r_load rfl (ev_t rfl) flat_3 (Blk.cell (hbD.upd hS (fun h => h)) rfl)) ?_
    refine WN.calm _ rfl rfl rfl rfl rfl (fun _ => r_assign rfl (ev_t rfl)) ?_
    refine WN.step _ rfl (SO.val rfl rfl rfl rfl (r_load rfl (ev_t rfl) flat_3 (Blk.cell hbD rfl)) ?_)
    refine ⟨hS14, ?_⟩
    refine WN.calm _ rfl rfl rfl rfl rfl (fun _ => r_assign rfl (ev_t rfl)) ?_
    refine WN.done ?_
    refine WX.keep [(2, _), (3, _), (4, _)] ⟨rfl, rfl, rfl, trivial⟩ (WX.next (WC.ret (WX.retE (l := [.tmp 2, .tmp 3, .tmp 4]) (vs := [_, _, _]) rfl ⟨rfl, rfl, rfl, trivial⟩ ?_)))
    rw [hce]
    exact ⟨⟨_, he1, hp.ele, rfl⟩, hU⟩
end Go.Proofs.YtomkdhkkggbioaaGreatDoor

/-
  A type's text, declared as the type of a constructor, is read as that type; the types that a cell declares. In plain Lean.
-/
namespace Go.Proofs.YtomkdhkkggbioaaGreatDoor
open Go
set_option linter.unusedSimpArgs false
set_option linter.unusedVariables false

theorem LX.word {n r : List UInt8} (h : n ∈ wordsL) (hr : Stp r) : LX n [⟨6, n⟩] r := by
  have hall : ∀ n ∈ wordsL, ∃ c l, n = c :: l ∧ smB c = true ∧ l.all inB = true ∧ n.length ≤ 24 ∧ c ≠ 40 ∧ wsB c = false := by
    intro n hn
    simp only [wordsL, List.mem_cons, List.not_mem_nil, or_false] at hn
    rcases hn with rfl | rfl | rfl | rfl | rfl | rfl | rfl | rfl | rfl | rfl | rfl | rfl | rfl | rfl | rfl <;> exact ⟨_, _, rfl, by decide, by decide, by decide, by decide, by decide⟩
  obtain ⟨c, l, rfl, hc, hl, h24, h40, hws⟩ := hall n h
  obtain ⟨ht, hd⟩ := takeW_stop hl hr
  refine LX.one hws (atF_head h40 _) ?_
  rw [oneF, if_pos (by simp [hc]), ht, hd, if_neg (by omega), if_pos (by simp only [wordF, decide_eq_true_eq]; exact h)]
theorem LX.con1 {c : UInt8} {r : List UInt8} (h : grB c = true) (hr : Stp r) : LX [c] [⟨2, [c]⟩] r := by
  have hc9 : 65 ≤ c.toNat ∧ c.toNat ≤ 90 := by simpa [grB] using h
  obtain ⟨ht, hd⟩ := takeW_stop (p := inB) (l := []) (r := r) rfl hr
  rw [List.nil_append] at ht hd
  refine LX.one (by simp only [wsB, decide_eq_false_iff_not]; omega) (atF_head (fun e => by subst e; revert h; decide) _) ?_
  have hw : wordF [c] = false := by
    simp only [wordF, decide_eq_false_iff_not]
    intro hm
    simp [wordsL] at hm
  rw [List.nil_append, oneF, if_pos (by simp [h]), ht, hd]
  rw [if_neg (by simp), if_neg (by simp [hw]), if_neg (by omega), if_pos h]
theorem LX.eq (r : List UInt8) : LX [61] [sgT [61]] r := LX.sign (by decide) (by decide) (by decide) (by decide) (by decide) (by decide) (atF_head (by decide) _) (by simp [signsL, atF])
/-- type ('a, 'b, 'c, 'd) t = C of -/
def preS : List UInt8 := [116, 121, 112, 101, 32, 40, 39, 97, 44, 32, 39, 98, 44, 32, 39, 99, 44, 32, 39, 100, 41, 32, 116, 32, 61, 32, 67, 32, 111, 102, 32]
def preT : List Tok := [⟨6, [116, 121, 112, 101]⟩, sgT [40], ⟨3, [39, 97]⟩, sgT [44], ⟨3, [39, 98]⟩, sgT [44], ⟨3, [39, 99]⟩, sgT [44], ⟨3, [39, 100]⟩, sgT [41], ⟨1, [116]⟩, sgT [61], ⟨2, [67]⟩, ⟨6, [111, 102]⟩]
theorem lex_pre (r : List UInt8) : LX preS preT r := by
  have v : ∀ (k : Int) (c : UInt8) (r : List UInt8), 1 ≤ k → k ≤ 26 → varS k = [39, c] → Stp r → LX [39, c] [⟨3, [39, c]⟩] r := fun k c r h1 h2 h3 hr => by rw [← h3]; exact LX.var h1 h2 hr
  have h := LX.app (LX.word (n := [116, 121, 112, 101]) (by decide) (Stp.of (c := 32) (r := [40, 39, 97, 44, 32, 39, 98, 44, 32, 39, 99, 44, 32, 39, 100, 41, 32, 116, 32, 61, 32, 67, 32, 111, 102, 32] ++ r) (by decide)))
    (LX.app (LX.sp _) (LX.app (LX.opn (r := [39, 97, 44, 32, 39, 98, 44, 32, 39, 99, 44, 32, 39, 100, 41, 32, 116, 32, 61, 32, 67, 32, 111, 102, 32] ++ r) (by simp))
    (LX.app (v 1 97 _ (by decide) (by decide) rfl (Stp.of (c := 44) (r := [32, 39, 98, 44, 32, 39, 99, 44, 32, 39, 100, 41, 32, 116, 32, 61, 32, 67, 32, 111, 102, 32] ++ r) (by decide))) (LX.app (LX.comma _) (LX.app (LX.sp _)
    (LX.app (v 2 98 _ (by decide) (by decide) rfl (Stp.of (c := 44) (r := [32, 39, 99, 44, 32, 39, 100, 41, 32, 116, 32, 61, 32, 67, 32, 111, 102, 32] ++ r) (by decide))) (LX.app (LX.comma _) (LX.app (LX.sp _)
    (LX.app (v 3 99 _ (by decide) (by decide) rfl (Stp.of (c := 44) (r := [32, 39, 100, 41, 32, 116, 32, 61, 32, 67, 32, 111, 102, 32] ++ r) (by decide))) (LX.app (LX.comma _) (LX.app (LX.sp _)
    (LX.app (v 4 100 _ (by decide) (by decide) rfl (Stp.of (c := 41) (r := [32, 116, 32, 61, 32, 67, 32, 111, 102, 32] ++ r) (by decide))) (LX.app (LX.shut _) (LX.app (LX.sp _)
    (LX.app (LX.name (n := [116]) (by decide) (Stp.of (c := 32) (r := [61, 32, 67, 32, 111, 102, 32] ++ r) (by decide))) (LX.app (LX.sp _) (LX.app (LX.eq _) (LX.app (LX.sp _)
    (LX.app (LX.con1 (c := 67) (by decide) (Stp.of (c := 32) (r := [111, 102, 32] ++ r) (by decide))) (LX.app (LX.sp _)
    (LX.app (LX.word (n := [111, 102]) (by decide) (Stp.of (c := 32) (r := r) (by decide))) (LX.sp r))))))))))))))))))))))
  exact h
theorem tok_back {f : Nat} {t : Tr} (h1 : szT t ≤ f) (h2 : gT 4 t) : tokF (preS ++ typS f t 0) = .error 2 ∨ tokF (preS ++ typS f t 0) = .ok (preT ++ tkT f t 0 ++ [⟨0, []⟩]) := by
  unfold tokF
  split
  · exact .inl rfl
  · right
    have hA := lex_pre (typS f t 0)
    have hB := (lex_typ (N := 4) (by decide) f t 0 h1 h2).1 [] (fun c hc => by simp at hc)
    unfold LX at hA hB
    rw [List.append_nil] at hB
    rw [hA, hB, lexF_end skipF_nil]
    simp [Except.map]
theorem newQ_nil {t : List UInt8 × St} {l : List (List UInt8)} (h : hasQ l t.1 = 0) : newQ l t = t.2 := by unfold newQ; rw [if_neg (by omega)]
theorem txtQ_S0 {k : Nat} {w : List UInt8} {ts : List Tok} {d : Nat} : txtQ (S0 (⟨k, w⟩ :: ts) d) k = (w, S0 ts d) := by rw [txtQ_T (by rw [kdQ_S0]; simp)]; rfl
/-- the declaration -/
def dc9 (t : Tr) : Dc := ⟨3, [116], false, Ex.z, 4, [⟨[67], true, t⟩]⟩
theorem typQ_back {X : List Tok} {t : Tr} (h : O5 ((tq 51).arr vs4 (S0 (X ++ [⟨0, []⟩]) 0)) t (S0 [⟨0, []⟩] 0)) : O5 (typQ (S0 ([sgT [40], ⟨3, [39, 97]⟩, sgT [44], ⟨3, [39, 98]⟩, sgT [44], ⟨3, [39, 99]⟩, sgT [44], ⟨3, [39, 100]⟩, sgT [41], ⟨1, [116]⟩, sgT [61], ⟨2, [67]⟩, ⟨6, [111, 102]⟩] ++ (X ++ [⟨0, []⟩])) 0)) (dc9 t) (S0 [⟨0, []⟩] 0) := by
  obtain ⟨R, hR⟩ : ∃ R, R = X ++ [(⟨0, []⟩ : Tok)] := ⟨_, rfl⟩
  obtain ⟨g, hg⟩ : ∃ g, g = (tq 51).arr := ⟨_, rfl⟩
  rw [← hR, ← hg] at h
  rw [← hR]
  unfold typQ
  simp only [List.cons_append, List.nil_append]
  have hm : isQ (S0 (sgT [40] :: ⟨3, [39, 97]⟩ :: sgT [44] :: ⟨3, [39, 98]⟩ :: sgT [44] :: ⟨3, [39, 99]⟩ :: sgT [44] :: ⟨3, [39, 100]⟩ :: sgT [41] :: ⟨1, [116]⟩ :: sgT [61] :: ⟨2, [67]⟩ :: ⟨6, [111, 102]⟩ :: R) 0) [40] = true := rfl
  rw [hm, takQ_T hm, tlQ_S0]
  have hv : ∀ k, varL true (k + 4) [] (S0 (⟨3, [39, 97]⟩ :: sgT [44] :: ⟨3, [39, 98]⟩ :: sgT [44] :: ⟨3, [39, 99]⟩ :: sgT [44] :: ⟨3, [39, 100]⟩ :: sgT [41] :: ⟨1, [116]⟩ :: sgT [61] :: ⟨2, [67]⟩ :: ⟨6, [111, 102]⟩ :: R) 0) = (vs4, S0 (sgT [41] :: ⟨1, [116]⟩ :: sgT [61] :: ⟨2, [67]⟩ :: ⟨6, [111, 102]⟩ :: R) 0) := fun k => by
    rw [varL_step rfl (by rw [txtQ_S0, newQ_nil rfl, isQ_sg]; decide), txtQ_S0, newQ_nil rfl, tlQ_S0]
    rw [varL_step rfl (by rw [txtQ_S0, newQ_nil rfl, isQ_sg]; decide), txtQ_S0, newQ_nil rfl, tlQ_S0]
    rw [varL_step rfl (by rw [txtQ_S0, newQ_nil rfl, isQ_sg]; decide), txtQ_S0, newQ_nil rfl, tlQ_S0]
    rw [varL_last rfl (.inr (by rw [txtQ_S0, newQ_nil rfl, isQ_sg]; decide)), txtQ_S0, newQ_nil rfl]
    rfl
  rw [if_pos (.inl rfl), if_pos rfl]
  have hf : (S0 (⟨3, [39, 97]⟩ :: sgT [44] :: ⟨3, [39, 98]⟩ :: sgT [44] :: ⟨3, [39, 99]⟩ :: sgT [44] :: ⟨3, [39, 100]⟩ :: sgT [41] :: ⟨1, [116]⟩ :: sgT [61] :: ⟨2, [67]⟩ :: ⟨6, [111, 102]⟩ :: R) 0).ts.length + 2 = (R.length + 10) + 4 := by simp
  rw [hf, hv]
  dsimp only
  rw [musQ_S0, txtQ_S0]
  dsimp only
  rw [musQ_S0, takQ_F (by rw [isQ_nm (by decide)])]
  have hct : ctQ vs4 [] (S0 (⟨2, [67]⟩ :: ⟨6, [111, 102]⟩ :: R) 0) = (⟨[67], true, (g vs4 (S0 R 0)).1⟩, (g vs4 (S0 R 0)).2) := by
    unfold ctQ
    dsimp only
    rw [← hg, txtQ_S0, newQ_nil rfl]
    exact if_pos rfl
  have hf2 : (S0 (⟨2, [67]⟩ :: ⟨6, [111, 102]⟩ :: R) 0).ts.length + 2 = (R.length + 3) + 1 := by simp
  rw [hf2]
  rcases h with h | h
  · left
    rw [ctrL_last rfl (by rw [hct]; exact isQ_e (by dsimp only; omega)), hct]
    exact h
  · right
    rw [h] at hct
    rw [ctrL_last rfl (by rw [hct]; rfl), hct]
    rfl
theorem cel_back {f : Nat} {t : Tr} (h1 : szT t ≤ f) (h2 : gT 4 t) : celF (preS ++ typS f t 0) = .error 2 ∨ celF (preS ++ typS f t 0) = .error 5 ∨ celF (preS ++ typS f t 0) = .ok [dc9 t] := by
  have hcf : celF (preS ++ typS f t 0) = match tokF (preS ++ typS f t 0) with | .error e => .error e | .ok ts => celL (ts.length + 2) [] ⟨ts, 0, 0⟩ := rfl
  rw [hcf]
  rcases tok_back h1 h2 with h | h
  · left; rw [h]
  · right
    rw [h]
    dsimp only
    have hC := (pars_all f t h1 h2).2.2 51 0 [⟨0, []⟩] (by decide) (by decide) (fun t ht => by simp at ht; subst ht; decide) (fun t ht => by simp at ht; subst ht; decide) (fun t ht => by simp at ht; subst ht; decide)
    have hT := typQ_back hC
    obtain ⟨X, hX⟩ : ∃ X, X = tkT f t 0 ++ [(⟨0, []⟩ : Tok)] := ⟨_, rfl⟩
    rw [← hX] at hT
    have hl : preT ++ tkT f t 0 ++ [⟨0, []⟩] = ⟨6, [116, 121, 112, 101]⟩ :: ([sgT [40], ⟨3, [39, 97]⟩, sgT [44], ⟨3, [39, 98]⟩, sgT [44], ⟨3, [39, 99]⟩, sgT [44], ⟨3, [39, 100]⟩, sgT [41], ⟨1, [116]⟩, sgT [61], ⟨2, [67]⟩, ⟨6, [111, 102]⟩] ++ X) := by rw [hX]; simp [preT]
    rw [hl]
    obtain ⟨Y, hY⟩ : ∃ Y, Y = [sgT [40], ⟨3, [39, 97]⟩, sgT [44], ⟨3, [39, 98]⟩, sgT [44], ⟨3, [39, 99]⟩, sgT [44], ⟨3, [39, 100]⟩, sgT [41], ⟨1, [116]⟩, sgT [61], ⟨2, [67]⟩, ⟨6, [111, 102]⟩] ++ X := ⟨_, rfl⟩
    rw [← hY] at hT ⊢
    have hd : dclQ (S0 (⟨6, [116, 121, 112, 101]⟩ :: Y) 0) = typQ (S0 Y 0) := by
      unfold dclQ
      have hq : isQ (S0 (⟨6, [116, 121, 112, 101]⟩ :: Y) 0) [116, 121, 112, 101] = true := rfl
      rw [if_pos hq, tlQ_S0]
    have hfu : (⟨6, [116, 121, 112, 101]⟩ :: Y : List Tok).length + 2 = (Y.length + 1 + 1) + 1 := by simp
    rw [hfu]
    show celL _ [] (S0 (⟨6, [116, 121, 112, 101]⟩ :: Y) 0) = _ ∨ celL _ [] (S0 (⟨6, [116, 121, 112, 101]⟩ :: Y) 0) = _
    rw [celL_step rfl rfl (by rw [kdQ_S0]; decide), hd]
    rcases hT with h5 | h5
    · left
      have h6 : (aftQ (typQ (S0 Y 0)).2).e = 5 := (Pst.aft _).five h5
      rw [celL_err (by omega), h6]
    · right
      rw [h5]
      have h6 : aftQ (S0 [⟨0, []⟩] 0) = S0 [⟨0, []⟩] 0 := by unfold aftQ; rw [if_neg (by decide)]
      dsimp only
      rw [h6, celL_end rfl (by decide) (by decide)]
      rfl

/-! what a cell declares -/
theorem oneF_name {s : List UInt8} {t : Tok} {q : List UInt8} (h : oneF s = .ok (t, q)) : TokN t := by
  intro hk
  cases s with
  | nil => simp [oneF] at h
  | cons c r =>
    simp only [oneF] at h
    split at h
    · rename_i hc
      split at h
      · cases h
      · rename_i h24
        split at h
        · injection h with h; injection h with h1 h2; subst h1; cases hk
        · rename_i hw
          split at h
          · split at h
            · injection h with h; injection h with h1 h2; subst h1; cases hk
            · cases h
          · rename_i h39
            split at h
            · injection h with h; injection h with h1 h2; subst h1; cases hk
            · rename_i hg
              injection h with h; injection h with h1 h2; subst h1
              have hs : smB c = true := by simpa [hg, h39] using hc
              unfold nameB
              simp only [hs, all_take, Bool.true_and, Bool.and_eq_true, decide_eq_true_eq, Bool.not_eq_true']
              exact ⟨by omega, by simpa using hw⟩
    · split at h
      · split at h
        · cases h
        · split at h
          · cases h
          · injection h with h; injection h with h1 h2; subst h1; cases hk
      · split at h
        · split at h
          · cases h
          · injection h with h; injection h with h1 h2; subst h1; cases hk
        · split at h
          · cases h
          · injection h with h; injection h with h1 h2; subst h1; cases hk
theorem lexF_name : ∀ (n : Nat) (s : List UInt8) (ts : List Tok), s.length ≤ n → lexF s = .ok ts → ∀ t ∈ ts, TokN t := by
  intro n
  induction n with
  | zero =>
    intro s ts h0 h
    have : s = [] := List.eq_nil_of_length_eq_zero (by omega)
    subst this
    rw [lexF_end skipF_nil] at h
    injection h with h
    subst h
    exact fun t ht => by simp at ht; subst ht; intro hk; cases hk
  | succ n ih =>
    intro s ts h0 h
    cases hs : skipF s with
    | none => rw [lexF_none hs] at h; cases h
    | some q =>
      have hq := skipF_len s q hs
      by_cases hq0 : q = []
      · subst hq0
        rw [lexF_end hs] at h
        injection h with h
        subst h
        exact fun t ht => by simp at ht; subst ht; intro hk; cases hk
      · cases ho : oneF q with
        | error e => rw [lexF_err hs hq0 ho] at h; cases h
        | ok p =>
          obtain ⟨t, r⟩ := p
          rw [lexF_step hs hq0 ho] at h
          have hl := oneF_len ho
          cases hr : lexF r with
          | error e => rw [hr] at h; cases h
          | ok l =>
            rw [hr] at h
            injection h with h
            subst h
            intro u hu
            rcases List.mem_cons.1 hu with h3 | h3
            · rw [h3]; exact oneF_name ho
            · exact ih r l (by omega) hr u h3
/-- the types of a declaration are good -/
def GD (d : Dc) : Prop := ∀ c ∈ d.cs, c.h = true → gT d.n c.t ∧ szT c.t ≤ 4003
theorem ctr_good {vs : List (List UInt8)} : ∀ (k : Nat) (l : List Ct) (s : St), s.d = 0 → (∀ t ∈ s.ts, TokN t) → s.ts.length ≤ 2001 → (∀ c ∈ l, c.h = true → gT vs.length c.t ∧ szT c.t ≤ 4003) → (ctrL vs k l s).2.e = 0 → ∀ c ∈ (ctrL vs k l s).1, c.h = true → gT vs.length c.t ∧ szT c.t ≤ 4003
  | 0, l, s, _, _, _, hl, _ => by rw [ctrL]; exact hl
  | k + 1, l, s, hd, ht, hsz, hl, he => by
    have hs0 : s.e = 0 := by
      have hm : ∀ (k : Nat) (l : List Ct) (s : St), Pst s (ctrL vs k l s).2 := by
        intro k
        induction k with
        | zero => intro l s; rw [ctrL]; exact Pst.refl _
        | succ k ih =>
          intro l s
          by_cases he : s.e = 0
          · by_cases hc : isQ (ctQ vs l s).2 [124] = true
            · rw [ctrL_step he hc]
              exact (Mo.ct _ _ _).trans ((Pst.tl _).trans (ih _ _))
            · rw [ctrL_last he (by simpa using hc)]
              exact Mo.ct _ _ _
          · rw [ctrL_stop he]; exact Pst.refl _
      exact (hm (k + 1) l s).back he
    have hone : (ctQ vs l s).2.e = 0 → (ctQ vs l s).1.h = true → gT vs.length (ctQ vs l s).1.t ∧ szT (ctQ vs l s).1.t ≤ 4003 := by
      unfold ctQ
      dsimp only
      have hp : Pst s (newQ (l.map (·.s)) (txtQ s 2)) := (Pst.txt _ _).trans (Pst.new _ _)
      split
      · intro h1 _
        have hts : ∀ t ∈ (tlQ (newQ (l.map (·.s)) (txtQ s 2))).ts, TokN t := toks_suf ht ((suf_tl _).trans hp.suf)
        have hdd : (tlQ (newQ (l.map (·.s)) (txtQ s 2))).d = 0 := by rw [tlQ_d, hp.1, hd]
        have h3 := (gT_all vs 51).1 (tlQ (newQ (l.map (·.s)) (txtQ s 2))) (by omega) (by omega) hts h1
        have h4 := (ZB.all vs 51).1 (tlQ (newQ (l.map (·.s)) (txtQ s 2)))
        have h5 := tlQ_len (newQ (l.map (·.s)) (txtQ s 2))
        have h6 := hp.2.1
        exact ⟨h3.1, by dsimp only; omega⟩
      · intro _ h2
        cases h2
    by_cases hc : isQ (ctQ vs l s).2 [124] = true
    · rw [ctrL_step hs0 hc] at he ⊢
      have hm := Mo.ct vs l s
      refine ctr_good k _ _ (by rw [tlQ_d, hm.1, hd]) (toks_suf ht ((suf_tl _).trans hm.suf)) (by have := tlQ_len (ctQ vs l s).2; have := hm.2.1; omega) (fun c hm9 hh => ?_) he
      rcases List.mem_append.1 hm9 with h | h
      · exact hl c h hh
      · obtain rfl := List.mem_singleton.1 h
        exact hone (isQ_kind hc).1 hh
    · rw [ctrL_last hs0 (by simpa using hc)] at he ⊢
      intro c hm9 hh
      rcases List.mem_append.1 hm9 with h | h
      · exact hl c h hh
      · obtain rfl := List.mem_singleton.1 h
        exact hone he hh
theorem typ_good {s : St} (hd : s.d = 0) (ht : ∀ t ∈ s.ts, TokN t) (hsz : s.ts.length ≤ 2001) (he : (typQ s).2.e = 0) : GD (typQ s).1 := by
  unfold typQ at he ⊢
  dsimp only at he ⊢
  have h1 : ∀ (m : Bool) (k : Nat) (l : List (List UInt8)) (s : St), Pst s (varL m k l s).2 := by
    intro m k
    induction k with
    | zero => intro l s; rw [varL]; exact Pst.refl _
    | succ k ih =>
      intro l s
      by_cases he : s.e = 0
      · by_cases hc : m = true ∧ isQ (newQ l (txtQ s 3)) [44] = true
        · obtain ⟨rfl, hc⟩ := hc
          rw [varL_step he hc]
          exact (Pst.txt _ _).trans ((Pst.new _ _).trans ((Pst.tl _).trans (ih _ _)))
        · rw [varL_last he (by cases m with | false => exact .inl rfl | true => exact .inr (by simpa using hc))]
          exact (Pst.txt _ _).trans (Pst.new _ _)
      · rw [varL_stop he]; exact Pst.refl _
  obtain ⟨v, hv⟩ : ∃ v : List (List UInt8) × St, v = if isQ s [40] = true ∨ kdQ (takQ s [40]) 3 = true then
      ((varL (isQ s [40]) ((takQ s [40]).ts.length + 2) [] (takQ s [40])).1, if isQ s [40] = true then musQ (varL (isQ s [40]) ((takQ s [40]).ts.length + 2) [] (takQ s [40])).2 [41] else (varL (isQ s [40]) ((takQ s [40]).ts.length + 2) [] (takQ s [40])).2)
    else ([], takQ s [40]) := ⟨_, rfl⟩
  have hP : Pst s v.2 := by
    rw [hv]
    refine (Pst.tak s [40]).trans ?_
    split
    · dsimp only
      split
      · exact (h1 _ _ _ _).trans (Pst.mus _ _)
      · exact h1 _ _ _ _
    · exact Pst.refl _
  rw [← hv] at he ⊢
  have hP2 : Pst s (takQ (musQ (txtQ v.2 1).2 [61]) [124]) := hP.trans ((Pst.txt _ _).trans ((Pst.mus _ _).trans (Pst.tak _ _)))
  exact ctr_good _ _ _ (by rw [hP2.1, hd]) (toks_suf ht hP2.suf) (by have := hP2.2.1; omega) (fun c h => by simp at h) he
theorem dcl_good {s : St} (hd : s.d = 0) (ht : ∀ t ∈ s.ts, TokN t) (hsz : s.ts.length ≤ 2001) (he : (dclQ s).2.e = 0) : GD (dclQ s).1 := by
  unfold dclQ at he ⊢
  generalize (eq9 51).expr = ex at he ⊢
  by_cases c1 : isQ s [116, 121, 112, 101] = true
  · rw [if_pos c1] at he ⊢
    exact typ_good hd (toks_suf ht (suf_tl s)) (by have := tlQ_len s; omega) he
  rw [if_neg c1] at he ⊢
  by_cases c2 : isQ s [108, 101, 116] = true
  · rw [if_pos c2] at he ⊢
    dsimp only at he ⊢
    split at he
    · rename_i h1
      rw [if_pos h1]
      split at he
      · rename_i h2; rw [if_pos h2]; exact fun c h => by simp at h
      · rename_i h2; rw [if_neg h2]; exact fun c h => by simp at h
    · rename_i h1; rw [if_neg h1]; exact fun c h => by simp [Dc.z] at h
  rw [if_neg c2]
  exact fun c h => by simp at h
theorem celL_good : ∀ (k : Nat) (l : List Dc) (s : St) (r : List Dc), s.d = 0 → (∀ t ∈ s.ts, TokN t) → s.ts.length ≤ 2001 → (∀ d ∈ l, GD d) → celL k l s = .ok r → ∀ d ∈ r, GD d
  | 0, l, s, r, _, _, _, _, h => by rw [celL] at h; cases h
  | k + 1, l, s, r, hd, ht, hsz, hl, h => by
    by_cases he : s.e = 0
    · by_cases c1 : isQ s [59, 59] = true
      · rw [celL_skip he c1] at h
        exact celL_good k l (tlQ s) r (by rw [tlQ_d, hd]) (toks_suf ht (suf_tl s)) (by have := tlQ_len s; omega) hl h
      · by_cases c2 : kdQ s 0 = true
        · rw [celL_end he (by simpa using c1) c2] at h
          injection h with h
          subst h
          exact hl
        · rw [celL_step he (by simpa using c1) (by simpa using c2)] at h
          have hp := Pst.dcl s
          have ha := Pst.aft (dclQ s).2
          refine celL_good k _ _ r (by rw [ha.1, hp.1, hd]) (toks_suf ht (ha.suf.trans hp.suf)) (by have := ha.2.1; have := hp.2.1; omega) (fun d hm => ?_) h
          rcases List.mem_append.1 hm with h9 | h9
          · exact hl d h9
          · obtain rfl := List.mem_singleton.1 h9
            rcases Nat.eq_zero_or_pos (dclQ s).2.e with h0 | h0
            · exact dcl_good hd ht hsz h0
            · exfalso
              have h1 : (aftQ (dclQ s).2).e ≠ 0 := by rw [ha.2.2.1 (by omega)]; omega
              rw [celL_err h1] at h
              cases h
    · rw [celL_err he] at h; cases h
theorem cel_good {s : List UInt8} {l : List Dc} (h : celF s = .ok l) : ∀ d ∈ l, GD d := by
  have hcf : celF s = match tokF s with | .error e => .error e | .ok ts => celL (ts.length + 2) [] ⟨ts, 0, 0⟩ := rfl
  rw [hcf] at h
  cases ht : tokF s with
  | error e => rw [ht] at h; cases h
  | ok ts =>
    rw [ht] at h
    have hn : ∀ t ∈ ts, TokN t := by
      unfold tokF at ht
      split at ht
      · cases ht
      · exact lexF_name _ s ts (Nat.le_refl _) ht
    have hl : ts.length ≤ 2001 := by
      unfold tokF at ht
      split at ht
      · cases ht
      · rename_i h9
        have : ∀ (n : Nat) (s : List UInt8) (ts : List Tok), s.length ≤ n → lexF s = .ok ts → ts.length ≤ s.length + 1 := by
          intro n
          induction n with
          | zero =>
            intro s ts h0 h
            have : s = [] := List.eq_nil_of_length_eq_zero (by omega)
            subst this
            rw [lexF_end skipF_nil] at h
            injection h with h
            subst h
            simp
          | succ n ih =>
            intro s ts h0 h
            cases hs : skipF s with
            | none => rw [lexF_none hs] at h; cases h
            | some q =>
              have hq := skipF_len s q hs
              by_cases hq0 : q = []
              · subst hq0
                rw [lexF_end hs] at h
                injection h with h
                subst h
                simp
              · cases ho : oneF q with
                | error e => rw [lexF_err hs hq0 ho] at h; cases h
                | ok p =>
                  obtain ⟨t, r⟩ := p
                  rw [lexF_step hs hq0 ho] at h
                  have hl := oneF_len ho
                  cases hr : lexF r with
                  | error e => rw [hr] at h; cases h
                  | ok l =>
                    rw [hr] at h
                    injection h with h
                    subst h
                    have := ih r l (by omega) hr
                    simp only [List.length_cons]
                    omega
        have := this _ s ts (Nat.le_refl _) ht
        omega
    exact celL_good _ _ _ _ rfl hn hl (fun d hd => by simp at hd) h
mutual
theorem gT_mono {N M : Nat} (h : N ≤ M) : ∀ t : Tr, gT N t → gT M t
  | .mk n v ks, ht => by
    rw [gT] at ht ⊢
    refine ⟨?_, gTs_mono h ks ht.2⟩
    rcases ht.1 with h1 | h1
    · exact .inl ⟨h1.1, h1.2.1, h1.2.2.1, by omega⟩
    · exact .inr h1
theorem gTs_mono {N M : Nat} (h : N ≤ M) : ∀ l : List Tr, gTs N l → gTs M l
  | [], _ => by rw [gTs]; trivial
  | t :: r, ht => by rw [gTs] at ht ⊢; exact ⟨gT_mono h t ht.1, gTs_mono h r ht.2⟩
end
end Go.Proofs.YtomkdhkkggbioaaGreatDoor

/-
  The reference's numbers in digits; its names of variables.
-/
namespace Go.Proofs.YtomkdhkkggbioaaGreatDoor
open Go
set_option linter.unusedSimpArgs false
set_option linter.unusedVariables false

end Go.Proofs.YtomkdhkkggbioaaGreatDoor

/-
  print: expressions joined; names, numbers, calls and operations as texts.
-/
namespace Go.Proofs.YtomkdhkkggbioaaGreatDoor
open Go
set_option linter.unusedSimpArgs false
set_option linter.unusedVariables false

/-- an expression prints so, as long as nothing is written over -/
def EP (W : World) (x : List Value) (s : List UInt8) : Prop := ∀ w', Upd No W w' → Ret Tryz.prog 28 #[.agg x.toArray] w' fun u w'' => u = Sv s ∧ Upd No w' w''
theorem EP.upd {W w' : World} {x : List Value} {s : List UInt8} (h : EP W x s) (hu : Upd No W w') : EP w' x s := fun w2 h2 => h w2 (hu.trans_same h2)
def one6 (x : List Value) : Prop := x.length = 6 ∧ x.all Value.oneCell' = true
theorem len6e {x : List Value} (h : x.length = 6) : ∃ a b c d e f, x = [a, b, c, d, e, f] := by
  match x, h with
  | [a, b, c, d, e, f], _ => exact ⟨a, b, c, d, e, f, rfl⟩
theorem flat6_get : ∀ {X : List (List Value)} {i j : Nat} {x : List Value} {u : Value}, (∀ x ∈ X, x.length = 6) → X[i]? = some x → x[j]? = some u → (X.flatMap id)[i * 6 + j]? = some u
  | [], _, _, _, _, _, h, _ => by simp at h
  | a :: l, 0, j, b, u, hl, h, hu => by
    simp only [List.getElem?_cons_zero, Option.some.injEq] at h
    subst h
    have hj : j < a.length := (List.getElem?_eq_some_iff.1 hu).1
    rw [List.flatMap_cons, Nat.zero_mul, Nat.zero_add, id, List.getElem?_append_left hj]
    exact hu
  | a :: l, i + 1, j, b, u, hl, h, hu => by
    have h8 := hl a (by simp)
    rw [List.flatMap_cons, id, List.getElem?_append_right (by omega), h8, show (i + 1) * 6 + j - 6 = i * 6 + j by omega]
    exact flat6_get (fun x hx => hl x (by simp [hx])) (i := i) (by simpa using h) hu

set_option maxHeartbeats 2000000 in
theorem joinE_ok {w : World} {F : Nat → Prop} {kv : Value} {X : List (List Value)} {S : List (List UInt8)} {sep : List UInt8} (hr : Rd w F kv X.length 6 (X.flatMap id)) (hX : ∀ x ∈ X, one6 x) (hS : S.length = X.length) (hE : ∀ (i : Nat) x s, X[i]? = some x → S[i]? = some s → EP w x s) (hlen : (Lib.join S sep).length ≤ 140737488355328) (hn : X.length ≤ 1000000) :
    Ret Tryz.prog 50 #[kv, .func (.func 28) #[] #[], Sv sep] w fun u w' => u = Sv (Lib.join S sep) ∧ Upd No w w' := by
  obtain ⟨A, c, rfl, hc⟩ := hr.slice_form
  refine enterRet (vs := [_, _, _]) (N := 26) Tryz.func50 rfl rfl rfl ?_
  have hU := Upd.refl No w
  refine WC.keep [(0, _), (1, _), (2, _)] ⟨rfl, rfl, rfl, trivial⟩ (WC.seq (WC.region (WL.val rfl rfl rfl rfl (r_assign rfl ev_c) ?_)))
  refine WL.nil (WX.keep [(0, _), (1, _), (2, _)] ⟨rfl, rfl, rfl, trivial⟩ (WX.next (WC.seq (WC.region (WL.val rfl rfl rfl rfl (r_assign rfl ev_c) ?_)))))
  refine WL.nil (WX.keep [(0, _), (1, _), (2, _), (7, _)] ⟨rfl, rfl, rfl, rfl, trivial⟩ (WX.next (WC.seq (WC.seq (WC.region (WL.val rfl rfl rfl rfl (r_move rfl (ev_t rfl)) ?_))))))
  refine WL.val rfl rfl rfl rfl (r_lenSlice (ts := #[]) rfl (ev_t rfl) elem_34) ?_
  refine WL.val rfl rfl rfl rfl (r_move rfl ev_c) ?_
  refine WL.nil (WX.keep [(1, _), (2, _), (7, _), (10, _), (11, _), (12, _)] ⟨rfl, rfl, rfl, rfl, rfl, rfl, trivial⟩ (WX.next (WC.block ?_)))
  -- loop 1: live [1, 2, 7, 10, 11, 12]
  refine WC.keep [(1, _), (2, _), (7, _), (10, _), (11, _), (12, _)] ⟨rfl, rfl, rfl, rfl, rfl, rfl, trivial⟩ (WC.loop (fun qq E wC => ∃ (j : Nat) (v1 : Value) (G : Nat → Prop), j ≤ X.length ∧ qq = X.length - j ∧ Upd No w wC ∧ Own wC G 9 1 v1 j ((S.take j).map Sv) ∧ (∀ k, G k → w.heap.size ≤ k ∧ k < wC.heap.size) ∧ E = [(1, .func (.func 28) #[] #[]), (2, Sv sep), (7, v1), (10, .slice A X.length c), (11, .int .i64 (X.length : Int)), (12, .int .i64 (j : Int))]) (X.length) ?_ ?_)
  · exact ⟨0, .slice none 0 0, fun _ => False, by omega, by omega, hU, Own.nil _ _ _ _, fun k h => h.elim, rfl⟩
  · clear hU
    rintro qq E wC ⟨j, v1, G, hj, rfl, hU, ho, hG, rfl⟩
    obtain ⟨Ao, co, rfl, hco⟩ := Own.form ho
    have hUs := hU.size
    refine WC.seq (WC.region (WL.val rfl rfl rfl rfl (r_lss rfl (ev_t rfl) (ev_t rfl)) ?_))
    refine WL.nil (WX.keep [(1, _), (2, _), (7, _), (10, _), (11, _), (12, _), (13, _)] ⟨rfl, rfl, rfl, rfl, rfl, rfl, rfl, trivial⟩ (WX.next (WC.seq (WC.cond rfl (ev_t rfl) (fun hc3 => ?_) (fun hc3 => ?_)))))
    · try simp only [cS, ne_eq, Decidable.not_not] at hc3
      have hjl : j < X.length := by omega
      have hgj : X[j]? = some X[j] := List.getElem?_eq_getElem hjl
      have hmj := hX X[j] (List.getElem_mem hjl)
      have hgs : S[j]? = some (S[j]'(by omega)) := List.getElem?_eq_getElem (by omega)
      have hEj := hE j _ _ hgj hgs
      generalize X[j] = x at hgj hmj hEj
      generalize S[j]'(by omega) = s at hgs hEj
      obtain ⟨x0, x1, x2, x3, x4, x5, rfl⟩ := len6e hmj.1
      obtain ⟨b0, off, rfl, _⟩ := hr.open (by omega)
      refine WC.skip (WX.next (WC.seq (WC.block (WC.seq (WC.region (WL.val rfl rfl rfl rfl (r_indexAddr rfl (ev_t rfl) (ev_t rfl) elem_34 size_36 (by omega) (by omega)) ?_))))))
      refine WL.val rfl rfl rfl rfl (r_loadAgg (vs := [_, _, _, _, _, _]) rfl (ev_t rfl) agg_36 size_36 (Rd.cellsL (us := [x0, x1, x2, x3, x4, x5]) (hr.upd hU (fun _ _ _ h => h)) (i := j * 6) (by omega) (fun q v hv => flat6_get (fun x hx => (hX x hx).1) hgj hv))) ?_
      refine WL.cons (SO.alloc rfl rfl rfl rfl (r_alloc rfl zero_36) ?_)
      intro w1 hu1 hB1 hz1
      have hs1 := hu1.size
      replace hU := hU.trans hu1 (by exact (fun _ _ h => h))
      replace ho := ho.upd hu1 (by exact (fun _ _ _ h => h))
      refine WL.cons (SO.storeAll (us := [x0, x1, x2, x3, x4, x5]) rfl (ev_t rfl) (ev_t rfl) size_36 hB1 rfl hmj.2 rfl rfl rfl ?_)
      intro w2 hu2 hxB hz9
      have hs2 := hu2.size
      replace hU := hU.trans hu2 (by (intro k hl hk; (try simp only [At, New, Grow, From, No] at hk ⊢); omega))
      replace ho := ho.upd hu2 (by (intro k hk hl hS; simp only [At] at hS; have := hG k hk; omega))
      refine WL.nil (WX.keep [(1, _), (2, _), (7, _), (9, _), (10, _), (11, _), (12, _)] ⟨rfl, rfl, rfl, rfl, rfl, rfl, rfl, trivial⟩ (WX.next (WC.region (WL.val rfl rfl rfl rfl (r_move rfl (ev_t rfl)) ?_))))
      refine WL.val rfl rfl rfl rfl (r_move rfl (ev_t rfl)) ?_
      refine WL.val rfl rfl rfl rfl (r_loadAgg (vs := [_, _, _, _, _, _]) rfl (ev_t rfl) agg_36 size_36 (Blk.cellsL hxB)) ?_
      refine WL.cons (SO.callV (vs := [_]) rfl (ev_t rfl) body_28 ⟨(ev_t rfl), trivial⟩ rfl (hEj _ hU) rfl rfl rfl rfl ?_)
      rintro v9 w3 ⟨rfl, hu3⟩
      have hs3 := hu3.size
      replace hU := hU.trans hu3 (by exact (fun _ _ h => h))
      replace ho := ho.upd hu3 (by exact (fun _ _ _ h => h))
      replace hxB := hxB.upd hu3 (by exact (fun h => h))
      refine WL.cons (SO.alloc rfl rfl rfl rfl (r_buildSlice1 (vs := [_]) rfl ⟨(ev_t rfl), trivial⟩ rfl row_66 rfl rfl) ?_)
      intro w4 hu4 hB4 hz4
      have hs4 := hu4.size
      replace hU := hU.trans hu4 (by exact (fun _ _ h => h))
      replace ho := ho.upd hu4 (by exact (fun _ _ _ h => h))
      replace hxB := hxB.upd hu4 (by exact (fun h => h))
      refine WL.cons (SO.append ho (Rd.of_blk (F := At _) (n := 1) (sz := 1) hB4 rfl rfl (by omega)) row_66 (by intro u hu; simp at hu; subst hu; rfl) (le_maxLen (by omega)) (by omega) rfl (ev_t rfl) (ev_t rfl) rfl rfl rfl rfl ?_)
      intro v5 w5 ho hu5
      have hs5 := hu5.size
      replace hU := hU.trans hu5 (by (intro k hl hk; first | exact hk.elim | (simp only [At] at hk; omega) | (have := hG k hk; omega)))
      replace hxB := hxB.upd hu5 (by (intro h; have := hG _ h; omega))
      obtain ⟨A5, c5, rfl, hc5⟩ := Own.form ho
      have hs9 := hu5.size
      have hG2 : ∀ k, Grow G w4 w5 k → w.heap.size ≤ k ∧ k < w5.heap.size := fun k hk => by
        rcases hk with h | h
        · have := hG k h; omega
        · omega
      generalize Grow G w4 w5 = G4 at ho hG2
      refine WL.val rfl rfl rfl rfl (r_assign rfl (ev_t rfl)) ?_
      refine WL.nil (WX.keep [(1, _), (2, _), (7, _), (10, _), (11, _), (12, _)] ⟨rfl, rfl, rfl, rfl, rfl, rfl, trivial⟩ (WX.blockNormal (WX.next (WC.region (WL.val rfl rfl rfl rfl (r_addN rfl (ev_t rfl) ev_c (by simp only [inK]; omega)) ?_)))))
      refine WL.val rfl rfl rfl rfl (r_move rfl (ev_t rfl)) ?_
      refine WL.nil (WX.keep [(1, _), (2, _), (7, _), (10, _), (11, _), (12, _)] ⟨rfl, rfl, rfl, rfl, rfl, rfl, trivial⟩ (WX.meet [(1, _), (2, _), (7, _), (10, _), (11, _), (12, _)] ⟨rfl, rfl, rfl, rfl, rfl, rfl, trivial⟩ ?_))
      exact ⟨X.length - (j + 1), by omega, j + 1, _, G4, by omega, rfl, hU, by rw [List.take_add_one, hgs, List.map_append]; exact ho, hG2, rfl⟩
    · try simp only [cS, ne_eq, Decidable.not_not] at hc3
      obtain rfl : j = X.length := by omega
      rw [List.take_of_length_le (by omega)] at ho
      rw [← hS] at ho ⊢
      refine WC.exit (WX.thenExit (WX.thenExit (WX.blockHere (WX.next (WC.seq (WC.region (WL.val rfl rfl rfl rfl (r_move rfl (ev_t rfl)) ?_)))))))
      refine WL.val rfl rfl rfl rfl (r_move rfl (ev_t rfl)) ?_
      refine WL.cons (SO.call (sjoin_ok (ho.rd (by omega)) hlen) rfl body_40 ⟨(ev_t rfl), (ev_t rfl), trivial⟩ rfl rfl rfl rfl ?_)
      rintro v9 w6 ⟨rfl, hu6⟩
      have hs6 := hu6.size
      replace hU := hU.trans hu6 (by exact (fun _ _ h => h))
      replace ho := ho.upd hu6 (by exact (fun _ _ _ h => h))
      refine WL.val rfl rfl rfl rfl (r_assign rfl (ev_t rfl)) ?_
      refine WL.nil (WX.keep [(6, _)] ⟨rfl, trivial⟩ (WX.next (WC.ret (WX.retE1 rfl rfl ?_))))
      exact ⟨rfl, hU⟩
end Go.Proofs.YtomkdhkkggbioaaGreatDoor

/-
 print.Expr: names, numbers, calls and operations.
-/
namespace Go.Proofs.YtomkdhkkggbioaaGreatDoor
open Go
set_option linter.unusedSimpArgs false
set_option linter.unusedVariables false

theorem EP.var {W : World} {t : List UInt8} {a2 a3 a4 a5 : Value} : EP W [.int .u8 5, Sv t, a2, a3, a4, a5] t := by
 intro w hw
 refine enterRet (vs := [_]) (N := 63) Tryz.func28 rfl rfl rfl ?_
 have hU := Upd.refl No w
 refine WC.keep [(0, _)] ⟨rfl, trivial⟩ (WC.seq (WC.region (WL.cons (SO.alloc rfl rfl rfl rfl (r_boxAgg rfl (ev_t rfl)) ?_))))
 intro w1 hu1 hB1 hz1
 have hs1 := hu1.size
 replace hU := hU.transA hu1
 refine WL.val rfl rfl rfl rfl (r_assign rfl ev_c) ?_
 refine WL.nil (WX.keep [(1, _)] ⟨rfl, trivial⟩ ?_)
 have h1 := hB1
 change Blk _ _ #[.int .u8 5, Sv t, a2, a3, a4, a5] _ at h1
 refine WX.next (WC.seq (WC.seq (WC.region (WL.val rfl rfl rfl rfl (r_field0 rfl (ev_t rfl) fld_36_0) ?_))))
 refine WL.val rfl rfl rfl rfl (r_load rfl (ev_t rfl) flat_5 (Blk.cell h1 rfl)) ?_
 refine WL.nil (WX.keep [(1, _), (4, _)] ⟨rfl, rfl, trivial⟩ (WX.next (WC.block (WC.seq (WC.region (WL.val rfl rfl rfl rfl (r_eql rfl (ev_t rfl) ev_c) ?_))))))
 refine WL.val rfl rfl rfl rfl (r_assign rfl (ev_t rfl)) ?_
 refine WL.nil (WX.keep [(1, _), (4, _), (5, _)] ⟨rfl, rfl, rfl, trivial⟩ (WX.next (WC.cond rfl (ev_t rfl) (fun hc2 => ?_) (fun hc2 => ?_))))
 ·exfalso; (simp at hc2; done)
 ·try simp only [cS, ne_eq, Decidable.not_not] at hc2
  refine WC.seq (WC.region (WL.val rfl rfl rfl rfl (r_eql rfl (ev_t rfl) ev_c) ?_))
  refine WL.val rfl rfl rfl rfl (r_assign rfl (ev_t rfl)) ?_
  refine WL.nil (WX.keep [(1, _), (4, _), (10, _)] ⟨rfl, rfl, rfl, trivial⟩ (WX.next (WC.cond rfl (ev_t rfl) (fun hc4 => ?_) (fun hc4 => ?_))))
  ·exfalso; (simp at hc4; done)
  ·try simp only [cS, ne_eq, Decidable.not_not] at hc4
   refine WC.seq (WC.region (WL.val rfl rfl rfl rfl (r_eql rfl (ev_t rfl) ev_c) ?_))
   refine WL.val rfl rfl rfl rfl (r_assign rfl (ev_t rfl)) ?_
   refine WL.nil (WX.keep [(1, _), (4, _), (15, _)] ⟨rfl, rfl, rfl, trivial⟩ (WX.next (WC.cond rfl (ev_t rfl) (fun hc6 => ?_) (fun hc6 => ?_))))
   ·exfalso; (simp at hc6; done)
   ·try simp only [cS, ne_eq, Decidable.not_not] at hc6
    refine WC.seq (WC.region (WL.val rfl rfl rfl rfl (r_eql rfl (ev_t rfl) ev_c) ?_))
    refine WL.val rfl rfl rfl rfl (r_assign rfl (ev_t rfl)) ?_
    refine WL.nil (WX.keep [(1, _), (4, _), (21, _)] ⟨rfl, rfl, rfl, trivial⟩ (WX.next (WC.cond rfl (ev_t rfl) (fun hc8 => ?_) (fun hc8 => ?_))))
    ·exfalso; (simp at hc8; done)
    ·try simp only [cS, ne_eq, Decidable.not_not] at hc8
     refine WC.seq (WC.region (WL.val rfl rfl rfl rfl (r_eql rfl (ev_t rfl) ev_c) ?_))
     refine WL.val rfl rfl rfl rfl (r_assign rfl (ev_t rfl)) ?_
     refine WL.nil (WX.keep [(1, _), (4, _), (23, _)] ⟨rfl, rfl, rfl, trivial⟩ (WX.next (WC.cond rfl (ev_t rfl) (fun hc10 => ?_) (fun hc10 => ?_))))
     ·try simp only [cS, ne_eq, Decidable.not_not] at hc10
      refine WC.seq (WC.region (WL.val rfl rfl rfl rfl (r_field0 rfl (ev_t rfl) fld_36_1) ?_))
      refine WL.val rfl rfl rfl rfl (r_load rfl (ev_t rfl) flat_9 (Blk.cell h1 rfl)) ?_
      refine WL.val rfl rfl rfl rfl (r_assign rfl (ev_t rfl)) ?_
      refine WL.nil (WX.keep [(2, _)] ⟨rfl, trivial⟩ (WX.next (WC.ret (WX.blockRet (WX.thenRet (WX.retE1 rfl rfl ?_))))))
      exact ⟨rfl, hU⟩
     ·exfalso; (simp at hc10; done)
theorem EP.int {W : World} {n : Int} {a1 a3 a4 a5 : Value} (hn : inK .i64 n) (hP : Pow10 W) : EP W [.int .u8 1, a1, .int .i64 n, a3, a4, a5] (Lib.itoa n) := by
 intro w hw
 refine enterRet (vs := [_]) (N := 63) Tryz.func28 rfl rfl rfl ?_
 have hU := Upd.refl No w
 refine WC.keep [(0, _)] ⟨rfl, trivial⟩ (WC.seq (WC.region (WL.cons (SO.alloc rfl rfl rfl rfl (r_boxAgg rfl (ev_t rfl)) ?_))))
 intro w1 hu1 hB1 hz1
 have hs1 := hu1.size
 replace hU := hU.transA hu1
 refine WL.val rfl rfl rfl rfl (r_assign rfl ev_c) ?_
 refine WL.nil (WX.keep [(1, _)] ⟨rfl, trivial⟩ ?_)
 have h1 := hB1
 change Blk _ _ #[.int .u8 1, a1, .int .i64 n, a3, a4, a5] _ at h1
 refine WX.next (WC.seq (WC.seq (WC.region (WL.val rfl rfl rfl rfl (r_field0 rfl (ev_t rfl) fld_36_0) ?_))))
 refine WL.val rfl rfl rfl rfl (r_load rfl (ev_t rfl) flat_5 (Blk.cell h1 rfl)) ?_
 refine WL.nil (WX.keep [(1, _), (4, _)] ⟨rfl, rfl, trivial⟩ (WX.next (WC.block (WC.seq (WC.region (WL.val rfl rfl rfl rfl (r_eql rfl (ev_t rfl) ev_c) ?_))))))
 refine WL.val rfl rfl rfl rfl (r_assign rfl (ev_t rfl)) ?_
 refine WL.nil (WX.keep [(1, _), (4, _), (5, _)] ⟨rfl, rfl, rfl, trivial⟩ (WX.next (WC.cond rfl (ev_t rfl) (fun hc2 => ?_) (fun hc2 => ?_))))
 ·try simp only [cS, ne_eq, Decidable.not_not] at hc2
  refine WC.seq (WC.region (WL.val rfl rfl rfl rfl (r_field0 rfl (ev_t rfl) fld_36_2) ?_))
  refine WL.val rfl rfl rfl rfl (r_load rfl (ev_t rfl) flat_2 (Blk.cell h1 rfl)) ?_
  refine WL.cons (SO.call (formatInt_ok hn ((hP.upd hw (fun k _ h => h)).upd hU (fun k _ h => h))) rfl body_48 ⟨(ev_t rfl), ev_c, trivial⟩ rfl rfl rfl rfl ?_)
  rintro v9 w2 ⟨rfl, hu2⟩
  have hs2 := hu2.size
  replace hU := hU.transA hu2
  replace h1 := h1.upd hu2 (fun h => h)
  refine WL.val rfl rfl rfl rfl (r_assign rfl (ev_t rfl)) ?_
  refine WL.nil (WX.keep [(2, _)] ⟨rfl, trivial⟩ (WX.next (WC.ret (WX.blockRet (WX.thenRet (WX.retE1 rfl rfl ?_))))))
  exact ⟨rfl, hU⟩
 ·exfalso; (simp at hc2; done)
/-- an expression that has parts prints so, without brackets -/
def WP (W : World) (x : List Value) (s : List UInt8) : Prop := ∀ w', Upd No W w' → Ret Tryz.prog 51 #[.agg x.toArray] w' fun u w'' => u = Sv s ∧ Upd No w' w''
theorem EP.wide {W : World} {K : Int} {a1 a2 a3 a4 a5 : Value} {s : List UInt8} (hK : K = 11 ∨ K = 17) (h : WP W [.int .u8 K, a1, a2, a3, a4, a5] s) (hs : s.length ≤ 1000000) : EP W [.int .u8 K, a1, a2, a3, a4, a5] ([40] ++ s ++ [41]) := by
 intro w hw
 refine enterRet (vs := [_]) (N := 63) Tryz.func28 rfl rfl rfl ?_
 have hU := Upd.refl No w
 refine WC.keep [(0, _)] ⟨rfl, trivial⟩ (WC.seq (WC.region (WL.cons (SO.alloc rfl rfl rfl rfl (r_boxAgg rfl (ev_t rfl)) ?_))))
 intro w1 hu1 hB1 hz1
 have hs1 := hu1.size
 replace hU := hU.transA hu1
 refine WL.val rfl rfl rfl rfl (r_assign rfl ev_c) ?_
 refine WL.nil (WX.keep [(1, _)] ⟨rfl, trivial⟩ ?_)
 have h1 := hB1
 change Blk _ _ #[.int .u8 K, a1, a2, a3, a4, a5] _ at h1
 refine WX.next (WC.seq (WC.seq (WC.region (WL.val rfl rfl rfl rfl (r_field0 rfl (ev_t rfl) fld_36_0) ?_))))
 refine WL.val rfl rfl rfl rfl (r_load rfl (ev_t rfl) flat_5 (Blk.cell h1 rfl)) ?_
 refine WL.nil (WX.keep [(1, _), (4, _)] ⟨rfl, rfl, trivial⟩ (WX.next (WC.block (WC.seq (WC.region (WL.val rfl rfl rfl rfl (r_eql rfl (ev_t rfl) ev_c) ?_))))))
 refine WL.val rfl rfl rfl rfl (r_assign rfl (ev_t rfl)) ?_
 refine WL.nil (WX.keep [(1, _), (4, _), (5, _)] ⟨rfl, rfl, rfl, trivial⟩ (WX.next (WC.cond rfl (ev_t rfl) (fun hc2 => ?_) (fun hc2 => ?_))))
 ·exfalso; (simp only [cS] at hc2; omega)
 ·try simp only [cS, ne_eq, Decidable.not_not] at hc2
  refine WC.seq (WC.region (WL.val rfl rfl rfl rfl (r_eql rfl (ev_t rfl) ev_c) ?_))
  refine WL.val rfl rfl rfl rfl (r_assign rfl (ev_t rfl)) ?_
  refine WL.nil (WX.keep [(1, _), (4, _), (10, _)] ⟨rfl, rfl, rfl, trivial⟩ (WX.next (WC.cond rfl (ev_t rfl) (fun hc4 => ?_) (fun hc4 => ?_))))
  ·exfalso; (simp only [cS] at hc4; omega)
  ·try simp only [cS, ne_eq, Decidable.not_not] at hc4
   refine WC.seq (WC.region (WL.val rfl rfl rfl rfl (r_eql rfl (ev_t rfl) ev_c) ?_))
   refine WL.val rfl rfl rfl rfl (r_assign rfl (ev_t rfl)) ?_
   refine WL.nil (WX.keep [(1, _), (4, _), (15, _)] ⟨rfl, rfl, rfl, trivial⟩ (WX.next (WC.cond rfl (ev_t rfl) (fun hc6 => ?_) (fun hc6 => ?_))))
   ·exfalso; (simp only [cS] at hc6; omega)
   ·try simp only [cS, ne_eq, Decidable.not_not] at hc6
    refine WC.seq (WC.region (WL.val rfl rfl rfl rfl (r_eql rfl (ev_t rfl) ev_c) ?_))
    refine WL.val rfl rfl rfl rfl (r_assign rfl (ev_t rfl)) ?_
    refine WL.nil (WX.keep [(1, _), (4, _), (21, _)] ⟨rfl, rfl, rfl, trivial⟩ (WX.next (WC.cond rfl (ev_t rfl) (fun hc8 => ?_) (fun hc8 => ?_))))
    ·exfalso; (simp only [cS] at hc8; omega)
    ·try simp only [cS, ne_eq, Decidable.not_not] at hc8
     refine WC.seq (WC.region (WL.val rfl rfl rfl rfl (r_eql rfl (ev_t rfl) ev_c) ?_))
     refine WL.val rfl rfl rfl rfl (r_assign rfl (ev_t rfl)) ?_
     refine WL.nil (WX.keep [(1, _), (4, _), (23, _)] ⟨rfl, rfl, rfl, trivial⟩ (WX.next (WC.cond rfl (ev_t rfl) (fun hc10 => ?_) (fun hc10 => ?_))))
     ·exfalso; (simp only [cS] at hc10; omega)
     ·try simp only [cS, ne_eq, Decidable.not_not] at hc10
      refine WC.seq (WC.region (WL.val rfl rfl rfl rfl (r_eql rfl (ev_t rfl) ev_c) ?_))
      refine WL.val rfl rfl rfl rfl (r_assign rfl (ev_t rfl)) ?_
      refine WL.nil (WX.keep [(1, _), (4, _), (27, _)] ⟨rfl, rfl, rfl, trivial⟩ (WX.next (WC.cond rfl (ev_t rfl) (fun hc12 => ?_) (fun hc12 => ?_))))
      ·exfalso; (simp only [cS] at hc12; omega)
      ·try simp only [cS, ne_eq, Decidable.not_not] at hc12
       refine WC.seq (WC.region (WL.val rfl rfl rfl rfl (r_eql rfl (ev_t rfl) ev_c) ?_))
       refine WL.val rfl rfl rfl rfl (r_assign rfl (ev_t rfl)) ?_
       refine WL.nil (WX.keep [(1, _), (4, _), (44, _)] ⟨rfl, rfl, rfl, trivial⟩ (WX.next (WC.cond rfl (ev_t rfl) (fun hc16 => ?_) (fun hc16 => ?_))))
       ·exfalso; (simp only [cS] at hc16; omega)
       ·try simp only [cS, ne_eq, Decidable.not_not] at hc16
        refine WC.seq (WC.region (WL.val rfl rfl rfl rfl (r_eql rfl (ev_t rfl) ev_c) ?_))
        refine WL.val rfl rfl rfl rfl (r_assign rfl (ev_t rfl)) ?_
        refine WL.nil (WX.keep [(1, _), (4, _), (51, _)] ⟨rfl, rfl, rfl, trivial⟩ (WX.next (WC.cond rfl (ev_t rfl) (fun hc18 => ?_) (fun hc18 => ?_))))
        ·exfalso; (simp only [cS] at hc18; omega)
        ·try simp only [cS, ne_eq, Decidable.not_not] at hc18
         refine WC.seq (WC.region (WL.val rfl rfl rfl rfl (r_eql rfl (ev_t rfl) ev_c) ?_))
         refine WL.val rfl rfl rfl rfl (r_assign rfl (ev_t rfl)) ?_
         refine WL.nil (WX.keep [(1, _), (53, _)] ⟨rfl, rfl, trivial⟩ (WX.next (WC.cond rfl (ev_t rfl) (fun hc20 => ?_) (fun hc20 => ?_))))
         ·exfalso; (simp only [cS] at hc20; omega)
         ·try simp only [cS, ne_eq, Decidable.not_not] at hc20
          refine WC.skip (WX.blockNormal (WX.next (WC.seq (WC.region (WL.val rfl rfl rfl rfl (r_loadAgg (vs := [_, _, _, _, _, _]) rfl (ev_t rfl) agg_36 size_36 (Blk.cellsL h1)) ?_)))))
          refine WL.cons (SO.call (h _ (hw.trans_same hU)) rfl body_51 ⟨(ev_t rfl), trivial⟩ rfl rfl rfl rfl ?_)
          rintro v9 w2 ⟨rfl, hu2⟩
          have hs2 := hu2.size
          replace hU := hU.transA hu2
          replace h1 := h1.upd hu2 (fun h => h)
          refine WL.val rfl rfl rfl rfl (r_addStrL (s := [40]) (s' := s) rfl ev_c (ev_t rfl) (by simp only [List.length_cons, List.length_nil]; omega)) ?_
          refine WL.val rfl rfl rfl rfl (r_addStrL (s := [40] ++ s) (s' := [41]) rfl (ev_t rfl) ev_c (by simp only [List.length_append, List.length_cons, List.length_nil]; omega)) ?_
          refine WL.val rfl rfl rfl rfl (r_assign rfl (ev_t rfl)) ?_
          refine WL.nil (WX.keep [(2, _)] ⟨rfl, trivial⟩ (WX.next (WC.ret (WX.retE1 rfl rfl ?_))))
          exact ⟨rfl, hU⟩
theorem WP.op {W : World} {F : Nat → Prop} {t : List UInt8} {a2 a3 a4 kv : Value} {X : List (List Value)} {S : List (List UInt8)} (hr : Rd W F kv X.length 6 (X.flatMap id)) (hX : ∀ x ∈ X, one6 x) (hS : S.length = X.length) (hE : ∀ (i : Nat) x s, X[i]? = some x → S[i]? = some s → EP W x s) (hlen : (Lib.join S ([32] ++ t ++ [32])).length ≤ 140737488355328) (hn : X.length ≤ 1000000) (ht : t.length ≤ 1000000) :
  WP W [.int .u8 17, Sv t, a2, a3, a4, kv] (Lib.join S ([32] ++ t ++ [32])) := by
 intro w hw
 refine enterRet (vs := [_]) (N := 157) Tryz.func51 rfl rfl rfl ?_
 have hU := Upd.refl No w
 refine WC.keep [(0, _)] ⟨rfl, trivial⟩ (WC.seq (WC.region (WL.cons (SO.alloc rfl rfl rfl rfl (r_boxAgg rfl (ev_t rfl)) ?_))))
 intro w1 hu1 hB1 hz1
 have hs1 := hu1.size
 replace hU := hU.transA hu1
 refine WL.val rfl rfl rfl rfl (r_assign rfl ev_c) ?_
 refine WL.nil (WX.keep [(1, _)] ⟨rfl, trivial⟩ ?_)
 have h1 := hB1
 change Blk _ _ #[.int .u8 17, Sv t, a2, a3, a4, kv] _ at h1
 refine WX.next (WC.seq (WC.seq (WC.region (WL.val rfl rfl rfl rfl (r_field0 rfl (ev_t rfl) fld_36_0) ?_))))
 refine WL.val rfl rfl rfl rfl (r_load rfl (ev_t rfl) flat_5 (Blk.cell h1 rfl)) ?_
 refine WL.nil (WX.keep [(1, _), (9, _)] ⟨rfl, rfl, trivial⟩ (WX.next (WC.block (WC.seq (WC.region (WL.val rfl rfl rfl rfl (r_eql rfl (ev_t rfl) ev_c) ?_))))))
 refine WL.val rfl rfl rfl rfl (r_assign rfl (ev_t rfl)) ?_
 refine WL.nil (WX.keep [(1, _), (9, _), (10, _)] ⟨rfl, rfl, rfl, trivial⟩ (WX.next (WC.cond rfl (ev_t rfl) (fun hc2 => ?_) (fun hc2 => ?_))))
 ·exfalso; (simp at hc2; done)
 ·try simp only [cS, ne_eq, Decidable.not_not] at hc2
  refine WC.seq (WC.region (WL.val rfl rfl rfl rfl (r_eql rfl (ev_t rfl) ev_c) ?_))
  refine WL.val rfl rfl rfl rfl (r_assign rfl (ev_t rfl)) ?_
  refine WL.nil (WX.keep [(1, _), (9, _), (15, _)] ⟨rfl, rfl, rfl, trivial⟩ (WX.next (WC.cond rfl (ev_t rfl) (fun hc4 => ?_) (fun hc4 => ?_))))
  ·exfalso; (simp at hc4; done)
  ·try simp only [cS, ne_eq, Decidable.not_not] at hc4
   refine WC.seq (WC.region (WL.val rfl rfl rfl rfl (r_eql rfl (ev_t rfl) ev_c) ?_))
   refine WL.val rfl rfl rfl rfl (r_assign rfl (ev_t rfl)) ?_
   refine WL.nil (WX.keep [(1, _), (9, _), (25, _)] ⟨rfl, rfl, rfl, trivial⟩ (WX.next (WC.cond rfl (ev_t rfl) (fun hc6 => ?_) (fun hc6 => ?_))))
   ·exfalso; (simp at hc6; done)
   ·try simp only [cS, ne_eq, Decidable.not_not] at hc6
    refine WC.seq (WC.region (WL.val rfl rfl rfl rfl (r_eql rfl (ev_t rfl) ev_c) ?_))
    refine WL.val rfl rfl rfl rfl (r_assign rfl (ev_t rfl)) ?_
    refine WL.nil (WX.keep [(1, _), (9, _), (57, _)] ⟨rfl, rfl, rfl, trivial⟩ (WX.next (WC.cond rfl (ev_t rfl) (fun hc11 => ?_) (fun hc11 => ?_))))
    ·exfalso; (simp at hc11; done)
    ·try simp only [cS, ne_eq, Decidable.not_not] at hc11
     refine WC.seq (WC.region (WL.val rfl rfl rfl rfl (r_eql rfl (ev_t rfl) ev_c) ?_))
     refine WL.val rfl rfl rfl rfl (r_assign rfl (ev_t rfl)) ?_
     refine WL.nil (WX.keep [(1, _), (9, _), (71, _)] ⟨rfl, rfl, rfl, trivial⟩ (WX.next (WC.cond rfl (ev_t rfl) (fun hc16 => ?_) (fun hc16 => ?_))))
     ·exfalso; (simp at hc16; done)
     ·try simp only [cS, ne_eq, Decidable.not_not] at hc16
      refine WC.seq (WC.region (WL.val rfl rfl rfl rfl (r_eql rfl (ev_t rfl) ev_c) ?_))
      refine WL.val rfl rfl rfl rfl (r_assign rfl (ev_t rfl)) ?_
      refine WL.nil (WX.keep [(1, _), (9, _), (85, _)] ⟨rfl, rfl, rfl, trivial⟩ (WX.next (WC.cond rfl (ev_t rfl) (fun hc18 => ?_) (fun hc18 => ?_))))
      ·exfalso; (simp at hc18; done)
      ·try simp only [cS, ne_eq, Decidable.not_not] at hc18
       refine WC.seq (WC.region (WL.val rfl rfl rfl rfl (r_eql rfl (ev_t rfl) ev_c) ?_))
       refine WL.val rfl rfl rfl rfl (r_assign rfl (ev_t rfl)) ?_
       refine WL.nil (WX.keep [(1, _), (9, _), (118, _)] ⟨rfl, rfl, rfl, trivial⟩ (WX.next (WC.cond rfl (ev_t rfl) (fun hc26 => ?_) (fun hc26 => ?_))))
       ·exfalso; (simp at hc26; done)
       ·try simp only [cS, ne_eq, Decidable.not_not] at hc26
        refine WC.seq (WC.region (WL.val rfl rfl rfl rfl (r_eql rfl (ev_t rfl) ev_c) ?_))
        refine WL.val rfl rfl rfl rfl (r_assign rfl (ev_t rfl)) ?_
        refine WL.nil (WX.keep [(1, _), (9, _), (137, _)] ⟨rfl, rfl, rfl, trivial⟩ (WX.next (WC.cond rfl (ev_t rfl) (fun hc28 => ?_) (fun hc28 => ?_))))
        ·exfalso; (simp at hc28; done)
        ·try simp only [cS, ne_eq, Decidable.not_not] at hc28
         refine WC.seq (WC.region (WL.val rfl rfl rfl rfl (r_eql rfl (ev_t rfl) ev_c) ?_))
         refine WL.val rfl rfl rfl rfl (r_assign rfl (ev_t rfl)) ?_
         refine WL.nil (WX.keep [(1, _), (9, _), (142, _)] ⟨rfl, rfl, rfl, trivial⟩ (WX.next (WC.cond rfl (ev_t rfl) (fun hc30 => ?_) (fun hc30 => ?_))))
         ·try simp only [cS, ne_eq, Decidable.not_not] at hc30
          refine WC.seq (WC.region (WL.val rfl rfl rfl rfl (r_field0 rfl (ev_t rfl) fld_36_5) ?_))
          refine WL.val rfl rfl rfl rfl (r_load rfl (ev_t rfl) flat_34 (Blk.cell h1 rfl)) ?_
          refine WL.val rfl rfl rfl rfl (r_field0 rfl (ev_t rfl) fld_36_1) ?_
          refine WL.val rfl rfl rfl rfl (r_load rfl (ev_t rfl) flat_9 (Blk.cell h1 rfl)) ?_
          refine WL.val rfl rfl rfl rfl (r_addStrL (s := [32]) (s' := t) rfl ev_c (ev_t rfl) (by simp only [List.length_cons, List.length_nil]; omega)) ?_
          refine WL.val rfl rfl rfl rfl (r_addStrL (s := [32] ++ t) (s' := [32]) rfl (ev_t rfl) ev_c (by simp only [List.length_append, List.length_cons, List.length_nil]; omega)) ?_
          refine WL.cons (SO.call (joinE_ok ((hr.upd hw (fun _ _ _ h => h)).upd hU (fun _ _ _ h => h)) hX hS (fun i x s h1 h2 => (hE i x s h1 h2).upd (hw.trans_same hU)) hlen hn) rfl body_50 ⟨(ev_t rfl), ev_f, (ev_t rfl), trivial⟩ rfl rfl rfl rfl ?_)
          rintro v9 w5 ⟨rfl, hu5⟩
          have hs5 := hu5.size
          replace hU := hU.transA hu5
          replace h1 := h1.upd hu5 (fun h => h)
          refine WL.val rfl rfl rfl rfl (r_assign rfl (ev_t rfl)) ?_
          refine WL.nil (WX.keep [(2, _)] ⟨rfl, trivial⟩ (WX.next (WC.ret (WX.blockRet (WX.thenRet (WX.retE1 rfl rfl ?_))))))
          exact ⟨rfl, hU⟩
         ·exfalso; (simp at hc30; done)
theorem join_one (s sep : List UInt8) : Lib.join [s] sep = s := by simp [Lib.join, List.intercalate]
theorem WP.app {W : World} {F : Nat → Prop} {a1 a2 a3 a4 kv b1 b2 b3 b4 b5 : Value} {x1 : List Value} {s0 s1 : List UInt8} (hr : Rd W F kv 2 6 ([.int .u8 5, b1, b2, b3, b4, b5] ++ x1)) (hX : one6 x1) (hE0 : EP W [.int .u8 5, b1, b2, b3, b4, b5] s0) (hE1 : EP W x1 s1) (hl0 : s0.length ≤ 1000000) (hl1 : s1.length ≤ 1000000) :
  WP W [.int .u8 11, a1, a2, a3, a4, kv] (s0 ++ [32] ++ s1) := by
 intro w hw
 obtain ⟨A, c, rfl, hc⟩ := hr.slice_form
 obtain ⟨b0, off, rfl, _⟩ := hr.open (by omega)
 refine enterRet (vs := [_]) (N := 157) Tryz.func51 rfl rfl rfl ?_
 have hU := Upd.refl No w
 refine WC.keep [(0, _)] ⟨rfl, trivial⟩ (WC.seq (WC.region (WL.cons (SO.alloc rfl rfl rfl rfl (r_boxAgg rfl (ev_t rfl)) ?_))))
 intro w1 hu1 hB1 hz1
 have hs1 := hu1.size
 replace hU := hU.transA hu1
 refine WL.val rfl rfl rfl rfl (r_assign rfl ev_c) ?_
 refine WL.nil (WX.keep [(1, _)] ⟨rfl, trivial⟩ ?_)
 have h1 := hB1
 change Blk _ _ #[.int .u8 11, a1, a2, a3, a4, .slice (some ⟨b0, off, none⟩) 2 c] _ at h1
 refine WX.next (WC.seq (WC.seq (WC.region (WL.val rfl rfl rfl rfl (r_field0 rfl (ev_t rfl) fld_36_0) ?_))))
 refine WL.val rfl rfl rfl rfl (r_load rfl (ev_t rfl) flat_5 (Blk.cell h1 rfl)) ?_
 refine WL.nil (WX.keep [(1, _), (9, _)] ⟨rfl, rfl, trivial⟩ (WX.next (WC.block (WC.seq (WC.region (WL.val rfl rfl rfl rfl (r_eql rfl (ev_t rfl) ev_c) ?_))))))
 refine WL.val rfl rfl rfl rfl (r_assign rfl (ev_t rfl)) ?_
 refine WL.nil (WX.keep [(1, _), (9, _), (10, _)] ⟨rfl, rfl, rfl, trivial⟩ (WX.next (WC.cond rfl (ev_t rfl) (fun hc2 => ?_) (fun hc2 => ?_))))
 ·exfalso; (simp at hc2; done)
 ·try simp only [cS, ne_eq, Decidable.not_not] at hc2
  refine WC.seq (WC.region (WL.val rfl rfl rfl rfl (r_eql rfl (ev_t rfl) ev_c) ?_))
  refine WL.val rfl rfl rfl rfl (r_assign rfl (ev_t rfl)) ?_
  refine WL.nil (WX.keep [(1, _), (9, _), (15, _)] ⟨rfl, rfl, rfl, trivial⟩ (WX.next (WC.cond rfl (ev_t rfl) (fun hc4 => ?_) (fun hc4 => ?_))))
  ·exfalso; (simp at hc4; done)
  ·try simp only [cS, ne_eq, Decidable.not_not] at hc4
   refine WC.seq (WC.region (WL.val rfl rfl rfl rfl (r_eql rfl (ev_t rfl) ev_c) ?_))
   refine WL.val rfl rfl rfl rfl (r_assign rfl (ev_t rfl)) ?_
   refine WL.nil (WX.keep [(1, _), (9, _), (25, _)] ⟨rfl, rfl, rfl, trivial⟩ (WX.next (WC.cond rfl (ev_t rfl) (fun hc6 => ?_) (fun hc6 => ?_))))
   ·try simp only [cS, ne_eq, Decidable.not_not] at hc6
    refine WC.seq (WC.region (WL.val rfl rfl rfl rfl (r_field0 rfl (ev_t rfl) fld_36_5) ?_))
    refine WL.val rfl rfl rfl rfl (r_load rfl (ev_t rfl) flat_34 (Blk.cell h1 rfl)) ?_
    refine WL.val rfl rfl rfl rfl (r_indexAddr rfl (ev_t rfl) ev_c elem_34 size_36 (by omega) (by omega)) ?_
    refine WL.val rfl rfl rfl rfl (r_loadAgg (vs := [_, _, _, _, _, _]) rfl (ev_t rfl) agg_36 size_36 (Rd.cellsL (us := [.int .u8 5, b1, b2, b3, b4, b5]) ((hr.upd hw (fun _ _ _ h => h)).upd hU (fun _ _ _ h => h)) (i := 0) (by omega) (fun q v hv => by rw [Nat.zero_add, List.getElem?_append_left (List.getElem?_eq_some_iff.1 hv).1]; exact hv))) ?_
    refine WL.cons (SO.call (hE0 _ (hw.trans_same hU)) rfl body_28 ⟨(ev_t rfl), trivial⟩ rfl rfl rfl rfl ?_)
    rintro v9 w3 ⟨rfl, hu3⟩
    have hs3 := hu3.size
    replace hU := hU.transA hu3
    replace h1 := h1.upd hu3 (fun h => h)
    refine WL.val rfl rfl rfl rfl (r_assign rfl (ev_t rfl)) ?_
    refine WL.nil (WX.keep [(1, _), (3, _)] ⟨rfl, rfl, trivial⟩ (WX.next (WC.seq (WC.seq (WC.region (WL.val rfl rfl rfl rfl (r_field0 rfl (ev_t rfl) fld_36_5) ?_))))))
    refine WL.val rfl rfl rfl rfl (r_load rfl (ev_t rfl) flat_34 (Blk.cell h1 rfl)) ?_
    refine WL.val rfl rfl rfl rfl (r_indexAddr rfl (ev_t rfl) ev_c elem_34 size_36 (by omega) (by omega)) ?_
    refine WL.val rfl rfl rfl rfl (r_fieldAt rfl (ev_t rfl) fld_36_0) ?_
    refine WL.val rfl rfl rfl rfl (r_load rfl (ev_t rfl) flat_5 (((hr.upd hw (fun _ _ _ h => h)).upd hU (fun _ _ _ h => h)).cell (j := 0) (u := .int .u8 5) (by omega) rfl)) ?_
    refine WL.val rfl rfl rfl rfl (r_eql rfl (ev_t rfl) ev_c) ?_
    refine WL.val rfl rfl rfl rfl (r_move rfl (ev_t rfl)) ?_
    refine WL.cases 38 rfl (fun hb8_6 => ?_) (fun hb8_6 => ?_)
    ·exfalso; (simp at hb8_6; done)
    ·try simp only [cS, ne_eq, Decidable.not_not] at hb8_6
     refine WL.skip rfl rfl rfl (WL.skip rfl rfl rfl (WL.skip rfl rfl rfl (WL.skip rfl rfl rfl (WL.skip rfl rfl rfl (WL.skip rfl rfl rfl (WL.skip rfl rfl rfl (WL.val rfl rfl rfl rfl (r_pickF rfl (ev_t rfl) ev_c) ?_)))))))
     refine WL.nil (WX.keep [(1, _), (3, _), (46, _)] ⟨rfl, rfl, rfl, trivial⟩ (WX.next (WC.cond_false rfl (ev_t rfl) ?_)))
     refine WC.skip (WX.next (WC.seq (WC.region (WL.val rfl rfl rfl rfl (r_move rfl (ev_t rfl)) ?_))))
     refine WL.val rfl rfl rfl rfl (r_addStrL (s := s0) (s' := [32]) rfl (ev_t rfl) ev_c (by simp only [List.length_cons, List.length_nil]; omega)) ?_
     refine WL.val rfl rfl rfl rfl (r_field0 rfl (ev_t rfl) fld_36_5) ?_
     refine WL.val rfl rfl rfl rfl (r_load rfl (ev_t rfl) flat_34 (Blk.cell h1 rfl)) ?_
     refine WL.val rfl rfl rfl rfl (r_slice (l := 1) (h := 2) rfl (ev_t rfl) elem_34 size_36 (bnd_some ev_c (by omega)) bnd_none (by omega) (by omega) (by omega)) ?_
     have ht6 : x1.take 6 = x1 := List.take_of_length_le (by rw [hX.1]; exact Nat.le_refl _)
     have hr1 := ((hr.upd hw (fun _ _ _ h => h)).upd hU (fun _ _ _ h => h)).slice (l := 1) (h := 2) (by omega) (by omega)
     refine WL.cons (SO.call (joinE_ok (X := [x1]) (S := [s1]) (by simpa [hX.1, ht6] using hr1) (fun x hx => by obtain rfl := List.mem_singleton.1 hx; exact hX) rfl (fun i x s h1 h2 => by cases i with | zero => (simp only [List.getElem?_cons_zero, Option.some.injEq] at h1 h2; subst h1 h2; exact hE1.upd (hw.trans_same hU)) | succ i => simp at h1) (by rw [join_one]; omega) (by simp)) rfl body_50 ⟨(ev_t rfl), ev_f, ev_c, trivial⟩ rfl rfl rfl rfl ?_)
     rw [join_one]
     rintro v9 w4 ⟨rfl, hu4⟩
     have hs4 := hu4.size
     replace hU := hU.transA hu4
     replace h1 := h1.upd hu4 (fun h => h)
     refine WL.val rfl rfl rfl rfl (r_addStrL (s := s0 ++ [32]) (s' := s1) rfl (ev_t rfl) (ev_t rfl) (by simp only [List.length_append, List.length_cons, List.length_nil]; omega)) ?_
     refine WL.val rfl rfl rfl rfl (r_assign rfl (ev_t rfl)) ?_
     refine WL.nil (WX.keep [(2, _)] ⟨rfl, trivial⟩ (WX.next (WC.ret (WX.blockRet (WX.thenRet (WX.retE1 rfl rfl ?_))))))
     exact ⟨rfl, hU⟩
   ·exfalso; (simp at hc6; done)
end Go.Proofs.YtomkdhkkggbioaaGreatDoor

/-
  print.Type: variables, functions, a name behind one type.
-/
namespace Go.Proofs.YtomkdhkkggbioaaGreatDoor
open Go
set_option linter.unusedSimpArgs false
set_option linter.unusedVariables false

theorem len3e {x : List Value} (h : x.length = 3) : ∃ a b c, x = [a, b, c] := by
  match x, h with
  | [a, b, c], _ => exact ⟨a, b, c, rfl⟩
/-- a type prints so, within what stands about it -/
def TPr (W : World) (x : List Value) (about : Int) (s : List UInt8) : Prop := ∀ w', Upd No W w' → Ret Tryz.prog 29 #[.agg x.toArray, .int .i64 about] w' fun u w'' => u = Sv s ∧ Upd No w' w''
theorem TPr.upd {W w' : World} {x : List Value} {about : Int} {s : List UInt8} (h : TPr W x about s) (hu : Upd No W w') : TPr w' x about s := fun w2 h2 => h w2 (hu.trans_same h2)
theorem TPr.var {W : World} {n about : Int} {kv : Value} (hn : inK .i64 n) (hP : Pow10 W) : TPr W [Sv [], .int .i64 n, kv] about (varS n) := by
  intro w hw
  refine enterRet (vs := [_, _]) (N := 79) Tryz.func29 rfl rfl rfl ?_
  have hU := Upd.refl No w
  refine WC.keep [(0, _), (1, _)] ⟨rfl, rfl, trivial⟩ (WC.seq (WC.region (WL.cons (SO.alloc rfl rfl rfl rfl (r_boxAgg rfl (ev_t rfl)) ?_))))
  intro w1 hu1 hB1 hz1
  have hs1 := hu1.size
  replace hU := hU.transA hu1
  refine WL.val rfl rfl rfl rfl (r_assign rfl ev_c) ?_
  refine WL.nil (WX.keep [(1, _), (2, _)] ⟨rfl, rfl, trivial⟩ ?_)
  have h1 := hB1
  change Blk _ _ #[Sv [], .int .i64 n, kv] _ at h1
  refine WX.next (WC.seq (WC.region (WL.val rfl rfl rfl rfl (r_assign rfl ev_c) ?_)))
  refine WL.val rfl rfl rfl rfl (r_assign rfl ev_c) ?_
  refine WL.nil (WX.keep [(1, _), (2, _)] ⟨rfl, rfl, trivial⟩ (WX.next (WC.seq (WC.block (WC.seq (WC.region (WL.val rfl rfl rfl rfl (r_field0 rfl (ev_t rfl) fld_24_0) ?_)))))))
  refine WL.val rfl rfl rfl rfl (r_load rfl (ev_t rfl) flat_9 (Blk.cell h1 rfl)) ?_
  refine WL.val rfl rfl rfl rfl (r_eqlStrL rfl (ev_t rfl) ev_c) ?_
  refine WL.val rfl rfl rfl rfl (r_assign rfl (ev_t rfl)) ?_
  refine WL.nil (WX.keep [(1, _), (2, _), (15, _)] ⟨rfl, rfl, rfl, trivial⟩ (WX.next (WC.cond rfl (ev_t rfl) (fun hc3 => ?_) (fun hc3 => ?_))))
  · try simp only [cS, ne_eq, Decidable.not_not] at hc3
    refine WC.seq (WC.region (WL.val rfl rfl rfl rfl (r_field0 rfl (ev_t rfl) fld_24_1) ?_))
    refine WL.val rfl rfl rfl rfl (r_load rfl (ev_t rfl) flat_3 (Blk.cell h1 rfl)) ?_
    refine WL.cons (SO.call (Var_ok hn ((hP.upd hw (fun k _ h => h)).upd hU (fun k _ h => h))) rfl body_19 ⟨(ev_t rfl), trivial⟩ rfl rfl rfl rfl ?_)
    rintro v9 w2 ⟨rfl, hu2⟩
    have hs2 := hu2.size
    replace hU := hU.transA hu2
    replace h1 := h1.upd hu2 (fun h => h)
    refine WL.val rfl rfl rfl rfl (r_assign rfl (ev_t rfl)) ?_
    refine WL.nil (WX.keep [(4, _)] ⟨rfl, trivial⟩ (WX.next (WC.ret (WX.blockRet (WX.thenRet (WX.retE1 rfl rfl ?_))))))
    exact ⟨rfl, hU⟩
  · try simp only [cS, ne_eq, Decidable.not_not] at hc3
    exfalso
    simp at hc3
theorem TPr.arrow {W : World} {F : Nat → Prop} {about : Int} {m kv : Value} {x0 x1 : List Value} {s0 s1 : List UInt8} (hr : Rd W F kv 2 3 (x0 ++ x1)) (hx0 : x0.length = 3) (hx1 : x1.length = 3) (h0 : TPr W x0 1 s0) (h1 : TPr W x1 0 s1) (hl0 : s0.length ≤ 100000000000000) (hl1 : s1.length ≤ 100000000000000) :
    TPr W [Sv [45, 62], m, kv] about (brk (decide (0 < about)) (s0 ++ [32, 45, 62, 32] ++ s1)) := by
  intro w hw
  obtain ⟨A, c, rfl, hc⟩ := hr.slice_form
  obtain ⟨b0, off, rfl, _⟩ := hr.open (by omega)
  obtain ⟨y0, y1, y2, rfl⟩ : ∃ a b c, x0 = [a, b, c] := len3e hx0
  obtain ⟨z0, z1, z2, rfl⟩ : ∃ a b c, x1 = [a, b, c] := len3e hx1
  refine enterRet (vs := [_, _]) (N := 79) Tryz.func29 rfl rfl rfl ?_
  have hU := Upd.refl No w
  refine WC.keep [(0, _), (1, _)] ⟨rfl, rfl, trivial⟩ (WC.seq (WC.region (WL.cons (SO.alloc rfl rfl rfl rfl (r_boxAgg rfl (ev_t rfl)) ?_))))
  intro w1 hu1 hB1 hz1
  have hs1 := hu1.size
  replace hU := hU.transA hu1
  refine WL.val rfl rfl rfl rfl (r_assign rfl ev_c) ?_
  refine WL.nil (WX.keep [(1, _), (2, _)] ⟨rfl, rfl, trivial⟩ ?_)
  have hb := hB1
  change Blk _ _ #[Sv [45, 62], m, .slice (some ⟨b0, off, none⟩) 2 c] _ at hb
  refine WX.next (WC.seq (WC.region (WL.val rfl rfl rfl rfl (r_assign rfl ev_c) ?_)))
  refine WL.val rfl rfl rfl rfl (r_assign rfl ev_c) ?_
  refine WL.nil (WX.keep [(1, _), (2, _)] ⟨rfl, rfl, trivial⟩ (WX.next (WC.seq (WC.block (WC.seq (WC.region (WL.val rfl rfl rfl rfl (r_field0 rfl (ev_t rfl) fld_24_0) ?_)))))))
  refine WL.val rfl rfl rfl rfl (r_load rfl (ev_t rfl) flat_9 (Blk.cell hb rfl)) ?_
  refine WL.val rfl rfl rfl rfl (r_eqlStrL rfl (ev_t rfl) ev_c) ?_
  refine WL.val rfl rfl rfl rfl (r_assign rfl (ev_t rfl)) ?_
  refine WL.nil (WX.keep [(1, _), (2, _), (15, _)] ⟨rfl, rfl, rfl, trivial⟩ (WX.next (WC.cond rfl (ev_t rfl) (fun hc3 => ?_) (fun hc3 => ?_))))
  · try simp only [cS, ne_eq, Decidable.not_not] at hc3
    exfalso
    simp at hc3
  · try simp only [cS, ne_eq, Decidable.not_not] at hc3
    refine WC.seq (WC.region (WL.val rfl rfl rfl rfl (r_field0 rfl (ev_t rfl) fld_24_0) ?_))
    refine WL.val rfl rfl rfl rfl (r_load rfl (ev_t rfl) flat_9 (Blk.cell hb rfl)) ?_
    refine WL.val rfl rfl rfl rfl (r_eqlStrL rfl (ev_t rfl) ev_c) ?_
    refine WL.val rfl rfl rfl rfl (r_move rfl (ev_t rfl)) ?_
    refine WL.cases 26 rfl (fun hb5_3 => ?_) (fun hb5_3 => ?_)
    · try simp only [cS, ne_eq, Decidable.not_not] at hb5_3
      refine WL.val rfl rfl rfl rfl (r_field0 rfl (ev_t rfl) fld_24_2) ?_
      refine WL.val rfl rfl rfl rfl (r_load rfl (ev_t rfl) flat_22 (Blk.cell hb rfl)) ?_
      refine WL.val rfl rfl rfl rfl (r_lenSlice (ts := #[]) rfl (ev_t rfl) elem_22) ?_
      refine WL.val rfl rfl rfl rfl (r_eql rfl (ev_t rfl) ev_c) ?_
      refine WL.val rfl rfl rfl rfl (r_pickT rfl (ev_t rfl) (ev_t rfl)) ?_
      refine WL.val rfl rfl rfl rfl (r_assign rfl (ev_t rfl)) ?_
      refine WL.nil (WX.keep [(1, _), (2, _), (22, _)] ⟨rfl, rfl, rfl, trivial⟩ (WX.next (WC.cond rfl (ev_t rfl) (fun hc5 => ?_) (fun hc5 => ?_))))
      · try simp only [cS, ne_eq, Decidable.not_not] at hc5
        have hrw := (hr.upd hw (fun _ _ _ h => h)).upd hU (fun _ _ _ h => h)
        refine WC.draws' (fun u0_ u1_ => Upd No u0_ u1_) (fun j => [0, 0, 0, 0, 1, 0, 0, 0, 0, 0, 2, 0, 0, 0].getD j 0) (.calm 0 (.calm 6 (.held 1 (.calm 2 (.held 3 (.held 7 (.calm 8 (.held 9 (.one 4 (.calm 5 (.one 10 (.calm 11 (.calm 12 (.calm 13 (.done))))))))))))))) mixed (by kernel_rfl) (by repeat (first | with_reducible exact Deaf.body | with_reducible apply Deaf.then | with_reducible apply Deaf.block)) ?_
        intro w2 hu2
        have hz2 := congrArg Array.size hu2.2.2.2
        replace hu2 := Upd.of_draw hu2
        have hs2 := hu2.size
        replace hU := hU.transA hu2
        replace hb := hb.upd hu2 (fun h => h)
        replace hrw := hrw.upd hu2 (fun _ _ _ h => h)
        have hS6 := Upd.refl No w2
        refine WN.calm _ rfl rfl rfl rfl rfl (fun _ => r_field0 rfl (ev_t rfl) fld_24_2) ?_
        refine WN.calm _ rfl rfl rfl rfl rfl (fun _ => r_field0 rfl (ev_t rfl) fld_24_2) ?_
        refine WN.held _ rfl rfl rfl rfl rfl hS6 (fun w' hS => r_load rfl (ev_t rfl) flat_22 (Blk.cell (hb.upd hS (fun h => h)) rfl)) ?_
        refine WN.calm _ rfl rfl rfl rfl rfl (fun _ => r_indexAddr rfl (ev_t rfl) ev_c elem_22 size_24 (by omega) (by omega)) ?_
        refine WN.held _ rfl rfl rfl rfl rfl hS6 (fun w' hS => r_loadAgg (vs := [_, _, _]) rfl (ev_t rfl) agg_24 size_24 (Rd.cellsL (us := [y0, y1, y2]) (hrw.upd hS (fun _ _ _ h => h)) (i := 0) (by omega) (fun q v hv => by rw [Nat.zero_add, List.getElem?_append_left (List.getElem?_eq_some_iff.1 hv).1]; exact hv))) ?_
        refine WN.held _ rfl rfl rfl rfl rfl hS6 (fun w' hS => r_load rfl (ev_t rfl) flat_22 (Blk.cell (hb.upd hS (fun h => h)) rfl)) ?_
        refine WN.calm _ rfl rfl rfl rfl rfl (fun _ => r_indexAddr rfl (ev_t rfl) ev_c elem_22 size_24 (by omega) (by omega)) ?_
        refine WN.held _ rfl rfl rfl rfl rfl hS6 (fun w' hS => r_loadAgg (vs := [_, _, _]) rfl (ev_t rfl) agg_24 size_24 (Rd.cellsL (us := [z0, z1, z2]) (hrw.upd hS (fun _ _ _ h => h)) (i := 3) (by omega) (fun q v hv => by rw [List.getElem?_append_right (by simp), show 3 + q - [y0, y1, y2].length = q by simp]; exact hv))) ?_
        refine WN.step _ rfl (SO.call (h0 _ (hw.trans_same hU)) rfl body_29 ⟨(ev_t rfl), ev_c, trivial⟩ rfl rfl rfl rfl ?_)
        rintro v9 w3 ⟨rfl, hu3⟩
        have hs3 := hu3.size
        replace hS6 := Upd.transA hS6 hu3
        replace hU := hU.transA hu3
        replace hb := hb.upd hu3 (fun h => h)
        replace hrw := hrw.upd hu3 (fun _ _ _ h => h)
        refine ⟨hS6, ?_⟩
        refine WN.calm _ rfl rfl rfl rfl rfl (fun _ => r_addStrL (s := s0) (s' := [32, 45, 62, 32]) rfl (ev_t rfl) ev_c (by simp only [List.length_cons, List.length_nil]; omega)) ?_
        refine WN.step _ rfl (SO.call (h1 _ (hw.trans_same hU)) rfl body_29 ⟨(ev_t rfl), ev_c, trivial⟩ rfl rfl rfl rfl ?_)
        rintro v9 w4 ⟨rfl, hu4⟩
        have hs4 := hu4.size
        try replace hS6 := Upd.transA hS6 hu4
        replace hU := hU.transA hu4
        replace hb := hb.upd hu4 (fun h => h)
        replace hrw := hrw.upd hu4 (fun _ _ _ h => h)
        refine ⟨trivial, ?_⟩
        refine WN.calm _ rfl rfl rfl rfl rfl (fun _ => r_addStrL (s := s0 ++ [32, 45, 62, 32]) (s' := s1) rfl (ev_t rfl) (ev_t rfl) (by simp only [List.length_append, List.length_cons, List.length_nil]; omega)) ?_
        refine WN.calm _ rfl rfl rfl rfl rfl (fun _ => r_assign rfl (ev_t rfl)) ?_
        refine WN.calm _ rfl rfl rfl rfl rfl (fun _ => r_assign rfl ev_c) ?_
        refine WN.done ?_
        refine WX.keep [(1, _), (5, _), (6, _)] ⟨rfl, rfl, rfl, trivial⟩ (WX.blockNormal (WX.next (WC.seq (WC.seq (WC.region (WL.val rfl rfl rfl rfl (r_move rfl (ev_t rfl)) ?_))))))
        refine WL.val rfl rfl rfl rfl (r_move rfl (ev_t rfl)) ?_
        refine WL.val rfl rfl rfl rfl (r_lss rfl (ev_t rfl) (ev_t rfl)) ?_
        refine WL.nil (WX.keep [(5, _), (74, _)] ⟨rfl, rfl, trivial⟩ (WX.next (WC.cond rfl (ev_t rfl) (fun hc13 => ?_) (fun hc13 => ?_))))
        · try simp only [cS, ne_eq, Decidable.not_not] at hc13
          refine WC.seq (WC.region (WL.val rfl rfl rfl rfl (r_move rfl (ev_t rfl)) ?_))
          refine WL.val rfl rfl rfl rfl (r_addStrL (s := [40]) (s' := s0 ++ [32, 45, 62, 32] ++ s1) rfl ev_c (ev_t rfl) (by simp only [List.length_append, List.length_cons, List.length_nil]; omega)) ?_
          refine WL.val rfl rfl rfl rfl (r_addStrL (s := [40] ++ (s0 ++ [32, 45, 62, 32] ++ s1)) (s' := [41]) rfl (ev_t rfl) ev_c (by simp only [List.length_append, List.length_cons, List.length_nil]; omega)) ?_
          refine WL.val rfl rfl rfl rfl (r_assign rfl (ev_t rfl)) ?_
          refine WL.nil (WX.keep [(4, _)] ⟨rfl, trivial⟩ (WX.next (WC.ret (WX.thenRet (WX.retE1 rfl rfl ?_)))))
          exact ⟨by unfold brk; rw [if_pos (by simpa using hc13)]; rfl, hU⟩
        · try simp only [cS, ne_eq, Decidable.not_not] at hc13
          refine WC.skip (WX.next (WC.seq (WC.region (WL.val rfl rfl rfl rfl (r_move rfl (ev_t rfl)) ?_))))
          refine WL.val rfl rfl rfl rfl (r_assign rfl (ev_t rfl)) ?_
          refine WL.nil (WX.keep [(4, _)] ⟨rfl, trivial⟩ (WX.next (WC.ret (WX.retE1 rfl rfl ?_))))
          exact ⟨by unfold brk; rw [if_neg (by simpa using hc13)]; rfl, hU⟩
      · exfalso; (simp at hc5; done)
    · try simp only [cS, ne_eq, Decidable.not_not] at hb5_3
      exfalso
      simp at hb5_3
theorem TPr.one {W : World} {F : Nat → Prop} {about : Int} {nm : List UInt8} {m kv : Value} {x0 : List Value} {s0 : List UInt8} (hr : Rd W F kv 1 3 x0) (hx0 : x0.length = 3) (h0 : TPr W x0 2 s0) (hn0 : nm ≠ []) (hn1 : nm ≠ [42]) (hl0 : s0.length ≤ 100000000000000) (hln : nm.length ≤ 140737488355328) :
    TPr W [Sv nm, m, kv] about (s0 ++ [32] ++ nm) := by
  intro w hw
  obtain ⟨A, c, rfl, hc⟩ := hr.slice_form
  obtain ⟨b0, off, rfl, _⟩ := hr.open (by omega)
  obtain ⟨y0, y1, y2, rfl⟩ : ∃ a b c, x0 = [a, b, c] := len3e hx0
  refine enterRet (vs := [_, _]) (N := 79) Tryz.func29 rfl rfl rfl ?_
  have hU := Upd.refl No w
  refine WC.keep [(0, _), (1, _)] ⟨rfl, rfl, trivial⟩ (WC.seq (WC.region (WL.cons (SO.alloc rfl rfl rfl rfl (r_boxAgg rfl (ev_t rfl)) ?_))))
  intro w1 hu1 hB1 hz1
  have hs1 := hu1.size
  replace hU := hU.transA hu1
  refine WL.val rfl rfl rfl rfl (r_assign rfl ev_c) ?_
  refine WL.nil (WX.keep [(1, _), (2, _)] ⟨rfl, rfl, trivial⟩ ?_)
  have hb := hB1
  change Blk _ _ #[Sv nm, m, .slice (some ⟨b0, off, none⟩) 1 c] _ at hb
  refine WX.next (WC.seq (WC.region (WL.val rfl rfl rfl rfl (r_assign rfl ev_c) ?_)))
  refine WL.val rfl rfl rfl rfl (r_assign rfl ev_c) ?_
  refine WL.nil (WX.keep [(1, _), (2, _)] ⟨rfl, rfl, trivial⟩ (WX.next (WC.seq (WC.block (WC.seq (WC.region (WL.val rfl rfl rfl rfl (r_field0 rfl (ev_t rfl) fld_24_0) ?_)))))))
  refine WL.val rfl rfl rfl rfl (r_load rfl (ev_t rfl) flat_9 (Blk.cell hb rfl)) ?_
  refine WL.val rfl rfl rfl rfl (r_eqlStrL rfl (ev_t rfl) ev_c) ?_
  refine WL.val rfl rfl rfl rfl (r_assign rfl (ev_t rfl)) ?_
  refine WL.nil (WX.keep [(1, _), (2, _), (15, _)] ⟨rfl, rfl, rfl, trivial⟩ (WX.next (WC.cond rfl (ev_t rfl) (fun hc3 => ?_) (fun hc3 => ?_))))
  · try simp only [cS, ne_eq, Decidable.not_not] at hc3
    exfalso
    exact hn0 (by simpa using hc3)
  · try simp only [cS, ne_eq, Decidable.not_not] at hc3
    refine WC.seq (WC.region (WL.val rfl rfl rfl rfl (r_field0 rfl (ev_t rfl) fld_24_0) ?_))
    refine WL.val rfl rfl rfl rfl (r_load rfl (ev_t rfl) flat_9 (Blk.cell hb rfl)) ?_
    refine WL.val rfl rfl rfl rfl (r_eqlStrL rfl (ev_t rfl) ev_c) ?_
    refine WL.val rfl rfl rfl rfl (r_move rfl (ev_t rfl)) ?_
    refine WL.cases 26 rfl (fun hb5_3 => ?_) (fun hb5_3 => ?_)
    · try simp only [cS, ne_eq, Decidable.not_not] at hb5_3
      refine WL.val rfl rfl rfl rfl (r_field0 rfl (ev_t rfl) fld_24_2) ?_
      refine WL.val rfl rfl rfl rfl (r_load rfl (ev_t rfl) flat_22 (Blk.cell hb rfl)) ?_
      refine WL.val rfl rfl rfl rfl (r_lenSlice (ts := #[]) rfl (ev_t rfl) elem_22) ?_
      refine WL.val rfl rfl rfl rfl (r_eql rfl (ev_t rfl) ev_c) ?_
      refine WL.val rfl rfl rfl rfl (r_pickT rfl (ev_t rfl) (ev_t rfl)) ?_
      refine WL.val rfl rfl rfl rfl (r_assign rfl (ev_t rfl)) ?_
      refine WL.nil (WX.keep [(1, _), (2, _), (22, _)] ⟨rfl, rfl, rfl, trivial⟩ (WX.next (WC.cond rfl (ev_t rfl) (fun hc5 => ?_) (fun hc5 => ?_))))
      · exfalso; (simp at hc5; done)
      · try simp only [cS, ne_eq, Decidable.not_not] at hc5
        refine WC.seq (WC.region (WL.val rfl rfl rfl rfl (r_field0 rfl (ev_t rfl) fld_24_0) ?_))
        refine WL.val rfl rfl rfl rfl (r_load rfl (ev_t rfl) flat_9 (Blk.cell hb rfl)) ?_
        refine WL.val rfl rfl rfl rfl (r_eqlStrL rfl (ev_t rfl) ev_c) ?_
        refine WL.val rfl rfl rfl rfl (r_assign rfl (ev_t rfl)) ?_
        refine WL.nil (WX.keep [(1, _), (2, _), (44, _)] ⟨rfl, rfl, rfl, trivial⟩ (WX.next (WC.cond rfl (ev_t rfl) (fun hc7 => ?_) (fun hc7 => ?_))))
        · try simp only [cS, ne_eq, Decidable.not_not] at hc7
          exfalso
          exact hn1 (by simpa using hc7)
        · try simp only [cS, ne_eq, Decidable.not_not] at hc7
          refine WC.seq (WC.region (WL.val rfl rfl rfl rfl (r_field0 rfl (ev_t rfl) fld_24_2) ?_))
          refine WL.val rfl rfl rfl rfl (r_load rfl (ev_t rfl) flat_22 (Blk.cell hb rfl)) ?_
          refine WL.val rfl rfl rfl rfl (r_lenSlice (ts := #[]) rfl (ev_t rfl) elem_22) ?_
          refine WL.val rfl rfl rfl rfl (r_eql rfl (ev_t rfl) ev_c) ?_
          refine WL.val rfl rfl rfl rfl (r_assign rfl (ev_t rfl)) ?_
          refine WL.nil (WX.keep [(2, _), (51, _)] ⟨rfl, rfl, trivial⟩ (WX.next (WC.cond rfl (ev_t rfl) (fun hc9 => ?_) (fun hc9 => ?_))))
          · exfalso; (simp at hc9; done)
          · try simp only [cS, ne_eq, Decidable.not_not] at hc9
            refine WC.seq (WC.region (WL.val rfl rfl rfl rfl (r_field0 rfl (ev_t rfl) fld_24_2) ?_))
            refine WL.val rfl rfl rfl rfl (r_load rfl (ev_t rfl) flat_22 (Blk.cell hb rfl)) ?_
            refine WL.val rfl rfl rfl rfl (r_lenSlice (ts := #[]) rfl (ev_t rfl) elem_22) ?_
            refine WL.val rfl rfl rfl rfl (r_eql rfl (ev_t rfl) ev_c) ?_
            refine WL.val rfl rfl rfl rfl (r_assign rfl (ev_t rfl)) ?_
            refine WL.nil (WX.keep [(2, _), (58, _)] ⟨rfl, rfl, trivial⟩ (WX.next (WC.cond rfl (ev_t rfl) (fun hc11 => ?_) (fun hc11 => ?_))))
            · try simp only [cS, ne_eq, Decidable.not_not] at hc11
              refine WC.seq ?_
              have hrw := (hr.upd hw (fun _ _ _ h => h)).upd hU (fun _ _ _ h => h)
              refine WC.draws' (fun u0_ u1_ => Upd No u0_ u1_) (fun j => [0, 0, 0, 0, 1, 0, 0, 0, 0, 0].getD j 0) (.calm 0 (.calm 6 (.held 1 (.calm 2 (.held 3 (.held 7 (.one 4 (.calm 5 (.calm 8 (.calm 9 (.done))))))))))) mixed (by kernel_rfl) (by repeat (first | with_reducible exact Deaf.body | with_reducible apply Deaf.then | with_reducible apply Deaf.block)) ?_
              intro w3 hu3
              have hz3 := congrArg Array.size hu3.2.2.2
              replace hu3 := Upd.of_draw hu3
              have hs3 := hu3.size
              replace hU := hU.transA hu3
              replace hb := hb.upd hu3 (fun h => h)
              replace hrw := hrw.upd hu3 (fun _ _ _ h => h)
              have hS12 := Upd.refl No w3
              refine WN.calm _ rfl rfl rfl rfl rfl (fun _ => r_field0 rfl (ev_t rfl) fld_24_2) ?_
              refine WN.calm _ rfl rfl rfl rfl rfl (fun _ => r_field0 rfl (ev_t rfl) fld_24_0) ?_
              refine WN.held _ rfl rfl rfl rfl rfl hS12 (fun w' hS => r_load rfl (ev_t rfl) flat_22 (Blk.cell (hb.upd hS (fun h => h)) rfl)) ?_
              refine WN.calm _ rfl rfl rfl rfl rfl (fun _ => r_indexAddr rfl (ev_t rfl) ev_c elem_22 size_24 (by omega) (by omega)) ?_
              refine WN.held _ rfl rfl rfl rfl rfl hS12 (fun w' hS => r_loadAgg (vs := [_, _, _]) rfl (ev_t rfl) agg_24 size_24 (Rd.cellsL (us := [y0, y1, y2]) (hrw.upd hS (fun _ _ _ h => h)) (i := 0) (by omega) (fun q v hv => by rw [Nat.zero_add]; exact hv))) ?_
              refine WN.held _ rfl rfl rfl rfl rfl hS12 (fun w' hS => r_load rfl (ev_t rfl) flat_9 (Blk.cell (hb.upd hS (fun h => h)) rfl)) ?_
              refine WN.step _ rfl (SO.call (h0 _ (hw.trans_same hU)) rfl body_29 ⟨(ev_t rfl), ev_c, trivial⟩ rfl rfl rfl rfl ?_)
              rintro v9 w4 ⟨rfl, hu4⟩
              have hs4 := hu4.size
              replace hS12 := Upd.transA hS12 hu4
              replace hU := hU.transA hu4
              replace hb := hb.upd hu4 (fun h => h)
              replace hrw := hrw.upd hu4 (fun _ _ _ h => h)
              refine ⟨hS12, ?_⟩
              refine WN.calm _ rfl rfl rfl rfl rfl (fun _ => r_addStrL (s := s0) (s' := [32]) rfl (ev_t rfl) ev_c (by simp only [List.length_cons, List.length_nil]; omega)) ?_
              refine WN.calm _ rfl rfl rfl rfl rfl (fun _ => r_addStrL (s := s0 ++ [32]) (s' := nm) rfl (ev_t rfl) (ev_t rfl) (by simp only [List.length_append, List.length_cons, List.length_nil]; omega)) ?_
              refine WN.calm _ rfl rfl rfl rfl rfl (fun _ => r_assign rfl (ev_t rfl)) ?_
              refine WN.done ?_
              refine WX.keep [(4, _)] ⟨rfl, trivial⟩ (WX.next (WC.ret (WX.blockRet (WX.thenRet (WX.retE1 rfl rfl ?_)))))
              exact ⟨rfl, hU⟩
            · exfalso; (simp at hc11; done)
    · try simp only [cS, ne_eq, Decidable.not_not] at hb5_3
      refine WL.skip rfl rfl rfl (WL.skip rfl rfl rfl (WL.skip rfl rfl rfl (WL.skip rfl rfl rfl (WL.val rfl rfl rfl rfl (r_pickF rfl (ev_t rfl) ev_c) ?_))))
      refine WL.val rfl rfl rfl rfl (r_assign rfl (ev_t rfl)) ?_
      refine WL.nil (WX.keep [(1, _), (2, _), (22, _)] ⟨rfl, rfl, rfl, trivial⟩ (WX.next (WC.cond_false rfl (ev_t rfl) ?_)))
      refine WC.seq (WC.region (WL.val rfl rfl rfl rfl (r_field0 rfl (ev_t rfl) fld_24_0) ?_))
      refine WL.val rfl rfl rfl rfl (r_load rfl (ev_t rfl) flat_9 (Blk.cell hb rfl)) ?_
      refine WL.val rfl rfl rfl rfl (r_eqlStrL rfl (ev_t rfl) ev_c) ?_
      refine WL.val rfl rfl rfl rfl (r_assign rfl (ev_t rfl)) ?_
      refine WL.nil (WX.keep [(1, _), (2, _), (44, _)] ⟨rfl, rfl, rfl, trivial⟩ (WX.next (WC.cond rfl (ev_t rfl) (fun hc7 => ?_) (fun hc7 => ?_))))
      · try simp only [cS, ne_eq, Decidable.not_not] at hc7
        exfalso
        exact hn1 (by simpa using hc7)
      · try simp only [cS, ne_eq, Decidable.not_not] at hc7
        refine WC.seq (WC.region (WL.val rfl rfl rfl rfl (r_field0 rfl (ev_t rfl) fld_24_2) ?_))
        refine WL.val rfl rfl rfl rfl (r_load rfl (ev_t rfl) flat_22 (Blk.cell hb rfl)) ?_
        refine WL.val rfl rfl rfl rfl (r_lenSlice (ts := #[]) rfl (ev_t rfl) elem_22) ?_
        refine WL.val rfl rfl rfl rfl (r_eql rfl (ev_t rfl) ev_c) ?_
        refine WL.val rfl rfl rfl rfl (r_assign rfl (ev_t rfl)) ?_
        refine WL.nil (WX.keep [(2, _), (51, _)] ⟨rfl, rfl, trivial⟩ (WX.next (WC.cond rfl (ev_t rfl) (fun hc9 => ?_) (fun hc9 => ?_))))
        · exfalso; (simp at hc9; done)
        · try simp only [cS, ne_eq, Decidable.not_not] at hc9
          refine WC.seq (WC.region (WL.val rfl rfl rfl rfl (r_field0 rfl (ev_t rfl) fld_24_2) ?_))
          refine WL.val rfl rfl rfl rfl (r_load rfl (ev_t rfl) flat_22 (Blk.cell hb rfl)) ?_
          refine WL.val rfl rfl rfl rfl (r_lenSlice (ts := #[]) rfl (ev_t rfl) elem_22) ?_
          refine WL.val rfl rfl rfl rfl (r_eql rfl (ev_t rfl) ev_c) ?_
          refine WL.val rfl rfl rfl rfl (r_assign rfl (ev_t rfl)) ?_
          refine WL.nil (WX.keep [(2, _), (58, _)] ⟨rfl, rfl, trivial⟩ (WX.next (WC.cond rfl (ev_t rfl) (fun hc11 => ?_) (fun hc11 => ?_))))
          · try simp only [cS, ne_eq, Decidable.not_not] at hc11
            refine WC.seq ?_
            have hrw := (hr.upd hw (fun _ _ _ h => h)).upd hU (fun _ _ _ h => h)
            refine WC.draws' (fun u0_ u1_ => Upd No u0_ u1_) (fun j => [0, 0, 0, 0, 1, 0, 0, 0, 0, 0].getD j 0) (.calm 0 (.calm 6 (.held 1 (.calm 2 (.held 3 (.held 7 (.one 4 (.calm 5 (.calm 8 (.calm 9 (.done))))))))))) mixed (by kernel_rfl) (by repeat (first | with_reducible exact Deaf.body | with_reducible apply Deaf.then | with_reducible apply Deaf.block)) ?_
            intro w6 hu6
            have hz6 := congrArg Array.size hu6.2.2.2
            replace hu6 := Upd.of_draw hu6
            have hs6 := hu6.size
            replace hU := hU.transA hu6
            replace hb := hb.upd hu6 (fun h => h)
            replace hrw := hrw.upd hu6 (fun _ _ _ h => h)
            have hS12 := Upd.refl No w6
            refine WN.calm _ rfl rfl rfl rfl rfl (fun _ => r_field0 rfl (ev_t rfl) fld_24_2) ?_
            refine WN.calm _ rfl rfl rfl rfl rfl (fun _ => r_field0 rfl (ev_t rfl) fld_24_0) ?_
            refine WN.held _ rfl rfl rfl rfl rfl hS12 (fun w' hS => r_load rfl (ev_t rfl) flat_22 (Blk.cell (hb.upd hS (fun h => h)) rfl)) ?_
            refine WN.calm _ rfl rfl rfl rfl rfl (fun _ => r_indexAddr rfl (ev_t rfl) ev_c elem_22 size_24 (by omega) (by omega)) ?_
            refine WN.held _ rfl rfl rfl rfl rfl hS12 (fun w' hS => r_loadAgg (vs := [_, _, _]) rfl (ev_t rfl) agg_24 size_24 (Rd.cellsL (us := [y0, y1, y2]) (hrw.upd hS (fun _ _ _ h => h)) (i := 0) (by omega) (fun q v hv => by rw [Nat.zero_add]; exact hv))) ?_
            refine WN.held _ rfl rfl rfl rfl rfl hS12 (fun w' hS => r_load rfl (ev_t rfl) flat_9 (Blk.cell (hb.upd hS (fun h => h)) rfl)) ?_
            refine WN.step _ rfl (SO.call (h0 _ (hw.trans_same hU)) rfl body_29 ⟨(ev_t rfl), ev_c, trivial⟩ rfl rfl rfl rfl ?_)
            rintro v9 w7 ⟨rfl, hu7⟩
            have hs7 := hu7.size
            replace hS12 := Upd.transA hS12 hu7
            replace hU := hU.transA hu7
            replace hb := hb.upd hu7 (fun h => h)
            replace hrw := hrw.upd hu7 (fun _ _ _ h => h)
            refine ⟨hS12, ?_⟩
            refine WN.calm _ rfl rfl rfl rfl rfl (fun _ => r_addStrL (s := s0) (s' := [32]) rfl (ev_t rfl) ev_c (by simp only [List.length_cons, List.length_nil]; omega)) ?_
            refine WN.calm _ rfl rfl rfl rfl rfl (fun _ => r_addStrL (s := s0 ++ [32]) (s' := nm) rfl (ev_t rfl) (ev_t rfl) (by simp only [List.length_append, List.length_cons, List.length_nil]; omega)) ?_
            refine WN.calm _ rfl rfl rfl rfl rfl (fun _ => r_assign rfl (ev_t rfl)) ?_
            refine WN.done ?_
            refine WX.keep [(4, _)] ⟨rfl, trivial⟩ (WX.next (WC.ret (WX.blockRet (WX.thenRet (WX.retE1 rfl rfl ?_)))))
            exact ⟨rfl, hU⟩
          · exfalso; (simp at hc11; done)
end Go.Proofs.YtomkdhkkggbioaaGreatDoor

/-
  Law 05: the document's examples.
-/
namespace Go.Proofs.YtomkdhkkggbioaaGreatDoor
open Go
set_option linter.unusedSimpArgs false
set_option linter.unusedVariables false

theorem Type_ok {W : World} {x0 x1 x2 : Value} {s : List UInt8} (h : TPr W [x0, x1, x2] 0 s) (ho : [x0, x1, x2].all Value.oneCell' = true) : Ret Tryz.prog 13 #[.agg #[x0, x1, x2]] W fun u w' => u = Sv s ∧ Upd No W w' := by
  refine enterRet (vs := [_]) (N := 5) Tryz.func13 rfl rfl rfl ?_
  have hU := Upd.refl No W
  refine WC.keep [(0, _)] ⟨rfl, trivial⟩ (WC.seq (WC.region (WL.cons (SO.alloc rfl rfl rfl rfl (r_boxAgg rfl (ev_t rfl)) ?_))))
  intro w1 hu1 hB1 hz1
  have hs1 := hu1.size
  replace hU := hU.transA hu1
  refine WL.val rfl rfl rfl rfl (r_assign rfl ev_c) ?_
  refine WL.nil (WX.keep [(1, _)] ⟨rfl, trivial⟩ ?_)
  have hb := hB1
  change Blk _ _ #[x0, x1, x2] _ at hb
  refine WX.next (WC.seq (WC.region (WL.val rfl rfl rfl rfl (r_loadAgg (vs := [_, _, _]) rfl (ev_t rfl) agg_24 size_24 (Blk.cellsL hb)) ?_)))
  refine WL.cons (SO.call (h _ hU) rfl body_29 ⟨(ev_t rfl), ev_c, trivial⟩ rfl rfl rfl rfl ?_)
  rintro v9 w2 ⟨rfl, hu2⟩
  have hs2 := hu2.size
  replace hU := hU.transA hu2
  replace hB1 := hB1.updA hu2
  refine WL.val rfl rfl rfl rfl (r_assign rfl (ev_t rfl)) ?_
  refine WL.nil (WX.keep [(2, _)] ⟨rfl, trivial⟩ (WX.next (WC.ret (WX.retE1 rfl rfl ?_))))
  exact ⟨rfl, hU⟩

set_option maxHeartbeats 4000000 in
theorem awake05_ok (w : World) (hP : Pow10 w) : Ret Tryz.prog 12 #[] w fun v w' => v = .bool true ∧ Upd No w w' := by
  refine enterRet (vs := []) (N := 27) Tryz.func12 rfl rfl rfl ?_
  have hU := Upd.refl No w
  refine WC.keep [] trivial (WC.seq (WC.region (WL.val rfl rfl rfl rfl (r_assign rfl ev_c) ?_)))
  refine WL.nil (WX.keep [] trivial (WX.next (WC.seq (WC.region (WL.val rfl rfl rfl rfl (r_build (cs := #[_, _, _, _, _, _]) (vs := [(0, _), (1, _)]) rfl ⟨⟨rfl, ev_c⟩, ⟨rfl, ev_c⟩, trivial⟩ plc_36 zero_36 rfl) ?_)))))
  refine WL.val rfl rfl rfl rfl (r_build (cs := #[_, _, _, _, _, _]) (vs := [(0, _), (1, _)]) rfl ⟨⟨rfl, ev_c⟩, ⟨rfl, ev_c⟩, trivial⟩ plc_36 zero_36 rfl) ?_
  refine WL.cons (SO.alloc rfl rfl rfl rfl (r_buildSlice66 rfl (ev_t rfl) (ev_t rfl) row_34) ?_)
  intro w1 hu1 hk1 hz9
  change Blk _ _ #[.int .u8 5, Sv [102], .int .i64 0, .bool false, .slice none 0 0, .slice none 0 0, .int .u8 5, Sv [120], .int .i64 0, .bool false, .slice none 0 0, .slice none 0 0] _ at hk1
  have hs1 := hu1.size
  replace hU := hU.transA hu1
  refine WL.val rfl rfl rfl rfl (r_build (cs := #[_, _, _, _, _, _]) (vs := [(0, _), (5, _)]) rfl ⟨⟨rfl, ev_c⟩, ⟨rfl, (ev_t rfl)⟩, trivial⟩ plc_36 zero_36 rfl) ?_
  refine WL.val rfl rfl rfl rfl (r_build (cs := #[_, _, _, _, _, _]) (vs := [(0, _), (2, _)]) rfl ⟨⟨rfl, ev_c⟩, ⟨rfl, ev_c⟩, trivial⟩ plc_36 zero_36 rfl) ?_
  refine WL.cons (SO.alloc rfl rfl rfl rfl (r_buildSlice66 rfl (ev_t rfl) (ev_t rfl) row_34) ?_)
  intro w2 hu2 hk2 hz9
  change Blk _ _ #[.int .u8 11, Sv [], .int .i64 0, .bool false, .slice none 0 0, .slice (some ⟨w.heap.size, 0, none⟩) 2 2, .int .u8 1, Sv [], .int .i64 1, .bool false, .slice none 0 0, .slice none 0 0] _ at hk2
  have hs2 := hu2.size
  replace hU := hU.transA hu2
  replace hk1 := hk1.upd hu2 (by exact (fun h => h))
  refine WL.val rfl rfl rfl rfl (r_build (cs := #[_, _, _, _, _, _]) (vs := [(0, _), (1, _), (5, _)]) rfl ⟨⟨rfl, ev_c⟩, ⟨rfl, ev_c⟩, ⟨rfl, (ev_t rfl)⟩, trivial⟩ plc_36 zero_36 rfl) ?_
  refine WL.cons (SO.alloc rfl rfl rfl rfl (r_alloc rfl zero_36) ?_)
  intro w3 hu3 hB3 hz3
  have hs3 := hu3.size
  replace hU := hU.transA hu3
  replace hk1 := hk1.upd hu3 (by exact (fun h => h))
  replace hk2 := hk2.upd hu3 (by exact (fun h => h))
  refine WL.cons (SO.storeAll (us := [_, _, _, _, _, _]) rfl (ev_t rfl) (ev_t rfl) size_36 hB3 rfl rfl rfl rfl rfl ?_)
  intro w4 hu4 hB3 hz4
  have hs4 := hu4.size
  replace hU := hU.transA hu4
  replace hk1 := hk1.upd hu4 (by (simp only [At]; omega))
  replace hk2 := hk2.upd hu4 (by (simp only [At]; omega))
  refine WL.nil (WX.keep [(1, _)] ⟨rfl, trivial⟩ ?_)
  have hx := hB3
  change Blk _ _ #[.int .u8 17, Sv [43], .int .i64 0, .bool false, .slice none 0 0, .slice (some ⟨w1.heap.size, 0, none⟩) 2 2] _ at hx
  refine WX.next (WC.seq (WC.region (WL.val rfl rfl rfl rfl (r_build (cs := #[_, _, _]) (vs := [(1, _)]) rfl ⟨⟨rfl, ev_c⟩, trivial⟩ plc_24 zero_24 rfl) ?_)))
  refine WL.val rfl rfl rfl rfl (r_build (cs := #[_, _, _]) (vs := [(1, _)]) rfl ⟨⟨rfl, ev_c⟩, trivial⟩ plc_24 zero_24 rfl) ?_
  refine WL.cons (SO.alloc rfl rfl rfl rfl (r_buildSlice33 rfl (ev_t rfl) (ev_t rfl) row_22) ?_)
  intro w5 hu5 ht1 hz9
  obtain ⟨q1, hq1⟩ : ∃ q, w4.heap.size = q := ⟨_, rfl⟩
  rw [hq1] at ht1 ⊢
  change Blk _ _ #[Sv [], .int .i64 1, .slice none 0 0, Sv [], .int .i64 2, .slice none 0 0] _ at ht1
  have hs5 := hu5.size
  replace hU := hU.transA hu5
  replace hk1 := hk1.upd hu5 (by exact (fun h => h))
  replace hk2 := hk2.upd hu5 (by exact (fun h => h))
  replace hx := hx.upd hu5 (by exact (fun h => h))
  refine WL.val rfl rfl rfl rfl (r_build (cs := #[_, _, _]) (vs := [(0, _), (2, _)]) rfl ⟨⟨rfl, ev_c⟩, ⟨rfl, (ev_t rfl)⟩, trivial⟩ plc_24 zero_24 rfl) ?_
  refine WL.val rfl rfl rfl rfl (r_build (cs := #[_, _, _]) (vs := [(1, _)]) rfl ⟨⟨rfl, ev_c⟩, trivial⟩ plc_24 zero_24 rfl) ?_
  refine WL.cons (SO.alloc rfl rfl rfl rfl (r_buildSlice (cs := #[_, _, _]) (vs := [(0, _)]) rfl ⟨⟨rfl, (ev_t rfl)⟩, trivial⟩ row_22 rfl rfl) ?_)
  intro w6 hu6 hB6 hz6
  have hs6 := hu6.size
  replace hU := hU.transA hu6
  replace hk1 := hk1.upd hu6 (by exact (fun h => h))
  replace hk2 := hk2.upd hu6 (by exact (fun h => h))
  replace hx := hx.upd hu6 (by exact (fun h => h))
  replace ht1 := ht1.upd hu6 (by exact (fun h => h))
  refine WL.val rfl rfl rfl rfl (r_build (cs := #[_, _, _]) (vs := [(0, _), (2, _)]) rfl ⟨⟨rfl, ev_c⟩, ⟨rfl, (ev_t rfl)⟩, trivial⟩ plc_24 zero_24 rfl) ?_
  have ht2 := hB6
  change Blk _ _ #[Sv [], .int .i64 1, .slice none 0 0] _ at ht2
  refine WL.cons (SO.alloc rfl rfl rfl rfl (r_buildSlice33 rfl (ev_t rfl) (ev_t rfl) row_22) ?_)
  intro w7 hu7 ht3 hz9
  obtain ⟨q3, hq3⟩ : ∃ q, w6.heap.size = q := ⟨_, rfl⟩
  rw [hq3] at ht3 ⊢
  change Blk _ _ #[Sv [45, 62], .int .i64 0, .slice (some ⟨q1, 0, none⟩) 2 2, Sv [108, 105, 115, 116], .int .i64 0, .slice (some ⟨w5.heap.size, 0, none⟩) 1 1] _ at ht3
  have hs7 := hu7.size
  replace hU := hU.transA hu7
  replace hk1 := hk1.upd hu7 (by exact (fun h => h))
  replace hk2 := hk2.upd hu7 (by exact (fun h => h))
  replace hx := hx.upd hu7 (by exact (fun h => h))
  replace ht1 := ht1.upd hu7 (by exact (fun h => h))
  replace ht2 := ht2.upd hu7 (by exact (fun h => h))
  refine WL.val rfl rfl rfl rfl (r_build (cs := #[_, _, _]) (vs := [(0, _), (2, _)]) rfl ⟨⟨rfl, ev_c⟩, ⟨rfl, (ev_t rfl)⟩, trivial⟩ plc_24 zero_24 rfl) ?_
  refine WL.cons (SO.alloc rfl rfl rfl rfl (r_alloc rfl zero_24) ?_)
  intro w8 hu8 hB8 hz8
  have hs8 := hu8.size
  replace hU := hU.transA hu8
  replace hk1 := hk1.upd hu8 (by exact (fun h => h))
  replace hk2 := hk2.upd hu8 (by exact (fun h => h))
  replace hx := hx.upd hu8 (by exact (fun h => h))
  replace ht1 := ht1.upd hu8 (by exact (fun h => h))
  replace ht2 := ht2.upd hu8 (by exact (fun h => h))
  replace ht3 := ht3.upd hu8 (by exact (fun h => h))
  refine WL.cons (SO.storeAll (us := [_, _, _]) rfl (ev_t rfl) (ev_t rfl) size_24 hB8 rfl rfl rfl rfl rfl ?_)
  intro w9 hu9 hB8 hz9
  have hs9 := hu9.size
  replace hU := hU.transA hu9
  replace hk1 := hk1.upd hu9 (by (simp only [At]; omega))
  replace hk2 := hk2.upd hu9 (by (simp only [At]; omega))
  replace hx := hx.upd hu9 (by (simp only [At]; omega))
  replace ht1 := ht1.upd hu9 (by (simp only [At]; omega))
  replace ht2 := ht2.upd hu9 (by (simp only [At]; omega))
  replace ht3 := ht3.upd hu9 (by (simp only [At]; omega))
  refine WL.nil (WX.keep [(1, _), (2, _)] ⟨rfl, rfl, trivial⟩ ?_)
  have hy := hB8
  change Blk _ _ #[Sv [45, 62], .int .i64 0, .slice (some ⟨q3, 0, none⟩) 2 2] _ at hy
  refine WX.next (WC.seq (WC.region (WL.val rfl rfl rfl rfl (r_loadAgg (vs := [_, _, _, _, _, _]) rfl (ev_t rfl) agg_36 size_36 (Blk.cellsL hx)) ?_)))
  have hPw := hP.upd hU (fun k _ h => h)
  have hX0 : EP w9 [.int .u8 11, Sv [], .int .i64 0, .bool false, .slice none 0 0, .slice (some ⟨w.heap.size, 0, none⟩) 2 2] ([40] ++ ([102] ++ [32] ++ [120]) ++ [41]) :=
    EP.wide (.inl rfl) (WP.app (x1 := [.int .u8 5, Sv [120], .int .i64 0, .bool false, .slice none 0 0, .slice none 0 0]) (Rd.of_blk (F := At _) (n := 2) (sz := 6) hk1 rfl rfl (by omega)) ⟨rfl, rfl⟩ EP.var EP.var (by simp) (by simp)) (by simp)
  have hX1 : EP w9 [.int .u8 1, Sv [], .int .i64 1, .bool false, .slice none 0 0, .slice none 0 0] [49] := by
    have h := EP.int (W := w9) (n := 1) (a1 := Sv []) (a3 := .bool false) (a4 := .slice none 0 0) (a5 := .slice none 0 0) (by simp only [inK]; omega) hPw
    rw [show Lib.itoa 1 = [49] by unfold Lib.itoa; rw [if_neg (by decide)]; exact decD_small (u := 1) (by decide)] at h
    exact h
  have hX : EP w9 [.int .u8 17, Sv [43], .int .i64 0, .bool false, .slice none 0 0, .slice (some ⟨w1.heap.size, 0, none⟩) 2 2] [40, 40, 102, 32, 120, 41, 32, 43, 32, 49, 41] :=
    EP.wide (s := [40, 102, 32, 120, 41, 32, 43, 32, 49]) (.inr rfl) (WP.op (t := [43]) (X := [[.int .u8 11, Sv [], .int .i64 0, .bool false, .slice none 0 0, .slice (some ⟨w.heap.size, 0, none⟩) 2 2], [.int .u8 1, Sv [], .int .i64 1, .bool false, .slice none 0 0, .slice none 0 0]]) (S := [[40] ++ ([102] ++ [32] ++ [120]) ++ [41], [49]]) (Rd.of_blk (F := At _) (n := 2) (sz := 6) hk2 rfl rfl (by omega))
      (fun x hx => by simp only [List.mem_cons, List.not_mem_nil, or_false] at hx; rcases hx with rfl | rfl <;> exact ⟨rfl, rfl⟩) rfl (fun i x s h1 h2 => by
        match i, h1, h2 with
        | 0, h1, h2 => (injection h1 with h1; injection h2 with h2; subst h1 h2; exact hX0)
        | 1, h1, h2 => (injection h1 with h1; injection h2 with h2; subst h1 h2; exact hX1)
        | i + 2, h1, h2 => simp at h1) (by decide) (by simp) (by decide)) (by decide)
  refine WL.cons (SO.call (hX _ (Upd.refl _ _)) rfl body_28 ⟨(ev_t rfl), trivial⟩ rfl rfl rfl rfl ?_)
  rintro v9 w10 ⟨rfl, hu10⟩
  have hs10 := hu10.size
  replace hU := hU.transA hu10
  replace hk1 := hk1.upd hu10 (by exact (fun h => h))
  replace hk2 := hk2.upd hu10 (by exact (fun h => h))
  replace hx := hx.upd hu10 (by exact (fun h => h))
  replace ht1 := ht1.upd hu10 (by exact (fun h => h))
  replace ht2 := ht2.upd hu10 (by exact (fun h => h))
  replace ht3 := ht3.upd hu10 (by exact (fun h => h))
  replace hy := hy.upd hu10 (by exact (fun h => h))
  refine WL.val rfl rfl rfl rfl (r_eqlStrL rfl (ev_t rfl) ev_c) ?_
  refine WL.val rfl rfl rfl rfl (r_move rfl (ev_t rfl)) ?_
  refine WL.cases 22 rfl (fun hb3_3 => ?_) (fun hb3_3 => ?_)
  · try simp only [cS, ne_eq, Decidable.not_not] at hb3_3
    refine WL.val rfl rfl rfl rfl (r_loadAgg (vs := [_, _, _]) rfl (ev_t rfl) agg_24 size_24 (Blk.cellsL hy)) ?_
    have hPw := hP.upd hU (fun k _ h => h)
    have hT : TPr w10 [Sv [45, 62], .int .i64 0, .slice (some ⟨q3, 0, none⟩) 2 2] 0 [40, 39, 97, 32, 45, 62, 32, 39, 98, 41, 32, 45, 62, 32, 39, 97, 32, 108, 105, 115, 116] :=
      TPr.arrow (s0 := [40, 39, 97, 32, 45, 62, 32, 39, 98, 41]) (s1 := [39, 97, 32, 108, 105, 115, 116]) (x0 := [Sv [45, 62], .int .i64 0, .slice (some ⟨q1, 0, none⟩) 2 2]) (x1 := [Sv [108, 105, 115, 116], .int .i64 0, .slice (some ⟨w5.heap.size, 0, none⟩) 1 1]) (Rd.of_blk (F := At _) (n := 2) (sz := 3) ht3 rfl rfl (by omega)) rfl rfl
        (TPr.arrow (s0 := [39, 97]) (s1 := [39, 98]) (x0 := [Sv [], .int .i64 1, .slice none 0 0]) (x1 := [Sv [], .int .i64 2, .slice none 0 0]) (Rd.of_blk (F := At _) (n := 2) (sz := 3) ht1 rfl rfl (by omega)) rfl rfl (TPr.var (n := 1) (by simp only [inK]; omega) hPw) (TPr.var (n := 2) (by simp only [inK]; omega) hPw) (by decide) (by decide))
        (TPr.one (s0 := [39, 97]) (x0 := [Sv [], .int .i64 1, .slice none 0 0]) (Rd.of_blk (F := At _) (n := 1) (sz := 3) ht2 rfl rfl (by omega)) rfl (TPr.var (n := 1) (by simp only [inK]; omega) hPw) (by decide) (by decide) (by decide) (by decide)) (by decide) (by decide)
    refine WL.cons (SO.call (Type_ok hT rfl) rfl body_13 ⟨(ev_t rfl), trivial⟩ rfl rfl rfl rfl ?_)
    rintro v9 w11 ⟨rfl, hu11⟩
    have hs11 := hu11.size
    replace hU := hU.transA hu11
    replace hk1 := hk1.upd hu11 (by exact (fun h => h))
    replace hk2 := hk2.upd hu11 (by exact (fun h => h))
    replace hx := hx.upd hu11 (by exact (fun h => h))
    replace ht1 := ht1.upd hu11 (by exact (fun h => h))
    replace ht2 := ht2.upd hu11 (by exact (fun h => h))
    replace ht3 := ht3.upd hu11 (by exact (fun h => h))
    replace hy := hy.upd hu11 (by exact (fun h => h))
    refine WL.val rfl rfl rfl rfl (r_eqlStrL rfl (ev_t rfl) ev_c) ?_
    refine WL.val rfl rfl rfl rfl (r_pickT rfl (ev_t rfl) (ev_t rfl)) ?_
    refine WL.val rfl rfl rfl rfl (r_assign rfl (ev_t rfl)) ?_
    refine WL.nil (WX.keep [(0, _)] ⟨rfl, trivial⟩ (WX.next (WC.ret (WX.retE1 rfl rfl ?_))))
    exact ⟨by simp, hU⟩
  · try simp only [cS, ne_eq, Decidable.not_not] at hb3_3
    exfalso
    simp at hb3_3
end Go.Proofs.YtomkdhkkggbioaaGreatDoor

/-
 Law 05: small.
-/
namespace Go.Proofs.YtomkdhkkggbioaaGreatDoor
open Go
set_option linter.unusedSimpArgs false
set_option linter.unusedVariables false

theorem flat3_get : ∀ {X : List (List Value)} {i j : Nat} {x : List Value} {u : Value}, (∀ x ∈ X, x.length = 3) → X[i]? = some x → x[j]? = some u → (X.flatMap id)[i * 3 + j]? = some u
 | [], _, _, _, _, _, h, _ => by simp at h
 | a :: l, 0, j, b, u, hl, h, hu => by
  simp only [List.getElem?_cons_zero, Option.some.injEq] at h
  subst h
  have hj : j < a.length := (List.getElem?_eq_some_iff.1 hu).1
  rw [List.flatMap_cons, Nat.zero_mul, Nat.zero_add, id, List.getElem?_append_left hj]
  exact hu
 | a :: l, i + 1, j, b, u, hl, h, hu => by
  have h8 := hl a (by simp)
  rw [List.flatMap_cons, id, List.getElem?_append_right (by omega), h8, show (i + 1) * 3 + j - 3 = i * 3 + j by omega]
  exact flat3_get (fun x hx => hl x (by simp [hx])) (i := i) (by simpa using h) hu
end Go.Proofs.YtomkdhkkggbioaaGreatDoor

/-
  print: types joined; products, names, names behind several types.
-/
namespace Go.Proofs.YtomkdhkkggbioaaGreatDoor
open Go
set_option linter.unusedSimpArgs false
set_option linter.unusedVariables false

def one3 (x : List Value) : Prop := x.length = 3 ∧ x.all Value.oneCell' = true
/-- a type prints so by a function of one argument -/
def FP (W : World) (fid : FuncId) (x : List Value) (s : List UInt8) : Prop := ∀ w', Upd No W w' → Ret Tryz.prog fid #[.agg x.toArray] w' fun u w'' => u = Sv s ∧ Upd No w' w''
set_option maxHeartbeats 2000000 in
theorem joinT_ok {w : World} {F : Nat → Prop} {kv : Value} {X : List (List Value)} {S : List (List UInt8)} {sep : List UInt8} {fid : FuncId} (hf : hasBody Tryz.prog fid = true) (hr : Rd w F kv X.length 3 (X.flatMap id)) (hX : ∀ x ∈ X, one3 x) (hS : S.length = X.length) (hE : ∀ (i : Nat) x s, X[i]? = some x → S[i]? = some s → FP w fid x s) (hlen : (Lib.join S sep).length ≤ 140737488355328) (hn : X.length ≤ 1000000) :
    Ret Tryz.prog 52 #[kv, .func (.func fid) #[] #[], Sv sep] w fun u w' => u = Sv (Lib.join S sep) ∧ Upd No w w' := by
  obtain ⟨A, c, rfl, hc⟩ := hr.slice_form
  refine enterRet (vs := [_, _, _]) (N := 26) Tryz.func52 rfl rfl rfl ?_
  have hU := Upd.refl No w
  refine WC.keep [(0, _), (1, _), (2, _)] ⟨rfl, rfl, rfl, trivial⟩ (WC.seq (WC.region (WL.val rfl rfl rfl rfl (r_assign rfl ev_c) ?_)))
  refine WL.nil (WX.keep [(0, _), (1, _), (2, _)] ⟨rfl, rfl, rfl, trivial⟩ (WX.next (WC.seq (WC.region (WL.val rfl rfl rfl rfl (r_assign rfl ev_c) ?_)))))
  refine WL.nil (WX.keep [(0, _), (1, _), (2, _), (7, _)] ⟨rfl, rfl, rfl, rfl, trivial⟩ (WX.next (WC.seq (WC.seq (WC.region (WL.val rfl rfl rfl rfl (r_move rfl (ev_t rfl)) ?_))))))
  refine WL.val rfl rfl rfl rfl (r_lenSlice (ts := #[]) rfl (ev_t rfl) elem_22) ?_
  refine WL.val rfl rfl rfl rfl (r_move rfl ev_c) ?_
  refine WL.nil (WX.keep [(1, _), (2, _), (7, _), (10, _), (11, _), (12, _)] ⟨rfl, rfl, rfl, rfl, rfl, rfl, trivial⟩ (WX.next (WC.block ?_)))
  -- loop 1: live [1, 2, 7, 10, 11, 12]
  refine WC.keep [(1, _), (2, _), (7, _), (10, _), (11, _), (12, _)] ⟨rfl, rfl, rfl, rfl, rfl, rfl, trivial⟩ (WC.loop (fun qq E wC => ∃ (j : Nat) (v1 : Value) (G : Nat → Prop), j ≤ X.length ∧ qq = X.length - j ∧ Upd No w wC ∧ Own wC G 9 1 v1 j ((S.take j).map Sv) ∧ (∀ k, G k → w.heap.size ≤ k ∧ k < wC.heap.size) ∧ E = [(1, .func (.func fid) #[] #[]), (2, Sv sep), (7, v1), (10, .slice A X.length c), (11, .int .i64 (X.length : Int)), (12, .int .i64 (j : Int))]) (X.length) ?_ ?_)
  · exact ⟨0, .slice none 0 0, fun _ => False, by omega, by omega, hU, Own.nil _ _ _ _, fun k h => h.elim, rfl⟩
  · clear hU
    rintro qq E wC ⟨j, v1, G, hj, rfl, hU, ho, hG, rfl⟩
    obtain ⟨Ao, co, rfl, hco⟩ := Own.form ho
    have hUs := hU.size
    refine WC.seq (WC.region (WL.val rfl rfl rfl rfl (r_lss rfl (ev_t rfl) (ev_t rfl)) ?_))
    refine WL.nil (WX.keep [(1, _), (2, _), (7, _), (10, _), (11, _), (12, _), (13, _)] ⟨rfl, rfl, rfl, rfl, rfl, rfl, rfl, trivial⟩ (WX.next (WC.seq (WC.cond rfl (ev_t rfl) (fun hc3 => ?_) (fun hc3 => ?_)))))
    · try simp only [cS, ne_eq, Decidable.not_not] at hc3
      have hjl : j < X.length := by omega
      have hgj : X[j]? = some X[j] := List.getElem?_eq_getElem hjl
      have hmj := hX X[j] (List.getElem_mem hjl)
      have hgs : S[j]? = some (S[j]'(by omega)) := List.getElem?_eq_getElem (by omega)
      have hEj := hE j _ _ hgj hgs
      generalize X[j] = x at hgj hmj hEj
      generalize S[j]'(by omega) = s at hgs hEj
      obtain ⟨x0, x1, x2, rfl⟩ := len3e hmj.1
      obtain ⟨b0, off, rfl, _⟩ := hr.open (by omega)
      refine WC.skip (WX.next (WC.seq (WC.block (WC.seq (WC.region (WL.val rfl rfl rfl rfl (r_indexAddr rfl (ev_t rfl) (ev_t rfl) elem_22 size_24 (by omega) (by omega)) ?_))))))
      refine WL.val rfl rfl rfl rfl (r_loadAgg (vs := [_, _, _]) rfl (ev_t rfl) agg_24 size_24 (Rd.cellsL (us := [x0, x1, x2]) (hr.upd hU (fun _ _ _ h => h)) (i := j * 3) (by omega) (fun q v hv => flat3_get (fun x hx => (hX x hx).1) hgj hv))) ?_
      refine WL.cons (SO.alloc rfl rfl rfl rfl (r_alloc rfl zero_24) ?_)
      intro w1 hu1 hB1 hz1
      have hs1 := hu1.size
      replace hU := hU.trans hu1 (by exact (fun _ _ h => h))
      replace ho := ho.upd hu1 (by exact (fun _ _ _ h => h))
      refine WL.cons (SO.storeAll (us := [x0, x1, x2]) rfl (ev_t rfl) (ev_t rfl) size_24 hB1 rfl hmj.2 rfl rfl rfl ?_)
      intro w2 hu2 hxB hz9
      have hs2 := hu2.size
      replace hU := hU.trans hu2 (by (intro k hl hk; (try simp only [At, New, Grow, From, No] at hk ⊢); omega))
      replace ho := ho.upd hu2 (by (intro k hk hl hS; simp only [At] at hS; have := hG k hk; omega))
      refine WL.nil (WX.keep [(1, _), (2, _), (7, _), (9, _), (10, _), (11, _), (12, _)] ⟨rfl, rfl, rfl, rfl, rfl, rfl, rfl, trivial⟩ (WX.next (WC.region (WL.val rfl rfl rfl rfl (r_move rfl (ev_t rfl)) ?_))))
      refine WL.val rfl rfl rfl rfl (r_move rfl (ev_t rfl)) ?_
      refine WL.val rfl rfl rfl rfl (r_loadAgg (vs := [_, _, _]) rfl (ev_t rfl) agg_24 size_24 (Blk.cellsL hxB)) ?_
      refine WL.cons (SO.callV (vs := [_]) rfl (ev_t rfl) (hf) ⟨(ev_t rfl), trivial⟩ rfl (hEj _ hU) rfl rfl rfl rfl ?_)
      rintro v9 w3 ⟨rfl, hu3⟩
      have hs3 := hu3.size
      replace hU := hU.trans hu3 (by exact (fun _ _ h => h))
      replace ho := ho.upd hu3 (by exact (fun _ _ _ h => h))
      replace hxB := hxB.upd hu3 (by exact (fun h => h))
      refine WL.cons (SO.alloc rfl rfl rfl rfl (r_buildSlice1 (vs := [_]) rfl ⟨(ev_t rfl), trivial⟩ rfl row_66 rfl rfl) ?_)
      intro w4 hu4 hB4 hz4
      have hs4 := hu4.size
      replace hU := hU.trans hu4 (by exact (fun _ _ h => h))
      replace ho := ho.upd hu4 (by exact (fun _ _ _ h => h))
      replace hxB := hxB.upd hu4 (by exact (fun h => h))
      refine WL.cons (SO.append ho (Rd.of_blk (F := At _) (n := 1) (sz := 1) hB4 rfl rfl (by omega)) row_66 (by intro u hu; simp at hu; subst hu; rfl) (le_maxLen (by omega)) (by omega) rfl (ev_t rfl) (ev_t rfl) rfl rfl rfl rfl ?_)
      intro v5 w5 ho hu5
      have hs5 := hu5.size
      replace hU := hU.trans hu5 (by (intro k hl hk; first | exact hk.elim | (simp only [At] at hk; omega) | (have := hG k hk; omega)))
      replace hxB := hxB.upd hu5 (by (intro h; have := hG _ h; omega))
      obtain ⟨A5, c5, rfl, hc5⟩ := Own.form ho
      have hs9 := hu5.size
      have hG2 : ∀ k, Grow G w4 w5 k → w.heap.size ≤ k ∧ k < w5.heap.size := fun k hk => by
        rcases hk with h | h
        · have := hG k h; omega
        · omega
      generalize Grow G w4 w5 = G4 at ho hG2
      refine WL.val rfl rfl rfl rfl (r_assign rfl (ev_t rfl)) ?_
      refine WL.nil (WX.keep [(1, _), (2, _), (7, _), (10, _), (11, _), (12, _)] ⟨rfl, rfl, rfl, rfl, rfl, rfl, trivial⟩ (WX.blockNormal (WX.next (WC.region (WL.val rfl rfl rfl rfl (r_addN rfl (ev_t rfl) ev_c (by simp only [inK]; omega)) ?_)))))
      refine WL.val rfl rfl rfl rfl (r_move rfl (ev_t rfl)) ?_
      refine WL.nil (WX.keep [(1, _), (2, _), (7, _), (10, _), (11, _), (12, _)] ⟨rfl, rfl, rfl, rfl, rfl, rfl, trivial⟩ (WX.meet [(1, _), (2, _), (7, _), (10, _), (11, _), (12, _)] ⟨rfl, rfl, rfl, rfl, rfl, rfl, trivial⟩ ?_))
      exact ⟨X.length - (j + 1), by omega, j + 1, _, G4, by omega, rfl, hU, by rw [List.take_add_one, hgs, List.map_append]; exact ho, hG2, rfl⟩
    · try simp only [cS, ne_eq, Decidable.not_not] at hc3
      obtain rfl : j = X.length := by omega
      rw [List.take_of_length_le (by omega)] at ho
      rw [← hS] at ho ⊢
      refine WC.exit (WX.thenExit (WX.thenExit (WX.blockHere (WX.next (WC.seq (WC.region (WL.val rfl rfl rfl rfl (r_move rfl (ev_t rfl)) ?_)))))))
      refine WL.val rfl rfl rfl rfl (r_move rfl (ev_t rfl)) ?_
      refine WL.cons (SO.call (sjoin_ok (ho.rd (by omega)) hlen) rfl body_40 ⟨(ev_t rfl), (ev_t rfl), trivial⟩ rfl rfl rfl rfl ?_)
      rintro v9 w6 ⟨rfl, hu6⟩
      have hs6 := hu6.size
      replace hU := hU.trans hu6 (by exact (fun _ _ h => h))
      replace ho := ho.upd hu6 (by exact (fun _ _ _ h => h))
      refine WL.val rfl rfl rfl rfl (r_assign rfl (ev_t rfl)) ?_
      refine WL.nil (WX.keep [(6, _)] ⟨rfl, trivial⟩ (WX.next (WC.ret (WX.retE1 rfl rfl ?_))))
      exact ⟨rfl, hU⟩

theorem FP.one {W : World} {x : List Value} {s : List UInt8} (hx : one3 x) (h : TPr W x 2 s) : FP W 53 x s := by
  obtain ⟨x0, x1, x2, rfl⟩ := len3e hx.1
  intro w hw
  refine enterRet (vs := [_]) (N := 5) Tryz.func53 rfl rfl rfl ?_
  have hU := Upd.refl No w
  refine WC.keep [(0, _)] ⟨rfl, trivial⟩ (WC.seq (WC.region (WL.cons (SO.alloc rfl rfl rfl rfl (r_boxAgg rfl (ev_t rfl)) ?_))))
  intro w1 hu1 hB1 hz1
  have hs1 := hu1.size
  replace hU := hU.transA hu1
  refine WL.val rfl rfl rfl rfl (r_assign rfl ev_c) ?_
  refine WL.nil (WX.keep [(1, _)] ⟨rfl, trivial⟩ ?_)
  have hb := hB1
  change Blk _ _ #[x0, x1, x2] _ at hb
  refine WX.next (WC.seq (WC.region (WL.val rfl rfl rfl rfl (r_loadAgg (vs := [_, _, _]) rfl (ev_t rfl) agg_24 size_24 (Blk.cellsL hb)) ?_)))
  refine WL.cons (SO.call (h _ (hw.trans_same hU)) rfl body_29 ⟨(ev_t rfl), ev_c, trivial⟩ rfl rfl rfl rfl ?_)
  rintro v9 w2 ⟨rfl, hu2⟩
  have hs2 := hu2.size
  replace hU := hU.transA hu2
  replace hB1 := hB1.updA hu2
  refine WL.val rfl rfl rfl rfl (r_assign rfl (ev_t rfl)) ?_
  refine WL.nil (WX.keep [(2, _)] ⟨rfl, trivial⟩ (WX.next (WC.ret (WX.retE1 rfl rfl ?_))))
  exact ⟨rfl, hU⟩
theorem FP.two {W : World} {x : List Value} {s : List UInt8} (hx : one3 x) (h : TPr W x 0 s) : FP W 54 x s := by
  obtain ⟨x0, x1, x2, rfl⟩ := len3e hx.1
  intro w hw
  refine enterRet (vs := [_]) (N := 5) Tryz.func54 rfl rfl rfl ?_
  have hU := Upd.refl No w
  refine WC.keep [(0, _)] ⟨rfl, trivial⟩ (WC.seq (WC.region (WL.cons (SO.alloc rfl rfl rfl rfl (r_boxAgg rfl (ev_t rfl)) ?_))))
  intro w1 hu1 hB1 hz1
  have hs1 := hu1.size
  replace hU := hU.transA hu1
  refine WL.val rfl rfl rfl rfl (r_assign rfl ev_c) ?_
  refine WL.nil (WX.keep [(1, _)] ⟨rfl, trivial⟩ ?_)
  have hb := hB1
  change Blk _ _ #[x0, x1, x2] _ at hb
  refine WX.next (WC.seq (WC.region (WL.val rfl rfl rfl rfl (r_loadAgg (vs := [_, _, _]) rfl (ev_t rfl) agg_24 size_24 (Blk.cellsL hb)) ?_)))
  refine WL.cons (SO.call (h _ (hw.trans_same hU)) rfl body_29 ⟨(ev_t rfl), ev_c, trivial⟩ rfl rfl rfl rfl ?_)
  rintro v9 w2 ⟨rfl, hu2⟩
  have hs2 := hu2.size
  replace hU := hU.transA hu2
  replace hB1 := hB1.updA hu2
  refine WL.val rfl rfl rfl rfl (r_assign rfl (ev_t rfl)) ?_
  refine WL.nil (WX.keep [(2, _)] ⟨rfl, trivial⟩ (WX.next (WC.ret (WX.retE1 rfl rfl ?_))))
  exact ⟨rfl, hU⟩
end Go.Proofs.YtomkdhkkggbioaaGreatDoor

/-
 print.Type: any small type.
-/
namespace Go.Proofs.YtomkdhkkggbioaaGreatDoor
open Go
set_option linter.unusedSimpArgs false
set_option linter.unusedVariables false

theorem TPr.name {W : World} {A : Option Addr} {c : Nat} {about : Int} {nm : List UInt8} {m : Value} (hn0 : nm ≠ []) (hn1 : nm ≠ [42]) : TPr W [Sv nm, m, .slice A 0 c] about nm := by
 intro w hw
 refine enterRet (vs := [_, _]) (N := 79) Tryz.func29 rfl rfl rfl ?_
 have hU := Upd.refl No w
 refine WC.keep [(0, _), (1, _)] ⟨rfl, rfl, trivial⟩ (WC.seq (WC.region (WL.cons (SO.alloc rfl rfl rfl rfl (r_boxAgg rfl (ev_t rfl)) ?_))))
 intro w1 hu1 hB1 hz1
 have hs1 := hu1.size
 replace hU := hU.transA hu1
 refine WL.val rfl rfl rfl rfl (r_assign rfl ev_c) ?_
 refine WL.nil (WX.keep [(1, _), (2, _)] ⟨rfl, rfl, trivial⟩ ?_)
 have hb := hB1
 change Blk _ _ #[Sv nm, m, .slice A 0 c] _ at hb
 refine WX.next (WC.seq (WC.region (WL.val rfl rfl rfl rfl (r_assign rfl ev_c) ?_)))
 refine WL.val rfl rfl rfl rfl (r_assign rfl ev_c) ?_
 refine WL.nil (WX.keep [(1, _), (2, _)] ⟨rfl, rfl, trivial⟩ (WX.next (WC.seq (WC.block (WC.seq (WC.region (WL.val rfl rfl rfl rfl (r_field0 rfl (ev_t rfl) fld_24_0) ?_)))))))
 refine WL.val rfl rfl rfl rfl (r_load rfl (ev_t rfl) flat_9 (Blk.cell hb rfl)) ?_
 refine WL.val rfl rfl rfl rfl (r_eqlStrL rfl (ev_t rfl) ev_c) ?_
 refine WL.val rfl rfl rfl rfl (r_assign rfl (ev_t rfl)) ?_
 refine WL.nil (WX.keep [(1, _), (2, _), (15, _)] ⟨rfl, rfl, rfl, trivial⟩ (WX.next (WC.cond rfl (ev_t rfl) (fun hc3 => ?_) (fun hc3 => ?_))))
 ·try simp only [cS, ne_eq, Decidable.not_not] at hc3
  exfalso
  exact hn0 (by simpa using hc3)
 ·try simp only [cS, ne_eq, Decidable.not_not] at hc3
  refine WC.seq (WC.region (WL.val rfl rfl rfl rfl (r_field0 rfl (ev_t rfl) fld_24_0) ?_))
  refine WL.val rfl rfl rfl rfl (r_load rfl (ev_t rfl) flat_9 (Blk.cell hb rfl)) ?_
  refine WL.val rfl rfl rfl rfl (r_eqlStrL rfl (ev_t rfl) ev_c) ?_
  refine WL.val rfl rfl rfl rfl (r_move rfl (ev_t rfl)) ?_
  refine WL.cases 26 rfl (fun hb5_3 => ?_) (fun hb5_3 => ?_)
  ·try simp only [cS, ne_eq, Decidable.not_not] at hb5_3
   refine WL.val rfl rfl rfl rfl (r_field0 rfl (ev_t rfl) fld_24_2) ?_
   refine WL.val rfl rfl rfl rfl (r_load rfl (ev_t rfl) flat_22 (Blk.cell hb rfl)) ?_
   refine WL.val rfl rfl rfl rfl (r_lenSlice (ts := #[]) rfl (ev_t rfl) elem_22) ?_
   refine WL.val rfl rfl rfl rfl (r_eql rfl (ev_t rfl) ev_c) ?_
   refine WL.val rfl rfl rfl rfl (r_pickT rfl (ev_t rfl) (ev_t rfl)) ?_
   refine WL.val rfl rfl rfl rfl (r_assign rfl (ev_t rfl)) ?_
   refine WL.nil (WX.keep [(1, _), (2, _), (22, _)] ⟨rfl, rfl, rfl, trivial⟩ (WX.next (WC.cond rfl (ev_t rfl) (fun hc5 => ?_) (fun hc5 => ?_))))
   ·exfalso; (simp at hc5; done)
   ·try simp only [cS, ne_eq, Decidable.not_not] at hc5
    refine WC.seq (WC.region (WL.val rfl rfl rfl rfl (r_field0 rfl (ev_t rfl) fld_24_0) ?_))
    refine WL.val rfl rfl rfl rfl (r_load rfl (ev_t rfl) flat_9 (Blk.cell hb rfl)) ?_
    refine WL.val rfl rfl rfl rfl (r_eqlStrL rfl (ev_t rfl) ev_c) ?_
    refine WL.val rfl rfl rfl rfl (r_assign rfl (ev_t rfl)) ?_
    refine WL.nil (WX.keep [(1, _), (2, _), (44, _)] ⟨rfl, rfl, rfl, trivial⟩ (WX.next (WC.cond rfl (ev_t rfl) (fun hc7 => ?_) (fun hc7 => ?_))))
    ·try simp only [cS, ne_eq, Decidable.not_not] at hc7
     exfalso
     exact hn1 (by simpa using hc7)
    ·try simp only [cS, ne_eq, Decidable.not_not] at hc7
     refine WC.seq (WC.region (WL.val rfl rfl rfl rfl (r_field0 rfl (ev_t rfl) fld_24_2) ?_))
     refine WL.val rfl rfl rfl rfl (r_load rfl (ev_t rfl) flat_22 (Blk.cell hb rfl)) ?_
     refine WL.val rfl rfl rfl rfl (r_lenSlice (ts := #[]) rfl (ev_t rfl) elem_22) ?_
     refine WL.val rfl rfl rfl rfl (r_eql rfl (ev_t rfl) ev_c) ?_
     refine WL.val rfl rfl rfl rfl (r_assign rfl (ev_t rfl)) ?_
     refine WL.nil (WX.keep [(2, _), (51, _)] ⟨rfl, rfl, trivial⟩ (WX.next (WC.cond rfl (ev_t rfl) (fun hc9 => ?_) (fun hc9 => ?_))))
     ·try simp only [cS, ne_eq, Decidable.not_not] at hc9
      refine WC.seq (WC.region (WL.val rfl rfl rfl rfl (r_field0 rfl (ev_t rfl) fld_24_0) ?_))
      refine WL.val rfl rfl rfl rfl (r_load rfl (ev_t rfl) flat_9 (Blk.cell hb rfl)) ?_
      refine WL.val rfl rfl rfl rfl (r_assign rfl (ev_t rfl)) ?_
      refine WL.nil (WX.keep [(4, _)] ⟨rfl, trivial⟩ (WX.next (WC.ret (WX.blockRet (WX.thenRet (WX.retE1 rfl rfl ?_))))))
      exact ⟨rfl, hU⟩
     ·exfalso; (simp at hc9; done)
  ·try simp only [cS, ne_eq, Decidable.not_not] at hb5_3
   refine WL.skip rfl rfl rfl (WL.skip rfl rfl rfl (WL.skip rfl rfl rfl (WL.skip rfl rfl rfl (WL.val rfl rfl rfl rfl (r_pickF rfl (ev_t rfl) ev_c) ?_))))
   refine WL.val rfl rfl rfl rfl (r_assign rfl (ev_t rfl)) ?_
   refine WL.nil (WX.keep [(1, _), (2, _), (22, _)] ⟨rfl, rfl, rfl, trivial⟩ (WX.next (WC.cond_false rfl (ev_t rfl) ?_)))
   refine WC.seq (WC.region (WL.val rfl rfl rfl rfl (r_field0 rfl (ev_t rfl) fld_24_0) ?_))
   refine WL.val rfl rfl rfl rfl (r_load rfl (ev_t rfl) flat_9 (Blk.cell hb rfl)) ?_
   refine WL.val rfl rfl rfl rfl (r_eqlStrL rfl (ev_t rfl) ev_c) ?_
   refine WL.val rfl rfl rfl rfl (r_assign rfl (ev_t rfl)) ?_
   refine WL.nil (WX.keep [(1, _), (2, _), (44, _)] ⟨rfl, rfl, rfl, trivial⟩ (WX.next (WC.cond rfl (ev_t rfl) (fun hc7 => ?_) (fun hc7 => ?_))))
   ·try simp only [cS, ne_eq, Decidable.not_not] at hc7
    exfalso
    exact hn1 (by simpa using hc7)
   ·try simp only [cS, ne_eq, Decidable.not_not] at hc7
    refine WC.seq (WC.region (WL.val rfl rfl rfl rfl (r_field0 rfl (ev_t rfl) fld_24_2) ?_))
    refine WL.val rfl rfl rfl rfl (r_load rfl (ev_t rfl) flat_22 (Blk.cell hb rfl)) ?_
    refine WL.val rfl rfl rfl rfl (r_lenSlice (ts := #[]) rfl (ev_t rfl) elem_22) ?_
    refine WL.val rfl rfl rfl rfl (r_eql rfl (ev_t rfl) ev_c) ?_
    refine WL.val rfl rfl rfl rfl (r_assign rfl (ev_t rfl)) ?_
    refine WL.nil (WX.keep [(2, _), (51, _)] ⟨rfl, rfl, trivial⟩ (WX.next (WC.cond rfl (ev_t rfl) (fun hc9 => ?_) (fun hc9 => ?_))))
    ·try simp only [cS, ne_eq, Decidable.not_not] at hc9
     refine WC.seq (WC.region (WL.val rfl rfl rfl rfl (r_field0 rfl (ev_t rfl) fld_24_0) ?_))
     refine WL.val rfl rfl rfl rfl (r_load rfl (ev_t rfl) flat_9 (Blk.cell hb rfl)) ?_
     refine WL.val rfl rfl rfl rfl (r_assign rfl (ev_t rfl)) ?_
     refine WL.nil (WX.keep [(4, _)] ⟨rfl, trivial⟩ (WX.next (WC.ret (WX.blockRet (WX.thenRet (WX.retE1 rfl rfl ?_))))))
     exact ⟨rfl, hU⟩
    ·exfalso; (simp at hc9; done)
theorem TPr.star {W : World} {F : Nat → Prop} {about : Int} {m kv : Value} {X : List (List Value)} {S : List (List UInt8)} (hr : Rd W F kv X.length 3 (X.flatMap id)) (hX : ∀ x ∈ X, one3 x) (hS : S.length = X.length) (hE : ∀ (i : Nat) x s, X[i]? = some x → S[i]? = some s → TPr W x 2 s) (hlen : (Lib.join S [32, 42, 32]).length ≤ 140000000000000) (hn : X.length ≤ 1000000) :
  TPr W [Sv [42], m, kv] about (brk (decide (1 < about)) (Lib.join S [32, 42, 32])) := by
 intro w hw
 refine enterRet (vs := [_, _]) (N := 79) Tryz.func29 rfl rfl rfl ?_
 have hU := Upd.refl No w
 refine WC.keep [(0, _), (1, _)] ⟨rfl, rfl, trivial⟩ (WC.seq (WC.region (WL.cons (SO.alloc rfl rfl rfl rfl (r_boxAgg rfl (ev_t rfl)) ?_))))
 intro w1 hu1 hB1 hz1
 have hs1 := hu1.size
 replace hU := hU.transA hu1
 refine WL.val rfl rfl rfl rfl (r_assign rfl ev_c) ?_
 refine WL.nil (WX.keep [(1, _), (2, _)] ⟨rfl, rfl, trivial⟩ ?_)
 have hb := hB1
 change Blk _ _ #[Sv [42], m, kv] _ at hb
 refine WX.next (WC.seq (WC.region (WL.val rfl rfl rfl rfl (r_assign rfl ev_c) ?_)))
 refine WL.val rfl rfl rfl rfl (r_assign rfl ev_c) ?_
 refine WL.nil (WX.keep [(1, _), (2, _)] ⟨rfl, rfl, trivial⟩ (WX.next (WC.seq (WC.block (WC.seq (WC.region (WL.val rfl rfl rfl rfl (r_field0 rfl (ev_t rfl) fld_24_0) ?_)))))))
 refine WL.val rfl rfl rfl rfl (r_load rfl (ev_t rfl) flat_9 (Blk.cell hb rfl)) ?_
 refine WL.val rfl rfl rfl rfl (r_eqlStrL rfl (ev_t rfl) ev_c) ?_
 refine WL.val rfl rfl rfl rfl (r_assign rfl (ev_t rfl)) ?_
 refine WL.nil (WX.keep [(1, _), (2, _), (15, _)] ⟨rfl, rfl, rfl, trivial⟩ (WX.next (WC.cond rfl (ev_t rfl) (fun hc3 => ?_) (fun hc3 => ?_))))
 ·try simp only [cS, ne_eq, Decidable.not_not] at hc3
  exfalso
  simp at hc3
 ·try simp only [cS, ne_eq, Decidable.not_not] at hc3
  refine WC.seq (WC.region (WL.val rfl rfl rfl rfl (r_field0 rfl (ev_t rfl) fld_24_0) ?_))
  refine WL.val rfl rfl rfl rfl (r_load rfl (ev_t rfl) flat_9 (Blk.cell hb rfl)) ?_
  refine WL.val rfl rfl rfl rfl (r_eqlStrL rfl (ev_t rfl) ev_c) ?_
  refine WL.val rfl rfl rfl rfl (r_move rfl (ev_t rfl)) ?_
  refine WL.cases 26 rfl (fun hb5_3 => ?_) (fun hb5_3 => ?_)
  ·try simp only [cS, ne_eq, Decidable.not_not] at hb5_3
   exfalso
   simp at hb5_3
  ·try simp only [cS, ne_eq, Decidable.not_not] at hb5_3
   refine WL.skip rfl rfl rfl (WL.skip rfl rfl rfl (WL.skip rfl rfl rfl (WL.skip rfl rfl rfl (WL.val rfl rfl rfl rfl (r_pickF rfl (ev_t rfl) ev_c) ?_))))
   refine WL.val rfl rfl rfl rfl (r_assign rfl (ev_t rfl)) ?_
   refine WL.nil (WX.keep [(1, _), (2, _), (22, _)] ⟨rfl, rfl, rfl, trivial⟩ (WX.next (WC.cond_false rfl (ev_t rfl) ?_)))
   refine WC.seq (WC.region (WL.val rfl rfl rfl rfl (r_field0 rfl (ev_t rfl) fld_24_0) ?_))
   refine WL.val rfl rfl rfl rfl (r_load rfl (ev_t rfl) flat_9 (Blk.cell hb rfl)) ?_
   refine WL.val rfl rfl rfl rfl (r_eqlStrL rfl (ev_t rfl) ev_c) ?_
   refine WL.val rfl rfl rfl rfl (r_assign rfl (ev_t rfl)) ?_
   refine WL.nil (WX.keep [(1, _), (2, _), (44, _)] ⟨rfl, rfl, rfl, trivial⟩ (WX.next (WC.cond rfl (ev_t rfl) (fun hc7 => ?_) (fun hc7 => ?_))))
   ·try simp only [cS, ne_eq, Decidable.not_not] at hc7
    refine WC.region (WL.val rfl rfl rfl rfl (r_field0 rfl (ev_t rfl) fld_24_2) ?_)
    refine WL.val rfl rfl rfl rfl (r_load rfl (ev_t rfl) flat_22 (Blk.cell hb rfl)) ?_
    refine WL.cons (SO.call (joinT_ok (fid := 53) (sep := [32, 42, 32]) body_53 ((hr.upd hw (fun _ _ _ h => h)).upd hU (fun _ _ _ h => h)) hX hS (fun i x s h1 h2 => FP.one (hX x (List.mem_of_getElem? h1)) ((hE i x s h1 h2).upd (hw.trans_same hU))) (by omega) hn) rfl body_52 ⟨(ev_t rfl), ev_f, ev_c, trivial⟩ rfl rfl rfl rfl ?_)
    rintro v9 w2 ⟨rfl, hu2⟩
    have hs2 := hu2.size
    replace hU := hU.transA hu2
    replace hb := hb.upd hu2 (fun h => h)
    refine WL.val rfl rfl rfl rfl (r_assign rfl (ev_t rfl)) ?_
    refine WL.val rfl rfl rfl rfl (r_assign rfl ev_c) ?_
    refine WL.nil (WX.keep [(1, _), (5, _), (6, _)] ⟨rfl, rfl, rfl, trivial⟩ (WX.blockNormal (WX.next (WC.seq (WC.seq (WC.region (WL.val rfl rfl rfl rfl (r_move rfl (ev_t rfl)) ?_)))))))
    refine WL.val rfl rfl rfl rfl (r_move rfl (ev_t rfl)) ?_
    refine WL.val rfl rfl rfl rfl (r_lss rfl (ev_t rfl) (ev_t rfl)) ?_
    refine WL.nil (WX.keep [(5, _), (74, _)] ⟨rfl, rfl, trivial⟩ (WX.next (WC.cond rfl (ev_t rfl) (fun hc13 => ?_) (fun hc13 => ?_))))
    ·try simp only [cS, ne_eq, Decidable.not_not] at hc13
     refine WC.seq (WC.region (WL.val rfl rfl rfl rfl (r_move rfl (ev_t rfl)) ?_))
     refine WL.val rfl rfl rfl rfl (r_addStrL (s := [40]) (s' := Lib.join S [32, 42, 32]) rfl ev_c (ev_t rfl) (by simp only [List.length_append, List.length_cons, List.length_nil]; omega)) ?_
     refine WL.val rfl rfl rfl rfl (r_addStrL (s := [40] ++ Lib.join S [32, 42, 32]) (s' := [41]) rfl (ev_t rfl) ev_c (by simp only [List.length_append, List.length_cons, List.length_nil]; omega)) ?_
     refine WL.val rfl rfl rfl rfl (r_assign rfl (ev_t rfl)) ?_
     refine WL.nil (WX.keep [(4, _)] ⟨rfl, trivial⟩ (WX.next (WC.ret (WX.thenRet (WX.retE1 rfl rfl ?_)))))
     exact ⟨by unfold brk; rw [if_pos (by simpa using hc13)]; rfl, hU⟩
    ·try simp only [cS, ne_eq, Decidable.not_not] at hc13
     refine WC.skip (WX.next (WC.seq (WC.region (WL.val rfl rfl rfl rfl (r_move rfl (ev_t rfl)) ?_))))
     refine WL.val rfl rfl rfl rfl (r_assign rfl (ev_t rfl)) ?_
     refine WL.nil (WX.keep [(4, _)] ⟨rfl, trivial⟩ (WX.next (WC.ret (WX.retE1 rfl rfl ?_))))
     exact ⟨by unfold brk; rw [if_neg (by simpa using hc13)], hU⟩
   ·try simp only [cS, ne_eq, Decidable.not_not] at hc7
    exfalso
    simp at hc7
theorem TPr.many {W : World} {F : Nat → Prop} {about : Int} {nm : List UInt8} {m kv : Value} {X : List (List Value)} {S : List (List UInt8)} (hr : Rd W F kv X.length 3 (X.flatMap id)) (hX : ∀ x ∈ X, one3 x) (hS : S.length = X.length) (hE : ∀ (i : Nat) x s, X[i]? = some x → S[i]? = some s → TPr W x 0 s) (hlen : (Lib.join S [44, 32]).length ≤ 140000000000000) (hn : X.length ≤ 1000000)
  (hn0 : nm ≠ []) (hn1 : nm ≠ [42]) (hn2 : nm = [45, 62] → X.length ≠ 2) (h2 : 2 ≤ X.length) (hln : nm.length ≤ 140737488355328) :
  TPr W [Sv nm, m, kv] about ([40] ++ Lib.join S [44, 32] ++ [41, 32] ++ nm) := by
 intro w hw
 obtain ⟨A, c, rfl, hc⟩ := hr.slice_form
 refine enterRet (vs := [_, _]) (N := 79) Tryz.func29 rfl rfl rfl ?_
 have hU := Upd.refl No w
 refine WC.keep [(0, _), (1, _)] ⟨rfl, rfl, trivial⟩ (WC.seq (WC.region (WL.cons (SO.alloc rfl rfl rfl rfl (r_boxAgg rfl (ev_t rfl)) ?_))))
 intro w1 hu1 hB1 hz1
 have hs1 := hu1.size
 replace hU := hU.transA hu1
 refine WL.val rfl rfl rfl rfl (r_assign rfl ev_c) ?_
 refine WL.nil (WX.keep [(1, _), (2, _)] ⟨rfl, rfl, trivial⟩ ?_)
 have hb := hB1
 change Blk _ _ #[Sv nm, m, .slice A X.length c] _ at hb
 refine WX.next (WC.seq (WC.region (WL.val rfl rfl rfl rfl (r_assign rfl ev_c) ?_)))
 refine WL.val rfl rfl rfl rfl (r_assign rfl ev_c) ?_
 refine WL.nil (WX.keep [(1, _), (2, _)] ⟨rfl, rfl, trivial⟩ (WX.next (WC.seq (WC.block (WC.seq (WC.region (WL.val rfl rfl rfl rfl (r_field0 rfl (ev_t rfl) fld_24_0) ?_)))))))
 refine WL.val rfl rfl rfl rfl (r_load rfl (ev_t rfl) flat_9 (Blk.cell hb rfl)) ?_
 refine WL.val rfl rfl rfl rfl (r_eqlStrL rfl (ev_t rfl) ev_c) ?_
 refine WL.val rfl rfl rfl rfl (r_assign rfl (ev_t rfl)) ?_
 refine WL.nil (WX.keep [(1, _), (2, _), (15, _)] ⟨rfl, rfl, rfl, trivial⟩ (WX.next (WC.cond rfl (ev_t rfl) (fun hc3 => ?_) (fun hc3 => ?_))))
 ·try simp only [cS, ne_eq, Decidable.not_not] at hc3
  exfalso
  exact hn0 (by simpa using hc3)
 ·try simp only [cS, ne_eq, Decidable.not_not] at hc3
  refine WC.seq (WC.region (WL.val rfl rfl rfl rfl (r_field0 rfl (ev_t rfl) fld_24_0) ?_))
  refine WL.val rfl rfl rfl rfl (r_load rfl (ev_t rfl) flat_9 (Blk.cell hb rfl)) ?_
  refine WL.val rfl rfl rfl rfl (r_eqlStrL rfl (ev_t rfl) ev_c) ?_
  refine WL.val rfl rfl rfl rfl (r_move rfl (ev_t rfl)) ?_
  refine WL.cases 26 rfl (fun hb5_3 => ?_) (fun hb5_3 => ?_)
  ·try simp only [cS, ne_eq, Decidable.not_not] at hb5_3
   refine WL.val rfl rfl rfl rfl (r_field0 rfl (ev_t rfl) fld_24_2) ?_
   refine WL.val rfl rfl rfl rfl (r_load rfl (ev_t rfl) flat_22 (Blk.cell hb rfl)) ?_
   refine WL.val rfl rfl rfl rfl (r_lenSlice (ts := #[]) rfl (ev_t rfl) elem_22) ?_
   refine WL.val rfl rfl rfl rfl (r_eql rfl (ev_t rfl) ev_c) ?_
   refine WL.val rfl rfl rfl rfl (r_pickT rfl (ev_t rfl) (ev_t rfl)) ?_
   refine WL.val rfl rfl rfl rfl (r_assign rfl (ev_t rfl)) ?_
   refine WL.nil (WX.keep [(1, _), (2, _), (22, _)] ⟨rfl, rfl, rfl, trivial⟩ (WX.next (WC.cond rfl (ev_t rfl) (fun hc5 => ?_) (fun hc5 => ?_))))
   ·try simp only [cS, ne_eq, Decidable.not_not] at hc5
    exfalso
    have h8 := hn2 (by simpa using hb5_3); omega
   ·try simp only [cS, ne_eq, Decidable.not_not] at hc5
    refine WC.seq (WC.region (WL.val rfl rfl rfl rfl (r_field0 rfl (ev_t rfl) fld_24_0) ?_))
    refine WL.val rfl rfl rfl rfl (r_load rfl (ev_t rfl) flat_9 (Blk.cell hb rfl)) ?_
    refine WL.val rfl rfl rfl rfl (r_eqlStrL rfl (ev_t rfl) ev_c) ?_
    refine WL.val rfl rfl rfl rfl (r_assign rfl (ev_t rfl)) ?_
    refine WL.nil (WX.keep [(1, _), (2, _), (44, _)] ⟨rfl, rfl, rfl, trivial⟩ (WX.next (WC.cond rfl (ev_t rfl) (fun hc7 => ?_) (fun hc7 => ?_))))
    ·try simp only [cS, ne_eq, Decidable.not_not] at hc7
     exfalso
     exact hn1 (by simpa using hc7)
    ·try simp only [cS, ne_eq, Decidable.not_not] at hc7
     refine WC.seq (WC.region (WL.val rfl rfl rfl rfl (r_field0 rfl (ev_t rfl) fld_24_2) ?_))
     refine WL.val rfl rfl rfl rfl (r_load rfl (ev_t rfl) flat_22 (Blk.cell hb rfl)) ?_
     refine WL.val rfl rfl rfl rfl (r_lenSlice (ts := #[]) rfl (ev_t rfl) elem_22) ?_
     refine WL.val rfl rfl rfl rfl (r_eql rfl (ev_t rfl) ev_c) ?_
     refine WL.val rfl rfl rfl rfl (r_assign rfl (ev_t rfl)) ?_
     refine WL.nil (WX.keep [(2, _), (51, _)] ⟨rfl, rfl, trivial⟩ (WX.next (WC.cond rfl (ev_t rfl) (fun hc9 => ?_) (fun hc9 => ?_))))
     ·exfalso; (simp only [cS] at hc9; omega)
     ·try simp only [cS, ne_eq, Decidable.not_not] at hc9
      refine WC.seq (WC.region (WL.val rfl rfl rfl rfl (r_field0 rfl (ev_t rfl) fld_24_2) ?_))
      refine WL.val rfl rfl rfl rfl (r_load rfl (ev_t rfl) flat_22 (Blk.cell hb rfl)) ?_
      refine WL.val rfl rfl rfl rfl (r_lenSlice (ts := #[]) rfl (ev_t rfl) elem_22) ?_
      refine WL.val rfl rfl rfl rfl (r_eql rfl (ev_t rfl) ev_c) ?_
      refine WL.val rfl rfl rfl rfl (r_assign rfl (ev_t rfl)) ?_
      refine WL.nil (WX.keep [(2, _), (58, _)] ⟨rfl, rfl, trivial⟩ (WX.next (WC.cond rfl (ev_t rfl) (fun hc11 => ?_) (fun hc11 => ?_))))
      ·exfalso; (simp only [cS] at hc11; omega)
      ·try simp only [cS, ne_eq, Decidable.not_not] at hc11
       refine WC.seq (WC.draws' (fun u0_ u1_ => Upd No u0_ u1_) (fun j => [0, 0, 1, 0, 0, 0, 0, 0, 0].getD j 0) (.calm 0 (.calm 5 (.held 1 (.held 6 (.one 2 (.calm 3 (.calm 4 (.calm 7 (.calm 8 (.done)))))))))) mixed (by kernel_rfl) (by repeat (first | with_reducible exact Deaf.body | with_reducible apply Deaf.then | with_reducible apply Deaf.block)) ?_)
       intro w3 hu3
       have hz3 := congrArg Array.size hu3.2.2.2
       replace hu3 := Upd.of_draw hu3
       have hs3 := hu3.size
       replace hU := hU.transA hu3
       replace hb := hb.upd hu3 (fun h => h)
       have hS2 := Upd.refl No w3
       refine WN.calm _ rfl rfl rfl rfl rfl (fun _ => r_field0 rfl (ev_t rfl) fld_24_2) ?_
       refine WN.calm _ rfl rfl rfl rfl rfl (fun _ => r_field0 rfl (ev_t rfl) fld_24_0) ?_
       refine WN.held _ rfl rfl rfl rfl rfl hS2 (fun w' hS => r_load rfl (ev_t rfl) flat_22 (Blk.cell (hb.upd hS (fun h => h)) rfl)) ?_
       refine WN.held _ rfl rfl rfl rfl rfl hS2 (fun w' hS => r_load rfl (ev_t rfl) flat_9 (Blk.cell (hb.upd hS (fun h => h)) rfl)) ?_
       refine WN.step _ rfl (SO.call (joinT_ok (fid := 54) (sep := [44, 32]) body_54 ((hr.upd hw (fun _ _ _ h => h)).upd hU (fun _ _ _ h => h)) hX hS (fun i x s h1 h2 => FP.two (hX x (List.mem_of_getElem? h1)) ((hE i x s h1 h2).upd (hw.trans_same hU))) (by omega) hn) rfl body_52 ⟨(ev_t rfl), ev_f, ev_c, trivial⟩ rfl rfl rfl rfl ?_)
       rintro v9 w4 ⟨rfl, hu4⟩
       have hs4 := hu4.size
       replace hS2 := Upd.transA hS2 hu4
       replace hU := hU.transA hu4
       replace hb := hb.upd hu4 (fun h => h)
       refine ⟨hS2, ?_⟩
       refine WN.calm _ rfl rfl rfl rfl rfl (fun _ => r_addStrL (s := [40]) (s' := Lib.join S [44, 32]) rfl ev_c (ev_t rfl) (by simp only [List.length_append, List.length_cons, List.length_nil]; omega)) ?_
       refine WN.calm _ rfl rfl rfl rfl rfl (fun _ => r_addStrL (s := [40] ++ Lib.join S [44, 32]) (s' := [41, 32]) rfl (ev_t rfl) ev_c (by simp only [List.length_append, List.length_cons, List.length_nil]; omega)) ?_
       refine WN.calm _ rfl rfl rfl rfl rfl (fun _ => r_addStrL (s := [40] ++ Lib.join S [44, 32] ++ [41, 32]) (s' := nm) rfl (ev_t rfl) (ev_t rfl) (by simp only [List.length_append, List.length_cons, List.length_nil]; omega)) ?_
       refine WN.calm _ rfl rfl rfl rfl rfl (fun _ => r_assign rfl (ev_t rfl)) ?_
       refine WN.done ?_
       refine WX.keep [(4, _)] ⟨rfl, trivial⟩ (WX.next (WC.ret (WX.blockRet (WX.thenRet (WX.retE1 rfl rfl ?_)))))
       exact ⟨rfl, hU⟩
  ·try simp only [cS, ne_eq, Decidable.not_not] at hb5_3
   refine WL.skip rfl rfl rfl (WL.skip rfl rfl rfl (WL.skip rfl rfl rfl (WL.skip rfl rfl rfl (WL.val rfl rfl rfl rfl (r_pickF rfl (ev_t rfl) ev_c) ?_))))
   refine WL.val rfl rfl rfl rfl (r_assign rfl (ev_t rfl)) ?_
   refine WL.nil (WX.keep [(1, _), (2, _), (22, _)] ⟨rfl, rfl, rfl, trivial⟩ (WX.next (WC.cond_false rfl (ev_t rfl) ?_)))
   refine WC.seq (WC.region (WL.val rfl rfl rfl rfl (r_field0 rfl (ev_t rfl) fld_24_0) ?_))
   refine WL.val rfl rfl rfl rfl (r_load rfl (ev_t rfl) flat_9 (Blk.cell hb rfl)) ?_
   refine WL.val rfl rfl rfl rfl (r_eqlStrL rfl (ev_t rfl) ev_c) ?_
   refine WL.val rfl rfl rfl rfl (r_assign rfl (ev_t rfl)) ?_
   refine WL.nil (WX.keep [(1, _), (2, _), (44, _)] ⟨rfl, rfl, rfl, trivial⟩ (WX.next (WC.cond rfl (ev_t rfl) (fun hc7 => ?_) (fun hc7 => ?_))))
   ·try simp only [cS, ne_eq, Decidable.not_not] at hc7
    exfalso
    exact hn1 (by simpa using hc7)
   ·try simp only [cS, ne_eq, Decidable.not_not] at hc7
    refine WC.seq (WC.region (WL.val rfl rfl rfl rfl (r_field0 rfl (ev_t rfl) fld_24_2) ?_))
    refine WL.val rfl rfl rfl rfl (r_load rfl (ev_t rfl) flat_22 (Blk.cell hb rfl)) ?_
    refine WL.val rfl rfl rfl rfl (r_lenSlice (ts := #[]) rfl (ev_t rfl) elem_22) ?_
    refine WL.val rfl rfl rfl rfl (r_eql rfl (ev_t rfl) ev_c) ?_
    refine WL.val rfl rfl rfl rfl (r_assign rfl (ev_t rfl)) ?_
    refine WL.nil (WX.keep [(2, _), (51, _)] ⟨rfl, rfl, trivial⟩ (WX.next (WC.cond rfl (ev_t rfl) (fun hc9 => ?_) (fun hc9 => ?_))))
    ·exfalso; (simp only [cS] at hc9; omega)
    ·try simp only [cS, ne_eq, Decidable.not_not] at hc9
     refine WC.seq (WC.region (WL.val rfl rfl rfl rfl (r_field0 rfl (ev_t rfl) fld_24_2) ?_))
     refine WL.val rfl rfl rfl rfl (r_load rfl (ev_t rfl) flat_22 (Blk.cell hb rfl)) ?_
     refine WL.val rfl rfl rfl rfl (r_lenSlice (ts := #[]) rfl (ev_t rfl) elem_22) ?_
     refine WL.val rfl rfl rfl rfl (r_eql rfl (ev_t rfl) ev_c) ?_
     refine WL.val rfl rfl rfl rfl (r_assign rfl (ev_t rfl)) ?_
     refine WL.nil (WX.keep [(2, _), (58, _)] ⟨rfl, rfl, trivial⟩ (WX.next (WC.cond rfl (ev_t rfl) (fun hc11 => ?_) (fun hc11 => ?_))))
     ·exfalso; (simp only [cS] at hc11; omega)
     ·try simp only [cS, ne_eq, Decidable.not_not] at hc11
      refine WC.seq (WC.draws' (fun u0_ u1_ => Upd No u0_ u1_) (fun j => [0, 0, 1, 0, 0, 0, 0, 0, 0].getD j 0) (.calm 0 (.calm 5 (.held 1 (.held 6 (.one 2 (.calm 3 (.calm 4 (.calm 7 (.calm 8 (.done)))))))))) mixed (by kernel_rfl) (by repeat (first | with_reducible exact Deaf.body | with_reducible apply Deaf.then | with_reducible apply Deaf.block)) ?_)
      intro w6 hu6
      have hz6 := congrArg Array.size hu6.2.2.2
      replace hu6 := Upd.of_draw hu6
      have hs6 := hu6.size
      replace hU := hU.transA hu6
      replace hb := hb.upd hu6 (fun h => h)
      have hS2 := Upd.refl No w6
      refine WN.calm _ rfl rfl rfl rfl rfl (fun _ => r_field0 rfl (ev_t rfl) fld_24_2) ?_
      refine WN.calm _ rfl rfl rfl rfl rfl (fun _ => r_field0 rfl (ev_t rfl) fld_24_0) ?_
      refine WN.held _ rfl rfl rfl rfl rfl hS2 (fun w' hS => r_load rfl (ev_t rfl) flat_22 (Blk.cell (hb.upd hS (fun h => h)) rfl)) ?_
      refine WN.held _ rfl rfl rfl rfl rfl hS2 (fun w' hS => r_load rfl (ev_t rfl) flat_9 (Blk.cell (hb.upd hS (fun h => h)) rfl)) ?_
      refine WN.step _ rfl (SO.call (joinT_ok (fid := 54) (sep := [44, 32]) body_54 ((hr.upd hw (fun _ _ _ h => h)).upd hU (fun _ _ _ h => h)) hX hS (fun i x s h1 h2 => FP.two (hX x (List.mem_of_getElem? h1)) ((hE i x s h1 h2).upd (hw.trans_same hU))) (by omega) hn) rfl body_52 ⟨(ev_t rfl), ev_f, ev_c, trivial⟩ rfl rfl rfl rfl ?_)
      rintro v9 w7 ⟨rfl, hu7⟩
      have hs7 := hu7.size
      replace hS2 := Upd.transA hS2 hu7
      replace hU := hU.transA hu7
      replace hb := hb.upd hu7 (fun h => h)
      refine ⟨hS2, ?_⟩
      refine WN.calm _ rfl rfl rfl rfl rfl (fun _ => r_addStrL (s := [40]) (s' := Lib.join S [44, 32]) rfl ev_c (ev_t rfl) (by simp only [List.length_append, List.length_cons, List.length_nil]; omega)) ?_
      refine WN.calm _ rfl rfl rfl rfl rfl (fun _ => r_addStrL (s := [40] ++ Lib.join S [44, 32]) (s' := [41, 32]) rfl (ev_t rfl) ev_c (by simp only [List.length_append, List.length_cons, List.length_nil]; omega)) ?_
      refine WN.calm _ rfl rfl rfl rfl rfl (fun _ => r_addStrL (s := [40] ++ Lib.join S [44, 32] ++ [41, 32]) (s' := nm) rfl (ev_t rfl) (ev_t rfl) (by simp only [List.length_append, List.length_cons, List.length_nil]; omega)) ?_
      refine WN.calm _ rfl rfl rfl rfl rfl (fun _ => r_assign rfl (ev_t rfl)) ?_
      refine WN.done ?_
      refine WX.keep [(4, _)] ⟨rfl, trivial⟩ (WX.next (WC.ret (WX.blockRet (WX.thenRet (WX.retE1 rfl rfl ?_)))))
      exact ⟨rfl, hU⟩

theorem kids_one {w : World} {F : Nat → Prop} {xs : List (List Value)} {ks : List Tr} (hl : xs.length = ks.length) (hk : ∀ (i : Nat) c k, xs[i]? = some c → ks[i]? = some k → TR w F c k) : ∀ x ∈ xs, one3 x := by
 intro x hx
 obtain ⟨i, hi, rfl⟩ := List.getElem_of_mem hx
 have h := hk i _ (ks[i]'(by omega)) (List.getElem?_eq_getElem hi) (List.getElem?_eq_getElem (by omega))
 exact ⟨h.len, h.one⟩
theorem joinS_len {w : World} {F : Nat → Prop} {f : Nat} {ks : List Tr} {xs : List (List Value)} {b : Int} {sep : List UInt8} (hf : f ≤ 9) (hk6 : ks.length ≤ 6) (hl : xs.length = ks.length) (hk : ∀ (i : Nat) c k, xs[i]? = some c → ks[i]? = some k → TR w F c k) (hall : ∀ k ∈ ks, smallF f k = true) (hs : sep.length ≤ 3) : (Lib.join (ks.map fun k => typS f k b) sep).length ≤ 140000000000000 := by
 have h1 := join_len (bnT f) sep (ks.map fun k => typS f k b) (fun x hx => by
  obtain ⟨k, hm, rfl⟩ := List.mem_map.1 hx
  obtain ⟨i, hi, rfl⟩ := List.getElem_of_mem hm
  exact typS_len f _ (xs[i]'(by omega)) b (hall _ hm) (hk i _ _ (List.getElem?_eq_getElem (by omega)) (List.getElem?_eq_getElem hi)))
 rw [List.length_map] at h1
 have h2 : ks.length * (bnT f + sep.length) ≤ 6 * (bnT f + 3) := Nat.mul_le_mul hk6 (by omega)
 have := bnT_le hf
 omega
theorem okN_iff {n : List UInt8} {k : Nat} : okN n k = true ↔ k ≤ 6 ∧ ¬ (n = [] ∧ 0 < k) ∧ ¬ (n = [45, 62] ∧ k ≠ 2) ∧ ¬ (n = [42] ∧ k < 2) := by simp only [okN, decide_eq_true_eq]

theorem TPr.all {F : Nat → Prop} : ∀ (f : Nat) (t : Tr) (x : List Value) (W : World), f ≤ 9 → smallF f t = true → TR W F x t → Pow10 W → ∀ about, TPr W x about (typS f t about)
 | 0, t, x, W, _, h, _, _, _ => by simp [smallF] at h
 | f + 1, .mk n v ks, x, W, hf, h, ht, hP, about => by
  simp only [smallF, Bool.and_eq_true, List.all_eq_true] at h
  obtain ⟨hok, hall⟩ := h
  obtain ⟨hk6, hk0, hk1, hk2⟩ := okN_iff.1 hok
  cases ht with
  | mk hr hl hv hn hk =>
   rename_i kv xs
   have ih : ∀ (b : Int) (i : Nat) c k, xs[i]? = some c → ks[i]? = some k → TPr W c b (typS f k b) := fun b i c k h1 h2 => TPr.all f k c W (by omega) (hall k (List.mem_of_getElem? h2)) (hk i c k h1 h2) hP b
   have ihS : ∀ (b : Int) (i : Nat) c s, xs[i]? = some c → (ks.map fun k => typS f k b)[i]? = some s → TPr W c b s := fun b i c s h1 h2 => by
    rw [List.getElem?_map] at h2
    cases hki : ks[i]? with
    | none => rw [hki] at h2; cases h2
    | some k => rw [hki] at h2; injection h2 with h2; subst h2; exact ih b i c k h1 hki
   have hlb : ∀ (b : Int) (i : Nat) c k, xs[i]? = some c → ks[i]? = some k → (typS f k b).length ≤ 100000000000000 := fun b i c k h1 h2 => by
    have := typS_len f k c b (hall k (List.mem_of_getElem? h2)) (hk i c k h1 h2)
    have := bnT_le (f := f) (by omega)
    omega
   have hr' : Rd W F kv xs.length 3 (xs.flatMap id) := by rw [hl]; exact hr
   have hx1 := kids_one hl hk
   by_cases c0 : n = []
   ·subst c0
    simp only [typS, if_true]
    exact TPr.var hv hP
   by_cases c1 : n = [45, 62]
   ·subst c1
    have h2 : ks.length = 2 := by
     rcases Nat.lt_trichotomy ks.length 2 with h | h | h
     ·exact absurd ⟨rfl, by omega⟩ hk1
     ·exact h
     ·exact absurd ⟨rfl, by omega⟩ hk1
    match ks, xs, hl, h2 with
    | [k0, k1], [x0, x1], _, _ =>
     simp only [typS]
     rw [if_neg c0, if_pos trivial]
     exact TPr.arrow (by simpa using hr) (hk 0 x0 k0 rfl rfl).len (hk 1 x1 k1 rfl rfl).len (ih 1 0 x0 k0 rfl rfl) (ih 0 1 x1 k1 rfl rfl) (hlb 1 0 x0 k0 rfl rfl) (hlb 0 1 x1 k1 rfl rfl)
   by_cases c2 : n = [42]
   ·subst c2
    simp only [typS]
    rw [if_neg c0, if_neg c1, if_pos trivial]
    exact TPr.star hr' hx1 (by simp [hl]) (ihS 2) (joinS_len (by omega) hk6 hl hk hall (by decide)) (by omega)
   ·simp only [typS]
    rw [if_neg c0, if_neg c1, if_neg c2]
    match ks, xs, hl with
    | [], [], _ =>
     obtain ⟨A, c, rfl, _⟩ := hr.slice_form
     exact TPr.name c0 c2
    | [k0], [x0], _ => exact TPr.one (by simpa using hr) (hk 0 x0 k0 rfl rfl).len (ih 2 0 x0 k0 rfl rfl) c0 c2 (hlb 2 0 x0 k0 rfl rfl) (by omega)
    | k0 :: k1 :: r, xs, hl => exact TPr.many hr' hx1 (by simp [hl]) (ihS 0) (joinS_len (by omega) hk6 hl hk hall (by decide)) (by omega) c0 c2 (fun h => absurd h c1) (by rw [hl]; simp) (by omega)
end Go.Proofs.YtomkdhkkggbioaaGreatDoor

/-
  print.Type for types as the parser makes them; SameType of one type twice.
-/
namespace Go.Proofs.YtomkdhkkggbioaaGreatDoor
open Go
set_option linter.unusedSimpArgs false
set_option linter.unusedVariables false

theorem TPr.good {F : Nat → Prop} {N : Nat} (hN : N ≤ 1000000) : ∀ (f : Nat) (t : Tr) (x : List Value) (W : World), f ≤ 100000 → szT t ≤ f → gT N t → TR W F x t → Pow10 W → ∀ about, TPr W x about (typS f t about)
  | 0, t, x, W, _, h, _, _, _ => by have := szT_pos t; omega
  | f + 1, .mk n v ks, x, W, hf, h, hg, ht, hP => by
    intro about
    rw [szT] at h
    have hlen := fun (k : Tr) (hk : szT k ≤ f) (hg : gT N k) (b : Int) => typ_len hN f k b hk hg
    rw [gT, gTs_mem] at hg
    obtain ⟨hsh, hgk⟩ := hg
    cases ht with
    | mk hr hl hv hn hk =>
      rename_i kv xs
      have hszk : ∀ k ∈ ks, szT k ≤ f := fun k hm => by have := szTs_mem hm; omega
      have ih : ∀ (b : Int) (i : Nat) c k, xs[i]? = some c → ks[i]? = some k → TPr W c b (typS f k b) := fun b i c k h1 h2 => TPr.good hN f k c W (by omega) (hszk k (List.mem_of_getElem? h2)) (hgk k (List.mem_of_getElem? h2)) (hk i c k h1 h2) hP b
      have ihS : ∀ (b : Int) (i : Nat) c s, xs[i]? = some c → (ks.map fun k => typS f k b)[i]? = some s → TPr W c b s := fun b i c s h1 h2 => by
        rw [List.getElem?_map] at h2
        cases hki : ks[i]? with
        | none => rw [hki] at h2; cases h2
        | some k => rw [hki] at h2; injection h2 with h2; subst h2; exact ih b i c k h1 hki
      have hlb : ∀ (b : Int) k, k ∈ ks → (typS f k b).length + 10 ≤ 130 * szT k := fun b k hm => hlen k (hszk k hm) (hgk k hm) b
      have hj : ∀ (b : Int) (sep : List UInt8), sep.length ≤ 3 → (Lib.join (ks.map fun k => typS f k b) sep).length ≤ 140000000000000 := fun b sep hs => by
        rw [join_inter]
        have := inter_len hs ks (hlb b)
        omega
      have hkl := szTs_len ks
      have hr' : Rd W F kv xs.length 3 (xs.flatMap id) := by rw [hl]; exact hr
      have hx1 := kids_one hl hk
      rcases hsh with ⟨rfl, rfl, h1, h2⟩ | ⟨rfl, ⟨rfl, hl2⟩ | ⟨rfl, hl2⟩ | hnb⟩
      · rw [typS_nil]
        exact TPr.var hv hP
      · match ks, xs, hl, hl2, hr with
        | [k0, k1], [x0, x1], _, _, hr =>
          rw [typS_arr]
          have e0 := hlb 1 k0 (by simp)
          have e1 := hlb 0 k1 (by simp)
          have z0 := hszk k0 (by simp)
          have z1 := hszk k1 (by simp)
          exact TPr.arrow (by simpa using hr) (hk 0 x0 k0 rfl rfl).len (hk 1 x1 k1 rfl rfl).len (ih 1 0 x0 k0 rfl rfl) (ih 0 1 x1 k1 rfl rfl) (by omega) (by omega)
      · rw [typS_star]
        exact TPr.star hr' hx1 (by simp [hl]) (ihS 2) (hj 2 _ (by decide)) (by omega)
      · obtain ⟨hl24, c0, c1, c2⟩ := nameB_len hnb
        match ks, xs, hl, hr, hr', hx1, ih, ihS, hj, hlb, hszk, hk, hkl with
        | [], [], _, hr, _, _, _, _, _, _, _, _, _ =>
          rw [typS_bare c0 c1 c2]
          obtain ⟨A, c, rfl, _⟩ := hr.slice_form
          exact TPr.name c0 c2
        | [k0], [x0], _, hr, _, _, ih, _, _, hlb, hszk, hk, _ =>
          rw [typS_one c0 c1 c2]
          have e0 := hlb 2 k0 (by simp)
          have z0 := hszk k0 (by simp)
          exact TPr.one (by simpa using hr) (hk 0 x0 k0 rfl rfl).len (ih 2 0 x0 k0 rfl rfl) c0 c2 (by omega) (by omega)
        | k0 :: k1 :: r, xs, hl, hr, hr', hx1, ih, ihS, hj, _, _, _, hkl =>
          rw [typS_many c0 c1 c2]
          exact TPr.many hr' hx1 (by simp [hl]) (ihS 0) (hj 0 _ (by decide)) (by omega) c0 c2 (fun h => absurd h c1) (by rw [hl]; simp) (by omega)
set_option maxHeartbeats 1000000 in
theorem sameT9_ok {F G : Nat → Prop} : ∀ (f : Nat) (w : World) (x y : List Value) (t : Tr), szT t ≤ f → TR w F x t → TR w G y t → Ret Tryz.prog 16 #[.agg x.toArray, .agg y.toArray] w fun v w' => v = .bool true ∧ Upd No w w'
  | 0, w, x, y, t, hs, ht, _ => by have := szT_pos t; omega
  | f + 1, w, x, y, t, hs, ht, gt => by
    obtain ⟨n, v, ks, A, c, xs, rfl, rfl, hr, hm, hv, hn⟩ := TM.mk3 (show TM w F x t from ht)
    obtain ⟨n', v', ks', B, d, ys, het, rfl, gr, gm, _⟩ := TM.mk3 (show TM w G y (.mk n v ks) from gt)
    injection het with h1 h2 h3
    subst h1 h2 h3
    rw [szT] at hs
    have hle := hr.le
    refine enterRet (vs := [_, _]) (N := 46) Tryz.func16 rfl rfl rfl ?_
    have hU := Upd.refl No w
    refine WC.keep [(0, _), (1, _)] ⟨rfl, rfl, trivial⟩ (WC.seq (WC.region (WL.cons (SO.alloc rfl rfl rfl rfl (r_boxAgg rfl (ev_t rfl)) ?_))))
    intro w1 hu1 hB1 hz1
    have hs1 := hu1.size
    replace hU := hU.transA hu1
    refine WL.cons (SO.alloc rfl rfl rfl rfl (r_boxAgg rfl (ev_t rfl)) ?_)
    intro w2 hu2 hB2 hz2
    have hs2 := hu2.size
    replace hU := hU.transA hu2
    replace hB1 := hB1.updA hu2
    refine WL.val rfl rfl rfl rfl (r_assign rfl ev_c) ?_
    refine WL.nil (WX.keep [(2, _), (3, _)] ⟨rfl, rfl, trivial⟩ ?_)
    have hb := hB1
    have gb := hB2
    change Blk _ _ #[Sv n, .int .i64 v, .slice A ks.length c] _ at hb
    change Blk _ _ #[Sv n, .int .i64 v, .slice B ks.length d] _ at gb
    refine WX.next (WC.seq (WC.seq (WC.region (WL.val rfl rfl rfl rfl (r_field0 rfl (ev_t rfl) fld_24_0) ?_))))
    refine WL.val rfl rfl rfl rfl (r_load rfl (ev_t rfl) flat_9 (Blk.cell hb rfl)) ?_
    refine WL.val rfl rfl rfl rfl (r_field0 rfl (ev_t rfl) fld_24_0) ?_
    refine WL.val rfl rfl rfl rfl (r_load rfl (ev_t rfl) flat_9 (Blk.cell gb rfl)) ?_
    refine WL.val rfl rfl rfl rfl (r_neqStrL rfl (ev_t rfl) (ev_t rfl)) ?_
    refine WL.val rfl rfl rfl rfl (r_move rfl (ev_t rfl)) ?_
    refine WL.cases 11 rfl (fun hb1_5 => ?_) (fun hb1_5 => ?_)
    · exfalso; (simp at hb1_5; done)
    · try simp only [cS, ne_eq, Decidable.not_not] at hb1_5
      refine WL.val rfl rfl rfl rfl (r_field0 rfl (ev_t rfl) fld_24_1) ?_
      refine WL.val rfl rfl rfl rfl (r_load rfl (ev_t rfl) flat_3 (Blk.cell hb rfl)) ?_
      refine WL.val rfl rfl rfl rfl (r_field0 rfl (ev_t rfl) fld_24_1) ?_
      refine WL.val rfl rfl rfl rfl (r_load rfl (ev_t rfl) flat_3 (Blk.cell gb rfl)) ?_
      refine WL.val rfl rfl rfl rfl (r_neq rfl (ev_t rfl) (ev_t rfl)) ?_
      refine WL.val rfl rfl rfl rfl (r_pickF rfl (ev_t rfl) (ev_t rfl)) ?_
      refine WL.val rfl rfl rfl rfl (r_move rfl (ev_t rfl)) ?_
      refine WL.cases 18 rfl (fun hb1_12 => ?_) (fun hb1_12 => ?_)
      · exfalso; (simp at hb1_12; done)
      · try simp only [cS, ne_eq, Decidable.not_not] at hb1_12
        refine WL.val rfl rfl rfl rfl (r_field0 rfl (ev_t rfl) fld_24_2) ?_
        refine WL.val rfl rfl rfl rfl (r_load rfl (ev_t rfl) flat_22 (Blk.cell hb rfl)) ?_
        refine WL.val rfl rfl rfl rfl (r_lenSlice (ts := #[]) rfl (ev_t rfl) elem_22) ?_
        refine WL.val rfl rfl rfl rfl (r_field0 rfl (ev_t rfl) fld_24_2) ?_
        refine WL.val rfl rfl rfl rfl (r_load rfl (ev_t rfl) flat_22 (Blk.cell gb rfl)) ?_
        refine WL.val rfl rfl rfl rfl (r_lenSlice (ts := #[]) rfl (ev_t rfl) elem_22) ?_
        refine WL.val rfl rfl rfl rfl (r_neq rfl (ev_t rfl) (ev_t rfl)) ?_
        refine WL.val rfl rfl rfl rfl (r_pickF rfl (ev_t rfl) (ev_t rfl)) ?_
        refine WL.nil (WX.keep [(2, _), (3, _), (26, _)] ⟨rfl, rfl, rfl, trivial⟩ (WX.next (WC.cond rfl (ev_t rfl) (fun hc1 => ?_) (fun hc1 => ?_))))
        · exfalso; (simp at hc1; done)
        · try simp only [cS, ne_eq, Decidable.not_not] at hc1
          refine WC.skip (WX.next (WC.seq (WC.seq (WC.region (WL.val rfl rfl rfl rfl (r_assign rfl ev_c) ?_)))))
          refine WL.nil (WX.keep [(2, _), (3, _), (5, _)] ⟨rfl, rfl, rfl, trivial⟩ (WX.next (WC.block ?_)))
          -- loop 1: live [2, 3, 5]
          refine WC.keep [(2, _), (3, _), (5, _)] ⟨rfl, rfl, rfl, trivial⟩ (WC.loop (fun qq E wC => ∃ j : Nat, j ≤ ks.length ∧ qq = ks.length - j ∧ Upd No w wC ∧ Blk wC w.heap.size #[Sv n, .int .i64 v, .slice A ks.length c] 24 ∧ Blk wC w1.heap.size #[Sv n, .int .i64 v, .slice B ks.length d] 24 ∧ E = [(2, .pointer (some ⟨w.heap.size, 0, none⟩)), (3, .pointer (some ⟨w1.heap.size, 0, none⟩)), (5, .int .i64 (j : Int))]) (ks.length) ?_ ?_)
          · exact ⟨0, by omega, by omega, hU, hb, gb, rfl⟩
          · clear hU hb gb
            rintro qq E wC ⟨j, hj, rfl, hU, hb, gb, rfl⟩
            refine WC.seq (WC.seq (WC.region (WL.val rfl rfl rfl rfl (r_move rfl (ev_t rfl)) ?_)))
            refine WL.val rfl rfl rfl rfl (r_field0 rfl (ev_t rfl) fld_24_2) ?_
            refine WL.val rfl rfl rfl rfl (r_load rfl (ev_t rfl) flat_22 (Blk.cell hb rfl)) ?_
            refine WL.val rfl rfl rfl rfl (r_lenSlice (ts := #[]) rfl (ev_t rfl) elem_22) ?_
            refine WL.val rfl rfl rfl rfl (r_lss rfl (ev_t rfl) (ev_t rfl)) ?_
            refine WL.nil (WX.keep [(2, _), (3, _), (5, _), (31, _)] ⟨rfl, rfl, rfl, rfl, trivial⟩ (WX.next (WC.cond rfl (ev_t rfl) (fun hc4 => ?_) (fun hc4 => ?_))))
            · try simp only [cS, ne_eq, Decidable.not_not] at hc4
              have hjl : j < ks.length := by omega
              have hgk : ks[j]? = some ks[j] := List.getElem?_eq_getElem hjl
              have hzk := szTs_mem (List.mem_of_getElem? hgk)
              generalize ks[j] = kj at hgk hzk
              obtain ⟨xj, hgx, htj⟩ := hm.get hgk
              obtain ⟨yj, hgy, gtj⟩ := gm.get hgk
              obtain ⟨y0, y1, y2, rfl⟩ := cells3 htj.len
              obtain ⟨z0, z1, z2, rfl⟩ := cells3 gtj.len
              obtain ⟨b0, off, rfl, _⟩ := hr.open (by omega)
              obtain ⟨b1, off1, rfl, _⟩ := gr.open (by omega)
              refine WC.skip (WX.next (WC.seq (WC.block (WC.seq ?_))))
              have hrw := hr.upd hU (fun _ _ _ h => h)
              have grw := gr.upd hU (fun _ _ _ h => h)
              refine WC.draws' (fun u0_ u1_ => Upd No u0_ u1_) (fun j => [0, 0, 0, 0, 0, 0, 1, 0, 0, 1, 2, 0].getD j 0) (.calm 0 (.calm 2 (.calm 5 (.calm 7 (.held 1 (.calm 3 (.held 4 (.one 6 (.calm 8 (.one 9 (.one 10 (.calm 11 (.done))))))))))))) mixed (by kernel_rfl) (by repeat (first | with_reducible exact Deaf.body | with_reducible apply Deaf.then | with_reducible apply Deaf.block)) ?_
              intro w3 hu3
              have hz3 := congrArg Array.size hu3.2.2.2
              replace hu3 := Upd.of_draw hu3
              have hs3 := hu3.size
              replace hU := hU.transA hu3
              replace hb := hb.upd hu3 (fun h => h)
              replace gb := gb.upd hu3 (fun h => h)
              replace hrw := hrw.upd hu3 (fun _ _ _ h => h)
              replace grw := grw.upd hu3 (fun _ _ _ h => h)
              have hS6 := Upd.refl No w3
              refine WN.calm _ rfl rfl rfl rfl rfl (fun _ => r_field0 rfl (ev_t rfl) fld_24_2) ?_
              refine WN.calm _ rfl rfl rfl rfl rfl (fun _ => r_move rfl (ev_t rfl)) ?_
              refine WN.calm _ rfl rfl rfl rfl rfl (fun _ => r_field0 rfl (ev_t rfl) fld_24_2) ?_
              refine WN.calm _ rfl rfl rfl rfl rfl (fun _ => r_move rfl (ev_t rfl)) ?_
              refine WN.held _ rfl rfl rfl rfl rfl hS6 (fun w' hS => r_load rfl (ev_t rfl) flat_22 (Blk.cell (hb.upd hS (fun h => h)) rfl)) ?_
              refine WN.calm _ rfl rfl rfl rfl rfl (fun _ => r_indexAddr rfl (ev_t rfl) (ev_t rfl) elem_22 size_24 (by omega) (by omega)) ?_
              refine WN.held _ rfl rfl rfl rfl rfl hS6 (fun w' hS => r_loadAgg (vs := [_, _, _]) rfl (ev_t rfl) agg_24 size_24 (Rd.cellsL (us := [y0, y1, y2]) (hrw.upd hS (fun _ _ _ h => h)) (i := j * 3) (by omega) (fun q v hv => flat_getN hm.one_len hgx hv))) ?_
              refine WN.step _ rfl (SO.val rfl rfl rfl rfl (r_load rfl (ev_t rfl) flat_22 (Blk.cell gb rfl)) ?_)
              refine ⟨hS6, ?_⟩
              refine WN.calm _ rfl rfl rfl rfl rfl (fun _ => r_indexAddr rfl (ev_t rfl) (ev_t rfl) elem_22 size_24 (by omega) (by omega)) ?_
              refine WN.step _ rfl (SO.val rfl rfl rfl rfl (r_loadAgg (vs := [_, _, _]) rfl (ev_t rfl) agg_24 size_24 (Rd.cellsL (us := [z0, z1, z2]) grw (i := j * 3) (by omega) (fun q v hv => flat_getN gm.one_len hgy hv))) ?_)
              refine ⟨hS6, ?_⟩
              refine WN.step _ rfl (SO.call (sameT9_ok f _ [y0, y1, y2] [z0, z1, z2] kj (by omega) (htj.upd hU (fun _ _ _ h => h)) (gtj.upd hU (fun _ _ _ h => h))) rfl body_16 ⟨(ev_t rfl), (ev_t rfl), trivial⟩ rfl rfl rfl rfl ?_)
              rintro v9 w4 ⟨rfl, hu4⟩
              have hs4 := hu4.size
              try replace hS6 := Upd.transA hS6 hu4
              replace hU := hU.transA hu4
              replace hb := hb.upd hu4 (fun h => h)
              replace gb := gb.upd hu4 (fun h => h)
              replace hrw := hrw.upd hu4 (fun _ _ _ h => h)
              replace grw := grw.upd hu4 (fun _ _ _ h => h)
              refine ⟨trivial, ?_⟩
              refine WN.calm _ rfl rfl rfl rfl rfl (fun _ => r_not rfl (ev_t rfl)) ?_
              refine WN.done ?_
              refine WX.keep [(2, _), (3, _), (5, _), (45, _)] ⟨rfl, rfl, rfl, rfl, trivial⟩ (WX.next (WC.cond rfl (ev_t rfl) (fun hc6 => ?_) (fun hc6 => ?_)))
              · try simp only [cS, ne_eq, Decidable.not_not] at hc6
                exfalso
                simp at hc6
              · try simp only [cS, ne_eq, Decidable.not_not] at hc6
                refine WC.skip (WX.blockNormal (WX.next (WC.region (WL.val rfl rfl rfl rfl (r_move rfl (ev_t rfl)) ?_))))
                refine WL.val rfl rfl rfl rfl (r_addN rfl (ev_t rfl) ev_c (by simp only [inK]; omega)) ?_
                refine WL.val rfl rfl rfl rfl (r_assign rfl (ev_t rfl)) ?_
                refine WL.nil (WX.keep [(2, _), (3, _), (5, _)] ⟨rfl, rfl, rfl, trivial⟩ (WX.meet [(2, _), (3, _), (5, _)] ⟨rfl, rfl, rfl, trivial⟩ ?_))
                exact ⟨ks.length - (j + 1), by omega, j + 1, by omega, rfl, hU, hb, gb, rfl⟩
            · try simp only [cS, ne_eq, Decidable.not_not] at hc4
              refine WC.exit (WX.thenExit (WX.thenExit (WX.blockHere (WX.next (WC.seq (WC.region (WL.val rfl rfl rfl rfl (r_assign rfl ev_c) ?_)))))))
              refine WL.nil (WX.keep [(4, _)] ⟨rfl, trivial⟩ (WX.next (WC.ret (WX.retE1 rfl rfl ?_))))
              exact ⟨rfl, hU⟩
end Go.Proofs.YtomkdhkkggbioaaGreatDoor
