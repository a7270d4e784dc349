/-
  Parts of the proof (their names shortened by a program). No condition.
-/
import Derived.Test.YtjkolegknpflfaaDoorMg01
import Derived.Test.YtjkolegknpflfaaDoorMg03
import Derived.Test.YtjkolegknpflfaaDoorMg07
import Derived.Deep.Cut
import Derived.Test.YtjkolegknpflfaaDoorMg06
namespace Go.Proofs.YtjkolegknpflfaaDoor
open Go Go.RowKit
set_option linter.unusedVariables false
set_option linter.unusedSimpArgs false
set_option maxRecDepth 100000
set_option maxHeartbeats 16000000
section
open Go.WideShapes Go.ChangeShapes
theorem wf_u64 {n : Int} (h : (Lit.int .u64 n).wf = true) : 0 ≤ n ∧ n < 18446744073709551616 := by
 simp [Lit.wf, IntKind.min, IntKind.max, IntKind.signed, IntKind.bits] at h; omega
theorem Yf4 {H : Type} {enc : TypeId × Value → H} {w : World} {base : Nat} {spare : Nat → Bool} {held : Bool} {r : Reach} {b0 : Nat} {v : Value} {d : DataW H} {p : List MemPlace}
  (hv : Value.okWide Tryd.prog w r b0 28 v) (h : DataW.Trod enc Tryd.prog w base spare held 28 v d p) : ∃ s : St, v = .agg s.cells ∧ s.Ok := by
 obtain ⟨cs, rfl, hs, hc⟩ := Yfm (t := 28) (by kernel_rfl) hv h
 have hs : cs.size = 17 := hs.trans (by kernel_rfl)
 obtain ⟨_, e0, z0, rfl, w0⟩ := hc 8 0 (.int .u32) (by kernel_rfl)
 obtain ⟨_, e1, z1, rfl, w1⟩ := hc 8 1 (.int .u32) (by kernel_rfl)
 obtain ⟨_, e2, z2, rfl, w2⟩ := hc 8 2 (.int .u32) (by kernel_rfl)
 obtain ⟨_, e3, z3, rfl, w3⟩ := hc 8 3 (.int .u32) (by kernel_rfl)
 obtain ⟨_, e4, z4, rfl, w4⟩ := hc 8 4 (.int .u32) (by kernel_rfl)
 obtain ⟨_, e5, z5, rfl, w5⟩ := hc 8 5 (.int .u32) (by kernel_rfl)
 obtain ⟨_, e6, z6, rfl, w6⟩ := hc 8 6 (.int .u32) (by kernel_rfl)
 obtain ⟨_, e7, z7, rfl, w7⟩ := hc 8 7 (.int .u32) (by kernel_rfl)
 obtain ⟨_, e8, z8, rfl, w8⟩ := hc 8 8 (.int .u32) (by kernel_rfl)
 obtain ⟨_, e9, z9, rfl⟩ := hc 8 9 .bool (by kernel_rfl)
 obtain ⟨_, e10, z10, rfl⟩ := hc 8 10 .bool (by kernel_rfl)
 obtain ⟨_, e11, z11, rfl⟩ := hc 8 11 .bool (by kernel_rfl)
 obtain ⟨_, e12, z12, rfl⟩ := hc 8 12 .bool (by kernel_rfl)
 obtain ⟨_, e13, z13, rfl⟩ := hc 8 13 .bool (by kernel_rfl)
 obtain ⟨_, e14, z14, rfl⟩ := hc 8 14 .bool (by kernel_rfl)
 obtain ⟨_, e15, z15, rfl⟩ := hc 8 15 .bool (by kernel_rfl)
 obtain ⟨_, e16, z16, rfl, w16⟩ := hc 8 16 (.int .u64) (by kernel_rfl)
 have w0 := Ybn w0
 have w1 := Ybn w1
 have w2 := Ybn w2
 have w3 := Ybn w3
 have w4 := Ybn w4
 have w5 := Ybn w5
 have w6 := Ybn w6
 have w7 := Ybn w7
 have w8 := Ybn w8
 have w16 := wf_u64 w16
 refine ⟨⟨fun i => if i = 0 then z0 else if i = 1 then z1 else if i = 2 then z2 else if i = 3 then z3 else if i = 4 then z4 else if i = 5 then z5 else if i = 6 then z6 else if i = 7 then z7 else 0, z8, z9, z10, z11, z12, z13, z14, z15, z16⟩, ?_, ?_, ?_, ?_⟩
 ·congr 1
  apply Array.ext_getElem?
  intro j
  by_cases hj : j < 17
  ·match j, hj with
   |0, _ => exact e0
   |1, _ => exact e1
   |2, _ => exact e2
   |3, _ => exact e3
   |4, _ => exact e4
   |5, _ => exact e5
   |6, _ => exact e6
   |7, _ => exact e7
   |8, _ => exact e8
   |9, _ => exact e9
   |10, _ => exact e10
   |11, _ => exact e11
   |12, _ => exact e12
   |13, _ => exact e13
   |14, _ => exact e14
   |15, _ => exact e15
   |16, _ => exact e16
   |j + 17, h => omega
  ·rw [Array.getElem?_eq_none (by omega), Array.getElem?_eq_none (by rw [St.size]; omega)]
 ·intro i
  simp only
  repeat' split
  all_goals omega
 ·exact w8
 ·exact w16
end
section
section
variable {w w0 w1 w2 : World} {a pb : Nat} {M M2 : Mem} {L : List (Nat × Obj)} {T s' : St} {b : Nat}
theorem Kn.start0 (hu0 : Upd [] w w0) (ha : w0.heap.size ≤ a) (hp : w0.heap.size ≤ pb) (hM : Yg w1 a pb M) (hu1 : Upd [] w0 w1) : Kn w a pb M [] w1 :=
 ⟨hM, hu0.also hu1 (by simp), by simp, List.Pairwise.nil, by simp, Nat.le_trans hu0.size hp, by simp⟩
end
end
section
structure Kq (w : World) (a pb : Nat) (M : Mem) (L : List (Nat × Obj)) (w1 : World) : Prop where
 m : Yg w1 a pb M
 u : Upd [] w w1
 v : ∀ p ∈ L, w1.heap[p.1]? = some p.2
 s : L.Pairwise (fun p q => p.1 ≠ q.1)
 t : ∀ p ∈ L, p.1 ≠ pb ∧ p.1 ≠ a
 l : w.heap.size ≤ pb
 w : ∀ p ∈ L, w.heap.size ≤ p.1
section
variable {w w0 w1 w2 : World} {a pb b : Nat} {M M2 : Mem} {L : List (Nat × Obj)} {T s' : St} {o o' : Obj}
theorem Kq.of (h : Kn w a pb M L w1) : Kq w a pb M L w1 := ⟨h.m, h.u, h.v, h.s.imp (fun h => Nat.ne_of_gt h), fun p hp => (h.t p hp).2, h.l, h.w⟩
theorem Kq.step (h : Kq w a pb M L w1) (hm : Yg w2 a pb M2) (u : Upd [pb] w1 w2) : Kq w a pb M2 L w2 :=
 ⟨hm, h.u.also u (by have := h.l; simp <;> omega), fun p hp => u.get (h.v p hp) (by have := (h.t p hp).1; simpa using this), h.s, h.t, h.l, h.w⟩
theorem Kq.quiet (h : Kq w a pb M L w1) (u : Upd [] w1 w2) : Kq w a pb M L w2 :=
 ⟨h.m.keep u (by simp) (by simp), h.u.also u (by simp), fun p hp => u.get (h.v p hp) (by simp), h.s, h.t, h.l, h.w⟩
theorem Kq.get (h : Kq w a pb M L w1) (n : Nat) (hn : L[n]? = some (b, o)) : w1.heap[b]? = some o := h.v (b, o) (List.mem_of_getElem? hn)
theorem Kq.lts (h : Kq w a pb M L w1) : (∀ p ∈ L, p.1 < w1.heap.size) ∧ a < w1.heap.size ∧ pb < w1.heap.size :=
 ⟨fun p hp => Yf (h.v p hp), by obtain ⟨C, _, hc⟩ := h.m.hd; exact Yf hc, by obtain ⟨C, _, hc⟩ := h.m.pg; exact Yf hc⟩
theorem Kq.put (h : Kq w a pb M L w1) (n : Nat) (hn : L[n]? = some (b, o)) (u : Upd [b] w1 w2) (ho : w2.heap[b]? = some o') : Kq w a pb M (L.set n (b, o')) w2 := by
 have hb := h.t (b, o) (List.mem_of_getElem? hn)
 have hw := h.w (b, o) (List.mem_of_getElem? hn)
 obtain ⟨hl, he⟩ := List.getElem?_eq_some_iff.1 hn
 have hs := List.pairwise_iff_getElem.1 h.s
 have hc : ∀ p, p ∈ L.set n (b, o') → p = (b, o') ∨ (p ∈ L ∧ p.1 ≠ b) := by
  intro p hp
  obtain ⟨j, hj⟩ := List.mem_iff_getElem?.1 hp
  rw [List.getElem?_set] at hj
  by_cases e : n = j
  ·subst e
   simp only [if_true, hl] at hj
   exact .inl (Option.some.inj hj).symm
  ·simp only [e, if_false] at hj
   obtain ⟨hl2, he2⟩ := List.getElem?_eq_some_iff.1 hj
   refine .inr ⟨List.mem_of_getElem? hj, fun hh => ?_⟩
   rcases Nat.lt_or_gt_of_ne e with h1 | h1
   ·have := hs n j hl hl2 h1; rw [he, he2] at this; exact this hh.symm
   ·have := hs j n hl2 hl h1; rw [he, he2] at this; exact this hh
 refine ⟨h.m.keep u (by simpa using fun e => hb.2 e.symm) (by simpa using fun e => hb.1 e.symm), h.u.also u (fun x hx => .inr (by rw [List.mem_singleton.1 hx]; exact hw)), fun p hp => ?_, ?_, fun p hp => ?_, h.l, fun p hp => ?_⟩
 ·rcases hc p hp with rfl | ⟨h1, h2⟩
  ·exact ho
  ·exact u.get (h.v p h1) (by simpa using h2)
 ·refine List.pairwise_iff_getElem.2 fun i j hi hj hij => ?_
  rw [List.length_set] at hi hj
  have h1 : ∀ q (hq : q < L.length) (hq2 : q < (L.set n (b, o')).length), ((L.set n (b, o'))[q]).1 = (L[q]).1 := by
   intro q hq hq2
   rw [List.getElem_set]
   split
   ·rename_i e; subst e; rw [he]
   ·rfl
  rw [h1 i hi (by rw [List.length_set]; exact hi), h1 j hj (by rw [List.length_set]; exact hj)]
  exact hs i j hi hj hij
 ·rcases hc p hp with rfl | ⟨h1, h2⟩
  ·exact hb
  ·exact h.t p h1
 ·rcases hc p hp with rfl | ⟨h1, h2⟩
  ·exact hw
  ·exact h.w p h1
theorem Kq.add (h : Kq w a pb M L w1) (hb : w.heap.size ≤ b) (hn : (∀ p ∈ L, p.1 ≠ b) ∧ b ≠ pb ∧ b ≠ a) (ho : w1.heap[b]? = some o) : Kq w a pb M ((b, o) :: L) w1 := by
 refine ⟨h.m, h.u, fun p hp => ?_, List.pairwise_cons.2 ⟨fun q hq e => hn.1 q hq e.symm, h.s⟩, fun p hp => ?_, h.l, fun p hp => ?_⟩
 ·rcases List.mem_cons.1 hp with rfl | hp
  ·exact ho
  ·exact h.v p hp
 ·rcases List.mem_cons.1 hp with rfl | hp
  ·exact ⟨hn.2.1, hn.2.2⟩
  ·exact h.t p hp
 ·rcases List.mem_cons.1 hp with rfl | hp
  ·exact hb
  ·exact h.w p hp
end
section
variable {w w1 w2 : World} {a pb g : Nat} {M : Mem} {L : List (Nat × Obj)} {T : St} {F : Flt}
theorem Kq.upd (h : Kq w a pb M L w1) (u : Upd [g] w1 w2) (hg : w.heap.size ≤ g) (hn : (∀ p ∈ L, p.1 ≠ g) ∧ g ≠ pb ∧ g ≠ a) : Kq w a pb M L w2 :=
 ⟨h.m.keep u (by simpa using fun e => hn.2.2 e.symm) (by simpa using fun e => hn.2.1 e.symm), h.u.also u (fun x hx => .inr (by rw [List.mem_singleton.1 hx]; exact hg)), fun p hp => u.get (h.v p hp) (by simpa using hn.1 p hp), h.s, h.t, h.l, h.w⟩
theorem Kq.two (h : Kq w a pb M L w1) (h2 : w2.heap[w1.heap.size]? = some (.cells T.cells 28 (0, 0)) ∧ w2.heap[w1.heap.size + 1]? = some (.cells #[.int .i64 0, .int .u32 0, .int .u32 0, .int .i64 0] 37 (0, 0)) ∧ Upd [] w1 w2) :
  Kq w a pb M ((w1.heap.size + 1, .cells (Ym F) 37 (0, 0)) :: (w1.heap.size, .cells T.cells 28 (0, 0)) :: L) ((((w2.setCell ⟨w1.heap.size + 1, 0, none⟩ (.int .i64 F.k)).setCell ⟨w1.heap.size + 1, 1, none⟩ (.int .u32 F.pc)).setCell ⟨w1.heap.size + 1, 2, none⟩ (.int .u32 F.a)).setCell ⟨w1.heap.size + 1, 3, none⟩ (.int .i64 F.wt)) := by
 have hl := h.lts
 have hu := h.u.size
 have u4 := Ycv (S := [w1.heap.size + 1]) (b := w1.heap.size + 1) (Upd.refl _ w2) (.inl (by simp)) (.int .i64 F.k) (.int .u32 F.pc) (.int .u32 F.a) (.int .i64 F.wt)
 have hf := Ye7 h2.2.1 (.int .i64 F.k) (.int .u32 F.pc) (.int .u32 F.a) (.int .i64 F.wt)
 have h3 := (h.quiet h2.2.2).add (b := w1.heap.size) hu ⟨fun p hp => by have := hl.1 p hp; omega, by omega, by omega⟩ h2.1
 have hn : ∀ p ∈ ((w1.heap.size, Obj.cells T.cells 28 (0, 0)) :: L), p.1 ≠ w1.heap.size + 1 := by
  intro p hp
  rcases List.mem_cons.1 hp with rfl | hp
  ·dsimp only; omega
  ·have := hl.1 p hp; omega
 exact (h3.upd u4 (by omega) ⟨hn, by omega, by omega⟩).add (by omega) ⟨hn, by omega, by omega⟩ hf
end
structure Kd (w : World) (a pb : Nat) (M M2 : Mem) (L : List (Nat × Obj)) (n0 : Nat) (S : St) (F : Flt) (c e f p q : Nat) (dn : Nat → Bool) (r : Nat → Value) (w1 : World) : Prop where
 k : Kq w a pb (cond (dn c) M2 M) L w1
 b : n0 ≤ w1.heap.size
 ln : (∀ p ∈ L, p.1 < n0) ∧ a < n0 ∧ pb < n0 ∧ w.heap.size ≤ n0
 x : dn e = true → ∃ g, r e = .pointer (some ⟨g, 0, none⟩) ∧ n0 ≤ g ∧ w1.heap[g]? = some (.cells (cond (dn p) S.cells St.zero.cells) 28 (0, 0))
 y : dn f = true → ∃ g, r f = .pointer (some ⟨g, 0, none⟩) ∧ n0 ≤ g ∧ w1.heap[g]? = some (.cells (cond (dn q) (Ym F) (Ym Flt.zero)) 37 (0, 0))
 xo : dn p = true → dn e = true
 yo : dn q = true → dn f = true
theorem Ybs : (28 : TypeId) ≠ 37 := by decide
theorem wr_st (c : Array Value) (S : St) (hc : c.size = 17) : wr c 0 S.cells.toList = S.cells := Ydw c S hc
section
variable {w w1 w2 : World} {a pb n0 : Nat} {M M2 : Mem} {L : List (Nat × Obj)} {S : St} {F : Flt} {c e f p q : Nat} {dn : Nat → Bool} {r : Nat → Value}
theorem Kd.start (h : Kq w a pb M L w1) (M2 : Mem) (S : St) (F : Flt) (c e f p q : Nat) (r : Nat → Value) : Kd w a pb M M2 L w1.heap.size S F c e f p q (fun _ => false) r w1.drew :=
 ⟨h.quiet (Upd.refl [] w1).drew, ((Upd.refl [] w1).drew).size, ⟨h.lts.1, h.lts.2.1, h.lts.2.2, h.u.size⟩, fun h => (by cases h), fun h => (by cases h), fun h => (by cases h), fun h => (by cases h)⟩
theorem Kd.quiet (h : Kd w a pb M M2 L n0 S F c e f p q dn r w1) (u : Upd [] w1 w2) (j : Nat) (h1 : c ≠ j) (h2 : e ≠ j) (h3 : f ≠ j) (h4 : p ≠ j) (h5 : q ≠ j) : Kd w a pb M M2 L n0 S F c e f p q (Yn dn j) r w2 := by
 refine ⟨by rw [Ya h1]; exact h.k.quiet u, Nat.le_trans h.b u.size, h.ln, fun hx => ?_, fun hx => ?_, fun hx => ?_, fun hx => ?_⟩
 ·rw [Ya h2] at hx; rw [Ya h4]; obtain ⟨g, e1, e2, e3⟩ := h.x hx; exact ⟨g, e1, e2, u.get e3 (by simp)⟩
 ·rw [Ya h3] at hx; rw [Ya h5]; obtain ⟨g, e1, e2, e3⟩ := h.y hx; exact ⟨g, e1, e2, u.get e3 (by simp)⟩
 ·rw [Ya h4] at hx; rw [Ya h2]; exact h.xo hx
 ·rw [Ya h5] at hx; rw [Ya h3]; exact h.yo hx
theorem Kd.same (h : Kd w a pb M M2 L n0 S F c e f p q dn r w1) (j : Nat) (h1 : c ≠ j) (h2 : e ≠ j) (h3 : f ≠ j) (h4 : p ≠ j) (h5 : q ≠ j) : Kd w a pb M M2 L n0 S F c e f p q (Yn dn j) r w1 := h.quiet (Upd.refl [] w1) j h1 h2 h3 h4 h5
theorem Kd.call (h : Kd w a pb M M2 L n0 S F c e f p q dn r w1) (hm : Yg w2 a pb M2) (u : Upd [pb] w1 w2) (h2 : e ≠ c) (h3 : f ≠ c) (h4 : p ≠ c) (h5 : q ≠ c) : Kd w a pb M M2 L n0 S F c e f p q (Yn dn c) r w2 := by
 have hl := h.ln
 refine ⟨by rw [Yar]; exact h.k.step hm u, Nat.le_trans h.b u.size, h.ln, fun hx => ?_, fun hx => ?_, fun hx => ?_, fun hx => ?_⟩
 ·rw [Ya h2] at hx; rw [Ya h4]; obtain ⟨g, e1, e2, e3⟩ := h.x hx; exact ⟨g, e1, e2, u.get e3 (by simp; omega)⟩
 ·rw [Ya h3] at hx; rw [Ya h5]; obtain ⟨g, e1, e2, e3⟩ := h.y hx; exact ⟨g, e1, e2, u.get e3 (by simp; omega)⟩
 ·rw [Ya h4] at hx; rw [Ya h2]; exact h.xo hx
 ·rw [Ya h5] at hx; rw [Ya h3]; exact h.yo hx
theorem Kd.layS (h : Kd w a pb M M2 L n0 S F c e f p q dn r w1) (hd : dn e = false) (h1 : c ≠ e) (h3 : f ≠ e) (h4 : p ≠ e) (h5 : q ≠ e) : Kd w a pb M M2 L n0 S F c e f p q (Yn dn e) (Ya7 r e (.pointer (some ⟨w1.heap.size, 0, none⟩))) (w1.alloc (.cells St.zero.cells 28)) := by
 have hp : dn p = false := by
  cases hh : dn p with
  |false => rfl
  |true => rw [h.xo hh] at hd; cases hd
 have u := (Upd.refl [] w1).alloc (.cells St.zero.cells 28)
 refine ⟨by rw [Ya h1]; exact h.k.quiet u, Nat.le_trans h.b u.size, h.ln, fun _ => ⟨_, Ydo, h.b, ?_⟩, fun hx => ?_, fun _ => Yar, fun hx => ?_⟩
 ·rw [Ya h4, hp]; exact heap_alloc_new _ _
 ·rw [Ya h3] at hx; rw [Ya h5]; obtain ⟨g, e1, e2, e3⟩ := h.y hx; exact ⟨g, by rw [Ycd h3]; exact e1, e2, u.get e3 (by simp)⟩
 ·rw [Ya h5] at hx; rw [Ya h3]; exact h.yo hx
theorem Kd.layF (h : Kd w a pb M M2 L n0 S F c e f p q dn r w1) (hd : dn f = false) (h1 : c ≠ f) (h3 : e ≠ f) (h4 : p ≠ f) (h5 : q ≠ f) : Kd w a pb M M2 L n0 S F c e f p q (Yn dn f) (Ya7 r f (.pointer (some ⟨w1.heap.size, 0, none⟩))) (w1.alloc (.cells (Ym Flt.zero) 37)) := by
 have hq : dn q = false := by
  cases hh : dn q with
  |false => rfl
  |true => rw [h.yo hh] at hd; cases hd
 have u := (Upd.refl [] w1).alloc (.cells (Ym Flt.zero) 37)
 refine ⟨by rw [Ya h1]; exact h.k.quiet u, Nat.le_trans h.b u.size, h.ln, fun hx => ?_, fun _ => ⟨_, Ydo, h.b, ?_⟩, fun hx => ?_, fun _ => Yar⟩
 ·rw [Ya h3] at hx; rw [Ya h4]; obtain ⟨g, e1, e2, e3⟩ := h.x hx; exact ⟨g, by rw [Ycd h3]; exact e1, e2, u.get e3 (by simp)⟩
 ·rw [Ya h5, hq]; exact heap_alloc_new _ _
 ·rw [Ya h4] at hx; rw [Ya h3]; exact h.xo hx
theorem Kd.keepL (h : Kd w a pb M M2 L n0 S F c e f p q dn r w1) {g : Nat} (hg : n0 ≤ g) (u : Upd [g] w1 w2) (m : Mem) (hm : Yg w1 a pb m) : Kq w a pb m L w2 := by
 have hl := h.ln
 exact ⟨hm.keep u (by simp; omega) (by simp; omega), h.k.u.also u (fun x hx => .inr (by rw [List.mem_singleton.1 hx]; omega)), fun p hp => u.get (h.k.v p hp) (by have := hl.1 p hp; simp; omega), h.k.s, h.k.t, h.k.l, h.k.w⟩
theorem Kd.putS (h : Kd w a pb M M2 L n0 S F c e f p q dn r w1) (hd : dn e = true) {g : Nat} (e1 : r e = .pointer (some ⟨g, 0, none⟩)) (h1 : c ≠ p) (h2 : e ≠ p) (h3 : f ≠ p) (h5 : q ≠ p) : Kd w a pb M M2 L n0 S F c e f p q (Yn dn p) r (w1.setCells g 0 S.cells.toList) := by
 obtain ⟨g', e1', e2, e3⟩ := h.x hd
 obtain rfl : g' = g := by rw [e1] at e1'; injection e1' with e; injection e with e; injection e with e; exact e.symm
 have u := (Upd.refl [g'] w1).setCells (q := g') (.inl (by simp)) S.cells.toList 0
 refine ⟨by rw [Ya h1]; exact h.keepL e2 u _ h.k.m, Nat.le_trans h.b u.size, h.ln, fun _ => ⟨g', e1, e2, ?_⟩, fun hx => ?_, fun _ => by rw [Ya h2]; exact hd, fun hx => ?_⟩
 ·rw [Yar]
  show _ = some (Obj.cells S.cells 28 (0, 0))
  rw [Yq _ _ _ _ e3, wr_st _ S (by cases dn p <;> rfl)]
 ·rw [Ya h3] at hx; rw [Ya h5]
  obtain ⟨k, k1, k2, k3⟩ := h.y hx
  refine ⟨k, k1, k2, u.get k3 ?_⟩
  simp only [List.mem_singleton]
  rintro rfl
  rw [e3] at k3
  injection k3 with k3; injection k3 with _ k3 _; exact Ybs k3
 ·rw [Ya h5] at hx; rw [Ya h3]; exact h.yo hx
theorem Kd.putF (h : Kd w a pb M M2 L n0 S F c e f p q dn r w1) (hd : dn f = true) {g : Nat} (e1 : r f = .pointer (some ⟨g, 0, none⟩)) (h1 : c ≠ q) (h2 : e ≠ q) (h3 : f ≠ q) (h5 : p ≠ q) : Kd w a pb M M2 L n0 S F c e f p q (Yn dn q) r (w1.setCells g 0 (Ym F).toList) := by
 obtain ⟨g', e1', e2, e3⟩ := h.y hd
 obtain rfl : g' = g := by rw [e1] at e1'; injection e1' with e; injection e with e; injection e with e; exact e.symm
 have u := (Upd.refl [g'] w1).setCells (q := g') (.inl (by simp)) (Ym F).toList 0
 refine ⟨by rw [Ya h1]; exact h.keepL e2 u _ h.k.m, Nat.le_trans h.b u.size, h.ln, fun hx => ?_, fun _ => ⟨g', e1, e2, ?_⟩, fun hx => ?_, fun _ => by rw [Ya h3]; exact hd⟩
 ·rw [Ya h2] at hx; rw [Ya h5]
  obtain ⟨k, k1, k2, k3⟩ := h.x hx
  refine ⟨k, k1, k2, u.get k3 ?_⟩
  simp only [List.mem_singleton]
  rintro rfl
  rw [e3] at k3
  injection k3 with k3; injection k3 with _ k3 _; exact Ybs k3.symm
 ·rw [Yar]
  show _ = some (Obj.cells (Ym F) 37 (0, 0))
  rw [Yq _ _ _ _ e3]
  cases dn q <;> rfl
 ·rw [Ya h5] at hx; rw [Ya h2]; exact h.xo hx
theorem Kd.fin (h : Kd w a pb M M2 L n0 S F c e f p q dn r w1) (hc : dn c = true) (he : dn e = true) (hf : dn f = true) (hp : dn p = true) (hq : dn q = true) :
  ∃ g1 g2, r e = .pointer (some ⟨g1, 0, none⟩) ∧ r f = .pointer (some ⟨g2, 0, none⟩) ∧ Kq w a pb M2 ((g2, .cells (Ym F) 37 (0, 0)) :: (g1, .cells S.cells 28 (0, 0)) :: L) w1 := by
 obtain ⟨g1, a1, a2, a3⟩ := h.x he
 obtain ⟨g2, b1, b2, b3⟩ := h.y hf
 have hl := h.ln
 rw [hp] at a3
 rw [hq] at b3
 have hk := h.k
 rw [hc] at hk
 have h1 := hk.add (b := g1) (by omega) ⟨fun p hp => by have := hl.1 p hp; omega, by omega, by omega⟩ a3
 refine ⟨g1, g2, a1, b1, h1.add (b := g2) (by omega) ⟨fun p hp => ?_, by omega, by omega⟩ b3⟩
 rcases List.mem_cons.1 hp with rfl | hp
 ·dsimp only
  rintro rfl
  rw [a3] at b3
  injection b3 with b3; injection b3 with _ b3 _; exact Ybs b3
 ·have := hl.1 p hp; omega
end
end
def D0 : Mi → Rn → MO := fun _ r => ⟨0, r, Flt.zero⟩
theorem D0_3 (x : Mi) (r : Rn) : (D0 x r).k = 0 ∨ (D0 x r).k = 1 ∨ (D0 x r).k = 2 := .inl rfl
def kL4 : List Mi := [⟨16, 0, 0, 0, 0, 5, false⟩, ⟨1, 1, 0, 0, 0, 7, false⟩, ⟨3, 0, 1, 0, 0, 2, false⟩, ⟨14, 0, 1, 0, 0, 0, false⟩]
def kL3 : List Mi := [⟨16, 0, 0, 0, 0, 5, false⟩, ⟨1, 1, 0, 0, 0, 7, false⟩, ⟨3, 0, 1, 0, 0, 2, false⟩]
def kLd : Mi := ⟨4, 0, 1, 0, 0, 0, false⟩
theorem kL4_ok : ∀ x ∈ kL4, x.Ok := by
 intro x hx
 simp only [kL4, List.mem_cons, List.not_mem_nil, or_false] at hx
 rcases hx with rfl | rfl | rfl | rfl <;> exact ⟨by decide⟩
theorem kL3_ok : ∀ x ∈ kL3 ++ [kLd], x.Ok := by
 intro x hx
 simp only [kL3, kLd, List.cons_append, List.nil_append, List.mem_cons, List.not_mem_nil, or_false] at hx
 rcases hx with rfl | rfl | rfl | rfl <;> exact ⟨by decide⟩
theorem kL4_as : ∀ x ∈ kL4, Yba (Yu D0) x := by
 intro x hx
 simp only [kL4, List.mem_cons, List.not_mem_nil, or_false] at hx
 rcases hx with rfl | rfl | rfl | rfl
 ·exact Ye4 rfl (by decide +kernel) ⟨by decide⟩
 ·exact Yd2 rfl (by decide +kernel) ⟨by decide⟩
 ·exact Ydm rfl (by decide +kernel) ⟨by decide⟩
 ·exact as_goto rfl (by decide +kernel) ⟨by decide⟩
theorem kL3_as : ∀ x ∈ kL3 ++ [kLd], Yba (Yu D0) x := by
 intro x hx
 simp only [kL3, kLd, List.cons_append, List.nil_append, List.mem_cons, List.not_mem_nil, or_false] at hx
 rcases hx with rfl | rfl | rfl | rfl
 ·exact Ye4 rfl (by decide +kernel) ⟨by decide⟩
 ·exact Yd2 rfl (by decide +kernel) ⟨by decide⟩
 ·exact Ydm rfl (by decide +kernel) ⟨by decide⟩
 ·exact as_load rfl (by decide +kernel) ⟨by decide⟩
def kO1 : MO := Yae (Yu D0) kL4 (rn0 St.zero)
def kO2 : MO := Yae (Yu D0) (kL3 ++ [kLd]) (rn0 St.zero)
theorem kO1_k : outK kO1 = true ∧ outQ kO1 = false ∧ (Ybr kO1).R 2 = 7 ∧ (Ybr kO1).pc = 7 := by decide +kernel
theorem kO2_k : outK kO2 = false ∧ outQ kO2 = false ∧ (Ybr kO2).R 2 = 0 ∧ (Ybr kO2).pc = 5 := by decide +kernel
theorem kO1_f : outF kO1 = Flt.zero := by kernel_rfl
theorem kO2_f : outF kO2 = ⟨1, 5, 7, 1⟩ := by kernel_rfl
theorem Kn.quiet' {w w1 w2 : World} {a pb : Nat} {M : Mem} {L : List (Nat × Obj)} (h : Kn w a pb M L w1) (u : Upd [] w1 w2) : Kn w a pb M L w2 := h.step (h.m.keep u (by simp) (by simp)) (u.mono (by simp))
theorem Ych (w : World) : Calls Tryd.prog 7 #[] w fun e w' => e = .returned (.bool true) ∧ Upd [] w w' := by
 obtain ⟨S1, hS1⟩ : ∃ S, Ybr kO1 = S := ⟨_, rfl⟩
 obtain ⟨S2, hS2⟩ : ∃ S, Ybr kO2 = S := ⟨_, rfl⟩
 have a1 := kO1_k
 have a2 := kO2_k
 rw [hS1] at a1
 rw [hS2] at a2
 have c12 : S1.cells[2]? = some (.int .u32 7) := by rw [St.cR _ 2 (by decide), a1.2.2.1]
 have c18 : S1.cells[8]? = some (.int .u32 7) := by rw [show S1.cells[8]? = some (.int .u32 S1.pc) from rfl, a1.2.2.2]
 have c22 : S2.cells[2]? = some (.int .u32 0) := by rw [St.cR _ 2 (by decide), a2.2.2.1]
 have c28 : S2.cells[8]? = some (.int .u32 5) := by rw [show S2.cells[8]? = some (.int .u32 S2.pc) from rfl, a2.2.2.2]
 have HK := Yh_ (And.intro hS1 (And.intro hS2 (And.intro a1 a2)))
 clear hS1 hS2 a1 a2
 have heqF : ∀ w, (binOp .eql 37 (.agg #[.int .i64 1, .int .u32 5, .int .u32 7, .int .i64 1]) (.agg #[.int .i64 1, .int .u32 5, .int .u32 7, .int .i64 1])).run Tryd.prog w = .ok (.bool true) w := fun w => by kernel_rfl
 have tok1 : True := trivial
 go_enter Tryd.func7, Tryd.ntmps7
 go_upto_region 2 with (go_at_call 9; refine (Yfr _).mono ?_; rintro e w1 ⟨ma, pb, rfl, ha, hp, hM1, hu1⟩; have K0 := Yh_ (show Kn w ma pb Mem.zero [] w1 from Kn.start0 (Upd.refl [] w) ha hp hM1 hu1); clear ha hp hM1 hu1)
 go_upto_region 3 with fail
 have hm := heap_alloc_new w1 (.cells (Yp kL4).toArray 35)
 have hk := K0.out.add ((Upd.refl [] w1).alloc (.cells (Yp kL4).toArray 35)) (Nat.le_refl _) hm
 change Code.wp _ _ _ _ (w1.alloc (.cells (Yp kL4).toArray 35))
 generalize w1.alloc (.cells (Yp kL4).toArray 35) = w2 at *
 generalize w1.heap.size = g1 at *
 have K1 := Yh_ hk
 clear hm hk K0
 go_upto_region 4 with (first
  |(have _t := K1; clear _t; go_at_call 10; refine (Yft (Yu D0) ma pb g1 St.zero _ kL4 _ K1.out.m St.zero_ok (Ybx (K1.out.get 0 rfl)) kL4_ok (by unfold maxLen; decide) kL4_as (Yem D0_3) (K1.out.t _ (List.mem_singleton.2 rfl)).2.1 (by decide +kernel)).mono ?_; rintro e w3 ⟨rfl, hm, hu⟩; rw [show Yae (Yu D0) kL4 (rn0 St.zero) = kO1 from rfl, HK.out.1, kO1_f, HK.out.2.2.1.1, HK.out.2.2.1.2.1, show Flt.zero.val = .agg #[.int .i64 0, .int .u32 0, .int .u32 0, .int .i64 0] from rfl]; have K2 := Yh_ (K1.out.step hm hu); clear hm hu K1)
  |(have _t := K2; clear _t; refine Yaw 28 rfl ?_; refine Yac S1 w3.heap.size rfl _ _ rfl rfl rfl (heap_alloc2_old w3 _ _) rfl ?_; intro w4 hw; have hk := K2.out.two (F := Flt.zero) (Ycn hw); have c37 := Yb (Ycn hw).2.1; have f37 := Yi (Ycn hw).2.1; have K3 := Yh_ hk; clear hk K2 hw))
 have K4 := Yh_ (show Kn w ma pb Mem.zero [(w3.heap.size + 1, .cells (Ym Flt.zero) 37 (0, 0)), (w3.heap.size, .cells S1.cells 28 (0, 0)), (g1, .cells (Yp kL4).toArray 35 (0, 0))] ((((w4.setCell ⟨w3.heap.size + 1, 0, none⟩ (.int .i64 0)).setCell ⟨w3.heap.size + 1, 1, none⟩ (.int .u32 0)).setCell ⟨w3.heap.size + 1, 2, none⟩ (.int .u32 0)).setCell ⟨w3.heap.size + 1, 3, none⟩ (.int .i64 0)) from K3.out)
 clear K3 c37 f37
 generalize (((w4.setCell ⟨w3.heap.size + 1, 0, none⟩ (.int .i64 0)).setCell ⟨w3.heap.size + 1, 1, none⟩ (.int .u32 0)).setCell ⟨w3.heap.size + 1, 2, none⟩ (.int .u32 0)).setCell ⟨w3.heap.size + 1, 3, none⟩ (.int .i64 0) = w5 at *
 generalize w3.heap.size = g3 at *
 have tkA : True := trivial
 have tkB : True := trivial
 go_upto_region 5 with (first
  |(have _t := tkA; clear _t; at_builtin; refine Ybh rfl _ _ rfl w5.heap.size (.slice none 0 0) [] rfl (ownM_nil _ _) _ kL3 g1 rfl ((Ybx (c := 4) (K4.out.get 2 rfl)).cut 3 (by decide)) (by decide) (Nat.le_refl _) ?_; intro v6 w6 hg6; have G6 := Yh_ hg6; clear hg6 tkA)
  |(have _t := tkB; have _t2 := G6; clear _t _t2; at_builtin; go_loud (refine Ybh rfl _ _ rfl w5.heap.size v6 kL3 rfl (G6.out.o.old ((Upd.refl [] w6).alloc _) (by simp)) _ [kLd] w6.heap.size rfl (Ybx (l := [kLd]) (c := 1) (T := 35) (f := (0, 0)) (heap_alloc_new w6 (.cells (Yp [kLd]).toArray 35))) (by decide) (Nat.le_trans G6.out.u.size (by simp)) ?_); intro v7 w7 hg7; have hb7 := G6.out.o.block; have hu7 : Upd [] w5 w7 := (G6.out.u.alloc (.cells (Yp [kLd]).toArray 35)).new hg7.u (fun x hx => (hb7 x (by simpa using hx)).1); have G7 := Yh_ (And.intro hg7.o (And.intro (K4.out.quiet' hu7) K4.out.m.pl)); clear hb7 hu7 hg7 tkB G6 K4)
  |(have _t := G7; clear _t; go_at_call 10; obtain ⟨g7, hs7, _, hs8⟩ := G7.out.1.sl; have HS7 := Yh_ (And.intro hs7 (hs8 (by decide))); clear hs7 hs8; refine (Yft (Yu D0) ma pb g7 St.zero v7 (kL3 ++ [kLd]) _ G7.out.2.1.m St.zero_ok HS7.out.1 kL3_ok (by unfold maxLen; decide) kL3_as (Yem D0_3) (by have := HS7.out.2; have := G7.out.2.2; omega) (by decide +kernel)).mono ?_; rintro e w8 ⟨rfl, hm, hu⟩; rw [show Yae (Yu D0) (kL3 ++ [kLd]) (rn0 St.zero) = kO2 from rfl, HK.out.2.1, kO2_f, HK.out.2.2.2.1, HK.out.2.2.2.2.1, show (⟨1, 5, 7, 1⟩ : Flt).val = .agg #[.int .i64 1, .int .u32 5, .int .u32 7, .int .i64 1] from rfl]; have K8 := Yh_ (G7.out.2.1.step hm hu); clear hm hu G7 HS7)
  |(have _t := K8; clear _t; refine Yaw 28 rfl ?_; refine Yac S2 w8.heap.size rfl _ _ rfl rfl rfl (heap_alloc2_old w8 _ _) rfl ?_; intro w9 hw; have hk := K8.out.two (F := ⟨1, 5, 7, 1⟩) (Ycn hw); have c37 := Yb (Ycn hw).2.1; have f37 := Yi (Ycn hw).2.1; have K9 := Yh_ hk; clear hk K8 hw))
 have K10 := Yh_ (show Kn w ma pb Mem.zero [(w8.heap.size + 1, .cells (Ym ⟨1, 5, 7, 1⟩) 37 (0, 0)), (w8.heap.size, .cells S2.cells 28 (0, 0)), (g3 + 1, .cells (Ym Flt.zero) 37 (0, 0)), (g3, .cells S1.cells 28 (0, 0)), (g1, .cells (Yp kL4).toArray 35 (0, 0))] ((((w9.setCell ⟨w8.heap.size + 1, 0, none⟩ (.int .i64 1)).setCell ⟨w8.heap.size + 1, 1, none⟩ (.int .u32 5)).setCell ⟨w8.heap.size + 1, 2, none⟩ (.int .u32 7)).setCell ⟨w8.heap.size + 1, 3, none⟩ (.int .i64 1)) from K9.out)
 clear K9 c37 f37
 generalize ((((w9.setCell ⟨w8.heap.size + 1, 0, none⟩ (.int .i64 1)).setCell ⟨w8.heap.size + 1, 1, none⟩ (.int .u32 5)).setCell ⟨w8.heap.size + 1, 2, none⟩ (.int .u32 7)).setCell ⟨w8.heap.size + 1, 3, none⟩ (.int .i64 1)) = w10 at *
 generalize w8.heap.size = g8 at *
 have tkC : True := trivial
 have tkD : True := trivial
 have tkE : True := trivial
 go_wp2_with (first
  |(have _t := tkC; clear _t; go_at_call 8; refine (Ycm _ kL4 g1 _ (Ybx (c := 4) (K10.out.get 4 rfl)) kL4_ok (by unfold maxLen; decide)).mono ?_; rintro e w11 ⟨rfl, hu⟩; rw [show isL kL4 = true by decide +kernel]; have K11 := Yh_ (K10.out.quiet' hu); clear hu K10 tkC)
  |(have _t := tkD; have _t2 := K11; clear _t _t2; go_at_call 8; refine (Ycm _ [Mi.zero] w11.heap.size _ (Ybx (l := [Mi.zero]) (c := 1) (T := 35) (f := (0, 0)) (heap_alloc_new w11 (.cells (Yp [Mi.zero]).toArray 35))) (by intro x hx; rw [List.mem_singleton.1 hx]; exact ⟨by decide⟩) (by unfold maxLen; decide)).mono ?_; rintro e w12 ⟨rfl, hu⟩; rw [show isL [Mi.zero] = false by decide +kernel]; have K12 := Yh_ (K11.out.quiet' (((Upd.refl [] w11).alloc (.cells (Yp [Mi.zero]).toArray 35)).also hu (by simp))); clear hu K11 tkD; have d1 : ∀ o, w12.cell? ⟨g8 + 1, o, none⟩ = #[.int .i64 1, .int .u32 5, .int .u32 7, .int .i64 1][o]? := Yb (K12.out.get 0 rfl); have d2 := Yb (K12.out.get 1 rfl); have d3 := Yb (K12.out.get 3 rfl); have d4 : ∀ o, w12.cell? ⟨g1, o, none⟩ = #[.int .i64 16, .int .i64 0, .int .i64 0, .int .i64 0, .int .i64 0, .int .u32 5, .bool false, .int .i64 1, .int .i64 1, .int .i64 0, .int .i64 0, .int .i64 0, .int .u32 7, .bool false, .int .i64 3, .int .i64 0, .int .i64 1, .int .i64 0, .int .i64 0, .int .u32 2, .bool false, .int .i64 14, .int .i64 0, .int .i64 1, .int .i64 0, .int .i64 0, .int .u32 0, .bool false][o]? := Yb (K12.out.get 4 rfl))
  |(have _t := tkE; have _t2 := K12; clear _t _t2; go_at_call 11; refine (Text_one _).mono ?_; rintro e w13 ⟨rfl, hu⟩; have K13 := Yh_ (K12.out.quiet' hu); clear hu K12 tkE d1 d2 d3 d4))
 go_ret
 exact ⟨rfl, K13.out.u⟩
theorem Yfk (f : Mi → Rn → MO) (l m : List Mi) (r : Rn) (h : (Yae f l r).k = 0) : Yae f (l ++ m) r = Yae f m (Yae f l r).r := by
 induction l generalizing r with
 |nil => rfl
 |cons x l ih =>
  simp only [Yae, List.cons_append] at h ⊢
  by_cases hx : (f x r).k = 0
  ·rw [if_pos hx] at h ⊢
   rw [if_pos hx]
   exact ih _ h
  ·rw [if_neg hx] at h; exact absurd h hx
theorem Ygf {f : Mi → Rn → MO} {l : List Mi} {k : Nat} {x : Mi} {r r0 : Rn} (hx : l[k]? = some x) (h : Yae f (l.take k) r0 = ⟨0, r, Flt.zero⟩) (h0 : (f x r).k = 0) (hz : (f x r).F = Flt.zero) : Yae f (l.take (k + 1)) r0 = ⟨0, (f x r).r, Flt.zero⟩ := by
 have hk : k < l.length := (List.getElem?_eq_some_iff.1 hx).1
 have e : l.take (k + 1) = l.take k ++ [x] := by
  rw [List.take_add_one, hx]; rfl
 rw [e, Yfk _ _ _ _ (by rw [h]), h]
 simp only [Yae, h0, if_true]
theorem Run_of (f : Mi → Rn → MO) (ma pb g : Nat) (s : St) (v : Value) (l : List Mi) (w : World) (hM : Yg w ma pb Mem.zero) (hs : s.Ok) (hv : MSl w v l g) (hok : ∀ x ∈ l, x.Ok) (hn : l.length ≤ maxLen) (hd : ∀ k x, l[k]? = some x → (Yae f (l.take k) (rn0 s)).k = 0 → Yba f x) (hz : ∀ x r, (f x r).k = 0 → (f x r).F = Flt.zero) (hf3 : ∀ x r, (f x r).k = 0 ∨ (f x r).k = 1 ∨ (f x r).k = 2) (hg : g ≠ pb) (his : isL l = true) :
  Calls Tryd.prog 10 #[.pointer (some ⟨ma, 0, none⟩), .agg s.cells, v] w fun e w' => e = .returned (.tuple #[.agg (Ybr (Yae f l (rn0 s))).cells, (outF (Yae f l (rn0 s))).val, .bool (outK (Yae f l (rn0 s))), .bool (outQ (Yae f l (rn0 s)))]) ∧ Yg w' ma pb Mem.zero ∧ Upd [pb] w w' := by
 obtain ⟨b, c, rfl⟩ := hv.form
 obtain ⟨O, hO⟩ : ∃ O, Yae f l (rn0 s) = O := ⟨_, rfl⟩
 rw [hO]
 have HO := Yh_ hO
 have HM := Yh_ (And.intro hM (And.intro hs (And.intro hv (And.intro hok (And.intro hn (And.intro hd (And.intro hf3 (And.intro hg his))))))))
 have HZ := Yh_ hz
 have HS := Yh_ (RuS.start w s)
 have U0 := Yh_ (ruW_up w s)
 have Z0 := Yh_ (Yfa w s)
 have HP := Yh_ (And.intro hM.al hM.pl)
 clear hO hM hs hv hok hd hf3 hg his
 obtain ⟨ln, hln⟩ : ∃ ln : Int, ln = (l.length : Int) := ⟨_, rfl⟩
 have ec : ((l.length : Nat) : Int) = ln := hln.symm
 have HL := Yh_ (And.intro hln hn)
 clear hln hn
 have tokL : True := trivial
 have tokR : True := trivial
 go_enter_defers Tryd.func10, Tryd.ntmps10
 go_upto_region 1 with fail
 change Code.wp _ _ _ _ (ruW w s)
 generalize ruW w s = w1 at *
 go_upto_region 5 with (first
  |(have _t := tokR; clear _t; go_at_call 8; refine (Ycm _ l g _ (HM.out.2.2.1.keep U0.out (by simp)) HM.out.2.2.2.1 HM.out.2.2.2.2.1).mono ?_; rintro e w2 ⟨rfl, hu⟩; rw [HM.out.2.2.2.2.2.2.2.2]; have H2 := Yh_ (And.intro (HS.out.keep hu (by simp)) (And.intro (U0.out.also hu (by simp)) (Nat.le_trans (Nat.le_of_eq Z0.out.symm) hu.size))); clear hu tokR)
  |(refine Yah 28 rfl ?_; refine Ybd s w.heap.size rfl _ rfl rfl H2.out.1.zs ?_)
  |(refine Ycf rfl ma s s _ _ _ rfl rfl rfl rfl ?_))
 have hst : RuL w s ma pb w2.heap.size (rn0 s) ((w2.alloc (.cells (Yj ma (rn0 s)) 54)).alloc (.cells #[.pointer (some ⟨w2.heap.size, 0, none⟩)] 52)) := by
  have hu := ((Upd.refl [] w2).alloc (.cells (Yj ma (rn0 s)) 54)).alloc (.cells #[.pointer (some ⟨w2.heap.size, 0, none⟩)] 52)
  have h5 := H2.out.2.2
  have hp := HP.out
  refine ⟨H2.out.1.keep hu (by simp), ⟨⟨Ye _ (heap_alloc_new _ _), HM.out.2.1, HM.out.2.1, fun _ => by show (0 : Int) ≤ 0 ∧ (0 : Int) < 4294967296; decide⟩, (HM.out.1.keep H2.out.2.1 (by simp) (by simp)).keep hu (by simp) (by simp), by omega, by omega⟩, ?_, (H2.out.2.1.also hu (by simp)).mono (by simp), by omega, hp.2⟩
  have := heap_alloc_new (w2.alloc (.cells (Yj ma (rn0 s)) 54)) (.cells #[.pointer (some ⟨w2.heap.size, 0, none⟩)] 52)
  rwa [show (w2.alloc (.cells (Yj ma (rn0 s)) 54)).heap.size = w2.heap.size + 1 from by simp] at this
 have K0 := Yh_ hst
 clear hst H2 U0 Z0 HS
 change Code.wp _ _ _ _ ((w2.alloc (.cells (Yj ma (rn0 s)) 54)).alloc (.cells #[.pointer (some ⟨w2.heap.size, 0, none⟩)] 52))
 generalize (w2.alloc (.cells (Yj ma (rn0 s)) 54)).alloc (.cells #[.pointer (some ⟨w2.heap.size, 0, none⟩)] 52) = w3 at *
 generalize w2.heap.size = d at *
 go_wp2_with fail
 go_loopw [26] (fun i wr => ∃ (q : Int) (r : Rn), i = .int .i64 q ∧ Hid (0 ≤ q ∧ q ≤ ln) ∧ Hid (Yae f (l.drop q.toNat) r = O ∧ Yae f (l.take q.toNat) (rn0 s) = ⟨0, r, Flt.zero⟩) ∧ Hid (RuL w s ma pb d r wr)) (fun i _ => (ln - intOf i).toNat)
 case atStart => exact ⟨0, _, rfl, Yh_ (by have := HL.out; omega), Yh_ ⟨HO.out, rfl⟩, K0⟩
 case round =>
  clear K0 HO
  obtain ⟨q, r, rfl, hq, HO, K1⟩ := hrel
  by_cases hlt : q < ln
  ·have d1 : decide (q < ln) = true := by simp [hlt]
   have hq0 := hq.out
   have hl0 := HL.out
   obtain ⟨k, hk⟩ : ∃ k : Nat, q = k := ⟨q.toNat, by omega⟩
   have hkl : k < l.length := by omega
   obtain ⟨x, hx⟩ : ∃ x, l[k]? = some x := ⟨l[k], List.getElem?_eq_getElem hkl⟩
   obtain ⟨o, rfl⟩ := HM.out.2.2.1.block (by omega)
   have HR2 := Yh_ ((HM.out.2.2.1.keep K1.out.u (by simpa using HM.out.2.2.2.2.2.2.2.1)).at hx)
   have hxm : x ∈ l := List.mem_of_getElem? hx
   have hqt : q.toNat = k := by omega
   have hrun := HO.out.1
   have htk := HO.out.2
   rw [hqt] at htk
   rw [hqt, Yep f hx r] at hrun
   have HX := Yh_ (And.intro hx (And.intro (HM.out.2.2.2.1 x hxm) (And.intro (HM.out.2.2.2.2.2.1 k x hx (by rw [htk])) (And.intro hrun htk))))
   have hb1 : 0 ≤ q ∧ q < ln := by omega
   have e1 : wrap64 (q + 1) = q + 1 := by unfold wrap64; unfold maxLen at hl0; omega
   have HB := Yh_ (And.intro hb1 hqt)
   have h3 := HM.out.2.2.2.2.2.2.1 x r
   clear hx hxm hq0 hl0 hkl hlt hk hrun htk
   have tokA : True := trivial
   have tokB : True := trivial
   have cb := Yb (((Upd.refl [] wr).alloc (.cells Mi.zero.cells 35)).get K1.out.b (by simp))
   have hlb := Yf K1.out.b
   rcases h3 with h3 | h3 | h3
   all_goals
    have H3 := Yh_ h3
    have H3b := Yh_ (HZ.out x r)
    clear h3
    go_wp2_with (first
     |(have _t := tokA; clear _t; refine Yah 35 rfl ?_; refine Yab rfl 35 _ rfl g (o + k * 7) (by first | rfl | (rw [← HB.out.2]; rfl)) x.cells _ HR2.out Tryd.underlying35 rfl (by rw [Mi.size]; exact Ycs) ?_; clear hqt tokA)
     |(refine Yaw 35 rfl ?_; refine Ybm x wr.heap.size rfl _ _ rfl rfl rfl (heap_alloc_new wr (.cells Mi.zero.cells 35)) rfl ?_; intro w3 hw; have h3 := Ye8 (S := []) (w0 := wr) hw (heap_alloc_new wr (.cells Mi.zero.cells 35)) rfl ((Upd.refl [] wr).alloc _) (.inr (Nat.le_refl _)); clear hw cb; have cb := Yb (h3.2.get K1.out.b (by simp)); have U3 := Yh_ (And.intro (K1.out.quiet h3.2) h3.1); clear h3)
     |(have _t := U3; clear _t; refine Yah 35 rfl ?_; refine Ybt x wr.heap.size rfl _ rfl rfl U3.out.2 ?_)
     |(have _t := U3; clear _t; go_at_call 14; refine (HX.out.2.2.1 d ma pb r _ U3.out.1.a).mono ?_; intro e w4 hd4; first | (have hd5 := hd4.1 H3.out; obtain ⟨rfl, hr, hm, hu⟩ := hd5; have U4 := Yh_ (U3.out.1.call hu hr hm); clear hr hm hu U3 hd4 cb) | (have hd5 := hd4.2.1 H3.out; obtain ⟨rfl, hr, hm, hu⟩ := hd5; have U4 := Yh_ (U3.out.1.call hu hr hm); clear hr hm hu U3 hd4 cb) | (have hd5 := hd4.2.2 H3.out; obtain ⟨rfl, hr, hm, hu⟩ := hd5; have U4 := Yh_ (U3.out.1.call hu hr hm); clear hr hm hu U3 hd4 cb)))
   ·try simp only [e1]
    go_roundw
    case rel => exact ⟨q + 1, _, rfl, Yh_ (by have := HB.out; omega), Yh_ (by have h1 := HX.out.2.2.2.1; rw [if_pos H3.out] at h1; rw [show (q + 1).toNat = k + 1 by have := HB.out; omega]; exact ⟨h1, Ygf HX.out.1 HX.out.2.2.2.2 H3.out (H3b.out H3.out)⟩), U4⟩
    case measure => have := HB.out; simp only [intOf]; omega
   ·have hOe : (f x r) = O := by have h1 := HX.out.2.2.2.1; rw [if_neg (by rw [H3.out]; decide)] at h1; exact h1
    rw [hOe] at U4 H3 ⊢
    have hh := HP.out
    refine Ydf O.F _ U4.out.rv (fun w5 hr => ?_) (fun w5 hu => ⟨rfl, U4.out.a.m.keep hu (by simp; omega) (by simp; omega), U4.out.u.also hu (by simp; omega)⟩)
    rw [Ybr, outF, outK, outQ, if_pos H3.out, if_pos H3.out, H3.out]
    exact Yap rfl (Ybj 6 (w.heap.size + 1) _ rfl hr.o) (Yb7 7 (w.heap.size + 1 + 1) _ rfl hr.f) (Yal 8 (w.heap.size + 1 + 1 + 1) _ rfl hr.k) (Yal 9 (w.heap.size + 1 + 1 + 1 + 1) _ rfl hr.q)
   ·have hOe : (f x r) = O := by have h1 := HX.out.2.2.2.1; rw [if_neg (by rw [H3.out]; decide)] at h1; exact h1
    rw [hOe] at U4 H3
    have hh := HP.out
    refine Ydv _ U4.out.rv (fun w5 hr => ?_) (fun w5 hu => ⟨rfl, U4.out.a.m.keep hu (by simp; omega) (by simp; omega), U4.out.u.also hu (by simp; omega)⟩)
    rw [Ybr, outF, outK, outQ, if_neg (by rw [H3.out]; decide), if_neg (by rw [H3.out]; decide), H3.out]
    exact Yap rfl (Ybj 6 (w.heap.size + 1) _ rfl hr.o) (Yb7 7 (w.heap.size + 1 + 1) Flt.zero rfl hr.f) (Yal 8 (w.heap.size + 1 + 1 + 1) _ rfl hr.k) (Yal 9 (w.heap.size + 1 + 1 + 1 + 1) _ rfl hr.q)
  ·have hqk : q = ln := by have := hq.out; omega
   subst hqk
   have d1 : decide (q < q) = false := by simp
   have hfin : (⟨0, r, Flt.zero⟩ : MO) = O := by
    have h1 := HO.out.1
    rw [List.drop_eq_nil_of_le (by have := HL.out; omega)] at h1
    exact h1
   have HFI := Yh_ hfin
   have cb := Yb K1.out.b
   have cd := K1.out.a.r.cell
   have tokS : True := trivial
   clear hlt hfin
   go_wp2_with (first
    |(have _t := tokS; clear _t; refine Yah 28 rfl ?_; refine Yab rfl 28 _ rfl d 1 rfl r.s.cells _ K1.out.a.r.rs Tryd.underlying28 rfl (by rw [St.size]; exact Yag) ?_; clear tokS)
    |(refine Yaw 28 rfl ?_; refine Yac r.s (w.heap.size + 1) rfl _ _ rfl rfl rfl K1.out.v.zo rfl ?_; intro w6 hw; have h6 := Yaj r.s K1.out.v.zo rfl; rw [hw] at h6; have u6 : Upd [w.heap.size + 1] wr w6 := hw ▸ (Upd.refl [w.heap.size + 1] wr).setCells (.inl (by simp)) r.s.cells.toList 0; clear hw; have hf6 := u6.get K1.out.v.zf (by rw [List.mem_singleton]; omega); have hk6 := u6.get K1.out.v.zk (by rw [List.mem_singleton]; omega); have hq6 := u6.get K1.out.v.zq (by rw [List.mem_singleton]; omega); have cf := Yb hf6; have ck := Yb hk6; have cq := Yb hq6; have gf := Yi hf6; have gk := Yi hk6; have gq := Yi hq6; have H6 := Yh_ (And.intro h6 (And.intro hf6 (And.intro hk6 (And.intro hq6 u6)))); clear h6 u6 hf6 hk6 hq6))
   have hend := Yc1 (m := True) Flt.zero true false H6.out.1 H6.out.2.1 H6.out.2.2.1 H6.out.2.2.2.1 ⟨by omega, by omega, by omega, trivial⟩ H6.out.2.2.2.2
   have hh := HP.out
   have hO2 := HFI.out
   subst hO2
   refine Yd7 _ ?_ ⟨rfl, K1.out.a.m.keep hend.2 (by simp; omega) (by simp; omega), K1.out.u.also hend.2 (by simp; omega)⟩
   have hr := hend.1
   exact Yap rfl (Ybj 6 (w.heap.size + 1) _ rfl hr.o) (Yb7 7 (w.heap.size + 1 + 1) Flt.zero rfl hr.f) (Yal 8 (w.heap.size + 1 + 1 + 1) _ rfl hr.k) (Yal 9 (w.heap.size + 1 + 1 + 1 + 1) _ rfl hr.q)
section
def akL (n v : Int) : List Mi := [⟨1, 3, 0, 0, 0, v, false⟩, ⟨3, 0, 3, 0, 0, 6, false⟩, ⟨15, 0, 0, 0, 0, n, false⟩]
theorem ak_run (D : Mi → Rn → MO) (n v : Int) (more : List Mi) (s : St) : ∃ r, Yae (Yu D) (akL n v ++ more) (rn0 s) = ⟨2, r, Flt.zero⟩ ∧ r.s = (s.setR 6 v).setPc n := ⟨_, rfl, rfl⟩
theorem ak_take (D : Mi → Rn → MO) (n v : Int) (more : List Mi) (s : St) (k : Nat) (hk : 3 ≤ k) : (Yae (Yu D) ((akL n v ++ more).take k) (rn0 s)).k = 2 := by
 obtain ⟨j, rfl⟩ : ∃ j, k = 3 + j := ⟨k - 3, by omega⟩
 have e : (akL n v ++ more).take (3 + j) = akL n v ++ more.take j := by
  rw [show 3 = (akL n v).length from rfl, List.take_length_add_append]
 rw [e]
 obtain ⟨r, h, _⟩ := ak_run D n v (more.take j) s
 rw [h]
theorem ak_ok (n v : Int) (hn : 0 ≤ n ∧ n < 4294967296) (hv : 0 ≤ v ∧ v < 4294967296) : ∀ x ∈ akL n v, x.Ok ∧ x.is = true := by
 intro x hx
 simp only [akL, List.mem_cons, List.not_mem_nil, or_false] at hx
 rcases hx with rfl | rfl | rfl
 ·exact ⟨⟨hv⟩, rfl⟩
 ·exact ⟨⟨by decide⟩, rfl⟩
 ·exact ⟨⟨hn⟩, rfl⟩
theorem ak_as (n v : Int) (hn : 0 ≤ n ∧ n < 4294967296) (hv : 0 ≤ v ∧ v < 4294967296) (more : List Mi) (s : St) (k : Nat) (x : Mi) (hx : (akL n v ++ more)[k]? = some x) (h0 : (Yae (Yu D0) ((akL n v ++ more).take k) (rn0 s)).k = 0) : Yba (Yu D0) x := by
 by_cases hk : 3 ≤ k
 ·rw [ak_take D0 n v more s k hk] at h0; cases h0
 ·have hk3 : k = 0 ∨ k = 1 ∨ k = 2 := by omega
  have ho := ak_ok n v hn hv
  rcases hk3 with rfl | rfl | rfl
  ·obtain rfl : (⟨1, 3, 0, 0, 0, v, false⟩ : Mi) = x := by injection hx
   have h := ho ⟨1, 3, 0, 0, 0, v, false⟩ (by simp [akL])
   exact Yd2 rfl h.2 h.1
  ·obtain rfl : (⟨3, 0, 3, 0, 0, 6, false⟩ : Mi) = x := by injection hx
   have h := ho ⟨3, 0, 3, 0, 0, 6, false⟩ (by simp [akL])
   exact Ydm rfl h.2 h.1
  ·obtain rfl : (⟨15, 0, 0, 0, 0, n, false⟩ : Mi) = x := by injection hx
   have h := ho ⟨15, 0, 0, 0, 0, n, false⟩ (by simp [akL])
   exact as_ask rfl h.2 h.1
theorem doesD_z {x : Mi} {r : Rn} (h : (Yu D0 x r).k = 0) : (Yu D0 x r).F = Flt.zero := by
 revert h
 unfold Yu D0
 have e : ∀ (p : Prop) [Decidable p] (a b : MO), (a.k = 0 → a.F = Flt.zero) → (b.k = 0 → b.F = Flt.zero) → ((if p then a else b).k = 0 → (if p then a else b).F = Flt.zero) := by
  intro p _ a b ha hb; split; exact ha; exact hb
 repeat (first | exact fun _ => rfl | refine e _ _ _ (by first | exact fun _ => rfl | exact fun h => (by cases h)) ?_)
structure Ka (w : World) (S : St) (F : Flt) (dn : Nat → Bool) (r : Nat → Value) (w1 : World) : Prop where
 u : Upd [] w w1
 m : dn 3 = false → dn 0 = true → ∃ ma pb, r 0 = .pointer (some ⟨ma, 0, none⟩) ∧ w.heap.size ≤ ma ∧ w.heap.size ≤ pb ∧ Yg w1 ma pb Mem.zero
 x : dn 9 = true → ∃ g, r 9 = .pointer (some ⟨g, 0, none⟩) ∧ w.heap.size ≤ g ∧ w1.heap[g]? = some (.cells (if dn 11 then S.cells else St.zero.cells) 28 (0, 0))
 y : dn 10 = true → ∃ g, r 10 = .pointer (some ⟨g, 0, none⟩) ∧ w.heap.size ≤ g ∧ w1.heap[g]? = some (.cells (if dn 12 then Ym F else Ym Flt.zero) 37 (0, 0))
 o3 : dn 3 = true → dn 0 = true
 o4 : dn 4 = true → dn 3 = true
 o5 : dn 5 = true → dn 3 = true
 o6 : dn 6 = true → dn 3 = true
 p : dn 11 = true → dn 9 = true ∧ dn 3 = true
 q : dn 12 = true → dn 10 = true ∧ dn 3 = true
section
variable {w w1 w2 : World} {S : St} {F : Flt} {dn : Nat → Bool} {r : Nat → Value}
theorem Ka.start (w : World) (S : St) (F : Flt) (r : Nat → Value) : Ka w S F (fun _ => false) r w.drew :=
 ⟨(Upd.refl [] w).drew, fun _ h => (by cases h), fun h => (by cases h), fun h => (by cases h), fun h => (by cases h), fun h => (by cases h), fun h => (by cases h), fun h => (by cases h), fun h => (by cases h), fun h => (by cases h)⟩
def Ka.free (j : Nat) : Prop := j ≠ 0 ∧ j ≠ 3 ∧ j ≠ 9 ∧ j ≠ 10 ∧ j ≠ 11 ∧ j ≠ 12
theorem Ka.same (h : Ka w S F dn r w1) (j : Nat) (hj : 0 ≠ j ∧ 3 ≠ j ∧ 9 ≠ j ∧ 10 ≠ j ∧ 11 ≠ j ∧ 12 ≠ j) (h4 : j = 4 ∨ j = 5 ∨ j = 6 → dn 3 = true) : Ka w S F (Yn dn j) r w1 := by
 obtain ⟨j0, j3, j9, j10, j11, j12⟩ := hj
 have t : ∀ i, (i = 4 ∨ i = 5 ∨ i = 6) → (dn i = true → dn 3 = true) → (Yn dn j i = true → Yn dn j 3 = true) := by
  intro i hi hh hd
  rw [Ya j3]
  by_cases e : i = j
  ·exact h4 (e ▸ hi)
  ·rw [Ya e] at hd; exact hh hd
 refine ⟨h.u, ?_, ?_, ?_, ?_, t 4 (by simp) h.o4, t 5 (by simp) h.o5, t 6 (by simp) h.o6, ?_, ?_⟩
 ·rw [Ya j3, Ya j0]; exact h.m
 ·rw [Ya j9, Ya j11]; exact h.x
 ·rw [Ya j10, Ya j12]; exact h.y
 ·rw [Ya j3, Ya j0]; exact h.o3
 ·rw [Ya j9, Ya j11, Ya j3]; exact h.p
 ·rw [Ya j10, Ya j12, Ya j3]; exact h.q
theorem Ka.new (h : Ka w S F dn r w1) (hd : dn 0 = false) {ma pb : Nat} (h1 : w1.heap.size ≤ ma) (h2 : w1.heap.size ≤ pb) (hm : Yg w2 ma pb Mem.zero) (u : Upd [] w1 w2) : Ka w S F (Yn dn 0) (Ya7 r 0 (.pointer (some ⟨ma, 0, none⟩))) w2 := by
 have d3 : dn 3 = false := by
  cases e : dn 3 with
  |false => rfl
  |true => rw [h.o3 e] at hd; cases hd
 have hs := h.u.size
 refine ⟨h.u.also u (by simp), fun _ _ => ⟨ma, pb, Ydo, by omega, by omega, hm⟩, ?_, ?_, fun _ => Yar, ?_, ?_, ?_, ?_, ?_⟩
 ·rw [Ya (by decide), Ya (by decide), Ycd (by decide)]
  intro hx; obtain ⟨g, e1, e2, e3⟩ := h.x hx; exact ⟨g, e1, e2, u.get e3 (by simp)⟩
 ·rw [Ya (by decide), Ya (by decide), Ycd (by decide)]
  intro hx; obtain ⟨g, e1, e2, e3⟩ := h.y hx; exact ⟨g, e1, e2, u.get e3 (by simp)⟩
 ·rw [Ya (by decide), Ya (by decide)]; exact h.o4
 ·rw [Ya (by decide), Ya (by decide)]; exact h.o5
 ·rw [Ya (by decide), Ya (by decide)]; exact h.o6
 ·rw [Ya (by decide), Ya (by decide), Ya (by decide)]; exact h.p
 ·rw [Ya (by decide), Ya (by decide), Ya (by decide)]; exact h.q
theorem pb_ne {w1 : World} {ma pb g : Nat} {M : Mem} {C : Array Value} {T : TypeId} (hm : Yg w1 ma pb M) (hg : w1.heap[g]? = some (.cells C T (0, 0))) (hT : T ≠ 132) : g ≠ pb := by
 rintro rfl
 obtain ⟨C', _, hc⟩ := hm.pg
 rw [hg] at hc
 injection hc with hc
 injection hc with _ h2
 exact hT h2
theorem Ka.run (h : Ka w S F dn r w1) (hd : dn 3 = false) {ma pb : Nat} (h2 : w.heap.size ≤ pb) (hm : Yg w1 ma pb Mem.zero) (h0 : dn 0 = true) (u : Upd [pb] w1 w2) : Ka w S F (Yn dn 3) r w2 := by
 refine ⟨h.u.also u (fun x hx => .inr (by rw [List.mem_singleton.1 hx]; exact h2)), fun hh => (by rw [Yar] at hh; cases hh), ?_, ?_, fun _ => by rw [Ya (by decide)]; exact h0, fun _ => Yar, fun _ => Yar, fun _ => Yar, fun hh => ?_, fun hh => ?_⟩
 ·rw [Ya (by decide), Ya (by decide)]
  intro hx; obtain ⟨g, e1, e2, e3⟩ := h.x hx
  exact ⟨g, e1, e2, u.get e3 (by simpa using pb_ne hm e3 (by decide))⟩
 ·rw [Ya (by decide), Ya (by decide)]
  intro hx; obtain ⟨g, e1, e2, e3⟩ := h.y hx
  exact ⟨g, e1, e2, u.get e3 (by simpa using pb_ne hm e3 (by decide))⟩
 ·rw [Ya (by decide)] at hh; rw [Ya (by decide)]; exact ⟨(h.p hh).1, Yar⟩
 ·rw [Ya (by decide)] at hh; rw [Ya (by decide)]; exact ⟨(h.q hh).1, Yar⟩
theorem Ka.layS (h : Ka w S F dn r w1) (hd : dn 9 = false) : Ka w S F (Yn dn 9) (Ya7 r 9 (.pointer (some ⟨w1.heap.size, 0, none⟩))) (w1.alloc (.cells St.zero.cells 28)) := by
 have d11 : dn 11 = false := by
  cases e : dn 11 with
  |false => rfl
  |true => rw [(h.p e).1] at hd; cases hd
 have u := (Upd.refl [] w1).alloc (.cells St.zero.cells 28)
 refine ⟨h.u.also u (by simp), ?_, fun _ => ⟨_, Ydo, h.u.size, by rw [Ya (by decide), d11]; exact heap_alloc_new _ _⟩, ?_, ?_, ?_, ?_, ?_, fun hh => ?_, ?_⟩
 ·rw [Ya (by decide), Ya (by decide), Ycd (by decide)]
  intro a b; obtain ⟨ma, pb, e1, e2, e3, e4⟩ := h.m a b; exact ⟨ma, pb, e1, e2, e3, e4.keep u (by simp) (by simp)⟩
 ·rw [Ya (by decide), Ya (by decide), Ycd (by decide)]
  intro hx; obtain ⟨g, e1, e2, e3⟩ := h.y hx; exact ⟨g, e1, e2, u.get e3 (by simp)⟩
 ·rw [Ya (by decide), Ya (by decide)]; exact h.o3
 ·rw [Ya (by decide), Ya (by decide)]; exact h.o4
 ·rw [Ya (by decide), Ya (by decide)]; exact h.o5
 ·rw [Ya (by decide), Ya (by decide)]; exact h.o6
 ·rw [Ya (by decide)] at hh; rw [d11] at hh; cases hh
 ·rw [Ya (by decide), Ya (by decide), Ya (by decide)]; exact h.q
theorem Ka.layF (h : Ka w S F dn r w1) (hd : dn 10 = false) : Ka w S F (Yn dn 10) (Ya7 r 10 (.pointer (some ⟨w1.heap.size, 0, none⟩))) (w1.alloc (.cells (Ym Flt.zero) 37)) := by
 have d12 : dn 12 = false := by
  cases e : dn 12 with
  |false => rfl
  |true => rw [(h.q e).1] at hd; cases hd
 have u := (Upd.refl [] w1).alloc (.cells (Ym Flt.zero) 37)
 refine ⟨h.u.also u (by simp), ?_, ?_, fun _ => ⟨_, Ydo, h.u.size, by rw [Ya (by decide), d12]; exact heap_alloc_new _ _⟩, ?_, ?_, ?_, ?_, ?_, fun hh => ?_⟩
 ·rw [Ya (by decide), Ya (by decide), Ycd (by decide)]
  intro a b; obtain ⟨ma, pb, e1, e2, e3, e4⟩ := h.m a b; exact ⟨ma, pb, e1, e2, e3, e4.keep u (by simp) (by simp)⟩
 ·rw [Ya (by decide), Ya (by decide), Ycd (by decide)]
  intro hx; obtain ⟨g, e1, e2, e3⟩ := h.x hx; exact ⟨g, e1, e2, u.get e3 (by simp)⟩
 ·rw [Ya (by decide), Ya (by decide)]; exact h.o3
 ·rw [Ya (by decide), Ya (by decide)]; exact h.o4
 ·rw [Ya (by decide), Ya (by decide)]; exact h.o5
 ·rw [Ya (by decide), Ya (by decide)]; exact h.o6
 ·rw [Ya (by decide), Ya (by decide), Ya (by decide)]; exact h.p
 ·rw [Ya (by decide)] at hh; rw [d12] at hh; cases hh
theorem Ka.putS (h : Ka w S F dn r w1) (hd : dn 11 = false) (h9 : dn 9 = true) (h3 : dn 3 = true) {g : Nat} (e1 : r 9 = .pointer (some ⟨g, 0, none⟩)) : Ka w S F (Yn dn 11) r (w1.setCells g 0 S.cells.toList) := by
 obtain ⟨g', e1', e2, e3⟩ := h.x h9
 obtain rfl : g' = g := by rw [e1] at e1'; injection e1' with e; injection e with e; injection e with e; exact e.symm
 have u := (Upd.refl [g'] w1).setCells (q := g') (.inl (by simp)) S.cells.toList 0
 rw [hd] at e3
 refine ⟨h.u.setCells (.inr e2) _ _, fun hh => ?_, fun _ => ⟨g', e1, e2, by rw [Yar, if_pos rfl]; exact Yaj S e3 rfl⟩, ?_, ?_, ?_, ?_, ?_, fun _ => ?_, ?_⟩
 ·rw [Ya (by decide), h3] at hh; cases hh
 ·rw [Ya (by decide), Ya (by decide)]
  intro hx; obtain ⟨g2, a1, a2, a3⟩ := h.y hx
  refine ⟨g2, a1, a2, u.get a3 ?_⟩
  rw [List.mem_singleton]
  rintro rfl
  rw [e3] at a3
  injection a3 with a3
  injection a3 with _ a3
  exact absurd a3 (by decide)
 ·rw [Ya (by decide), Ya (by decide)]; exact h.o3
 ·rw [Ya (by decide), Ya (by decide)]; exact h.o4
 ·rw [Ya (by decide), Ya (by decide)]; exact h.o5
 ·rw [Ya (by decide), Ya (by decide)]; exact h.o6
 ·rw [Ya (by decide), Ya (by decide)]; exact ⟨h9, h3⟩
 ·rw [Ya (by decide), Ya (by decide), Ya (by decide)]; exact h.q
theorem Ka.putF (h : Ka w S F dn r w1) (hd : dn 12 = false) (h10 : dn 10 = true) (h3 : dn 3 = true) {g : Nat} (e1 : r 10 = .pointer (some ⟨g, 0, none⟩)) : Ka w S F (Yn dn 12) r (w1.setCells g 0 (Ym F).toList) := by
 obtain ⟨g', e1', e2, e3⟩ := h.y h10
 obtain rfl : g' = g := by rw [e1] at e1'; injection e1' with e; injection e with e; injection e with e; exact e.symm
 have u := (Upd.refl [g'] w1).setCells (q := g') (.inl (by simp)) (Ym F).toList 0
 rw [hd] at e3
 refine ⟨h.u.setCells (.inr e2) _ _, fun hh => ?_, ?_, fun _ => ⟨g', e1, e2, by rw [Yar, if_pos rfl, Yq _ _ _ _ e3]; rfl⟩, ?_, ?_, ?_, ?_, ?_, fun _ => ?_⟩
 ·rw [Ya (by decide), h3] at hh; cases hh
 ·rw [Ya (by decide), Ya (by decide)]
  intro hx; obtain ⟨g2, a1, a2, a3⟩ := h.x hx
  refine ⟨g2, a1, a2, u.get a3 ?_⟩
  rw [List.mem_singleton]
  rintro rfl
  rw [e3] at a3
  injection a3 with a3
  injection a3 with _ a3
  exact absurd a3 (by decide)
 ·rw [Ya (by decide), Ya (by decide)]; exact h.o3
 ·rw [Ya (by decide), Ya (by decide)]; exact h.o4
 ·rw [Ya (by decide), Ya (by decide)]; exact h.o5
 ·rw [Ya (by decide), Ya (by decide)]; exact h.o6
 ·rw [Ya (by decide), Ya (by decide), Ya (by decide)]; exact h.p
 ·rw [Ya (by decide), Ya (by decide)]; exact ⟨h10, h3⟩
end
end
def St.eqB (s t : St) : Bool := (((List.range 8).all fun i => s.R i == t.R i) && ((s.pc == t.pc) && ((((s.cf == t.cf) && ((s.pf == t.pf) && ((s.af == t.af) && ((s.zf == t.zf) && ((s.sf == t.sf) && ((s.of_ == t.of_) && true))))))) && ((s.df == t.df) && ((s.f == t.f) && true)))))
theorem St.eqB_self (s : St) : s.eqB s = true := by simp [St.eqB]
def Ydn (s : St) : Array Value := #[.bool s.cf, .bool s.pf, .bool s.af, .bool s.zf, .bool s.sf, .bool s.of_]
theorem Ydr (s t : St) (w : World) (d : Nat) : (Op.equalIn (d + 1 + 1) 25 (.agg (Ydn s)) (.agg (Ydn t))).run Tryd.prog w = .ok ((s.cf == t.cf) && ((s.pf == t.pf) && ((s.af == t.af) && ((s.zf == t.zf) && ((s.sf == t.sf) && ((s.of_ == t.of_) && true)))))) w := by
 have hf : Tryd.prog.fieldsOf 25 = #[{ name := "CF", type := 4, offset := 0, embedded := false, tag := "", pkgPath := "", byteOffset := 0 }, { name := "PF", type := 4, offset := 1, embedded := false, tag := "", pkgPath := "", byteOffset := 1 },
  { name := "AF", type := 4, offset := 2, embedded := false, tag := "", pkgPath := "", byteOffset := 2 }, { name := "ZF", type := 4, offset := 3, embedded := false, tag := "", pkgPath := "", byteOffset := 3 },
  { name := "SF", type := 4, offset := 4, embedded := false, tag := "", pkgPath := "", byteOffset := 4 }, { name := "OF", type := 4, offset := 5, embedded := false, tag := "", pkgPath := "", byteOffset := 5 }] := by kernel_rfl
 have hu : Tryd.prog.underlying 25 = some (.struct (Tryd.prog.fieldsOf 25)) := by kernel_rfl
 have hp : Tryd.prog.plainKey 4 = true := by kernel_rfl
 have hb := fun (a b : Bool) => run_equalIn_bool (P := Tryd.prog) w d 4 a b Tryd.underlying4
 rw [run_equalIn_struct w _ 25 _ _ hu (Tryd.stoodInHeld25), hf]
 exact Yv (by decide) (run_part_plain w hp rfl) (run_part_plain w hp rfl) (hb _ _) (Yv (by decide) (run_part_plain w hp rfl) (run_part_plain w hp rfl) (hb _ _) (Yv (by decide) (run_part_plain w hp rfl) (run_part_plain w hp rfl) (hb _ _) (Yv (by decide) (run_part_plain w hp rfl) (run_part_plain w hp rfl) (hb _ _) (Yv (by decide) (run_part_plain w hp rfl) (run_part_plain w hp rfl) (hb _ _) (Yv (by decide) (run_part_plain w hp rfl) (run_part_plain w hp rfl) (hb _ _) Yda)))))
theorem Ydt (s t : St) (w : World) (d : Nat) : (Op.equalIn (d + 1 + 1 + 1) 28 (.agg s.cells) (.agg t.cells)).run Tryd.prog w = .ok (s.eqB t) w := by
 have hf : Tryd.prog.fieldsOf 28 = #[{ name := "R", type := 23, offset := 0, embedded := false, tag := "", pkgPath := "", byteOffset := 0 }, { name := "PC", type := 22, offset := 8, embedded := false, tag := "", pkgPath := "", byteOffset := 32 },
  { name := "Fl", type := 25, offset := 9, embedded := false, tag := "", pkgPath := "", byteOffset := 36 }, { name := "DF", type := 4, offset := 15, embedded := false, tag := "", pkgPath := "", byteOffset := 42 }, { name := "F", type := 26, offset := 16, embedded := false, tag := "", pkgPath := "", byteOffset := 48 }] := by kernel_rfl
 have hu : Tryd.prog.underlying 28 = some (.struct (Tryd.prog.fieldsOf 28)) := by kernel_rfl
 have hpB : Tryd.prog.plainKey 4 = true := by kernel_rfl
 have hp32 : Tryd.prog.plainKey 22 = true := by kernel_rfl
 have hp64 : Tryd.prog.plainKey 26 = true := by kernel_rfl
 have hc : Tryd.prog.cellsOf 22 = 1 := by kernel_rfl
 have hpR := fun xs : Array Value => Yeg (P := Tryd.prog) (xs := xs) (t := 23) (i := Tryd.t23) (n := 8) (off := 0) w (Tryd.isAgg23 w) (by kernel_rfl) (by kernel_rfl)
 have hpF := fun xs : Array Value => Yeg (P := Tryd.prog) (xs := xs) (t := 25) (i := Tryd.t25) (n := 6) (off := 9) w (Tryd.isAgg25 w) (by kernel_rfl) (by kernel_rfl)
 have eF : ∀ s : St, s.cells.extract 9 (9 + 6) = Ydn s := fun s => by simp [St.cells, Ydn]
 have hR : (Op.equalIn (d + 1 + 1) 23 (.agg (s.cells.extract 0 (0 + 8))) (.agg (t.cells.extract 0 (0 + 8)))).run Tryd.prog w = .ok ((List.range 8).all fun i => s.R i == t.R i) w := by
  rw [run_equalIn_array w (d + 1) (i := Tryd.t22) _ _ Tryd.underlying23 (by kernel_rfl), hc]
  have e : ∀ (s : St) i, i < 8 → (s.cells.extract 0 (0 + 8))[i]? = some (.int .u32 (s.R i)) := fun s i hi => by
   rw [Array.getElem?_extract, if_pos (by rw [St.size]; omega), Nat.zero_add, St.cR s i hi]
  exact Ydu w d Tryd.underlying22 _ _ _ _ _ (fun i hi => ⟨e s i (List.mem_range.1 hi), e t i (List.mem_range.1 hi)⟩)
 have hF := Ydr s t w d
 rw [← eF s, ← eF t] at hF
 rw [run_equalIn_struct w _ 28 _ _ hu (Tryd.stoodInHeld28), hf]
 exact Yv (by decide) (hpR _) (hpR _) hR (Yv (by decide) (run_part_plain w hp32 rfl) (run_part_plain w hp32 rfl) (run_equalIn_int w _ 22 .u32 .u32 _ _ Tryd.underlying22)
  (Yv (by decide) (hpF _) (hpF _) hF (Yv (by decide) (run_part_plain w hpB rfl) (run_part_plain w hpB rfl) (run_equalIn_bool w _ 4 _ _ Tryd.underlying4)
  (Yv (by decide) (run_part_plain w hp64 rfl) (run_part_plain w hp64 rfl) (run_equalIn_int w _ 26 .u64 .u64 _ _ Tryd.underlying26) Yda))))
theorem Yex (s t : St) (w : World) : (binOp .eql 28 (.agg s.cells) (.agg t.cells)).run Tryd.prog w = .ok (.bool (s.eqB t)) w := by
 have h := Ydt s t w 9997
 rw [run_eql_struct]
 rw [show (10000 : Nat) = 9997 + 1 + 1 + 1 from rfl, h, Result.andThen_ok]
end Go.Proofs.YtjkolegknpflfaaDoor
