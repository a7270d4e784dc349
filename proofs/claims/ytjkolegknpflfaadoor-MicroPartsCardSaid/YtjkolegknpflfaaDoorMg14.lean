/-
  Parts of the proof (their names shortened by a program). No condition.
-/
import Derived.Test.YtjkolegknpflfaaDoorMg01
import Derived.Test.YtjkolegknpflfaaDoorMg13
import Derived.Deep.Cut
namespace Go.Proofs.YtjkolegknpflfaaDoor
open Go Go.RowKit
set_option linter.unusedVariables false
set_option linter.unusedSimpArgs false
set_option maxRecDepth 100000
set_option maxHeartbeats 16000000
section
structure Kq (w : World) (a pb : Nat) (M : Mem) (L : List (Nat × Obj)) (w1 : World) : Prop where
 m : Yi w1 a pb M
 u : Upd [] w w1
 v : ∀ p ∈ L, w1.heap[p.1]? = some p.2
 s : L.Pairwise (fun p q => p.1 ≠ q.1)
 t : ∀ p ∈ L, p.1 ≠ pb ∧ p.1 ≠ a
 l : w.heap.size ≤ pb
 w : ∀ p ∈ L, w.heap.size ≤ p.1
section
variable {w w0 w1 w2 : World} {a pb b : Nat} {M M2 : Mem} {L : List (Nat × Obj)} {T s' : St} {o o' : Obj}
theorem Kq.of (h : Kn w a pb M L w1) : Kq w a pb M L w1 := ⟨h.m, h.u, h.v, h.s.imp (fun h => Nat.ne_of_gt h), fun p hp => (h.t p hp).2, h.l, h.w⟩
theorem Kq.step (h : Kq w a pb M L w1) (hm : Yi w2 a pb M2) (u : Upd [pb] w1 w2) : Kq w a pb M2 L w2 :=
 ⟨hm, h.u.also u (by have := h.l; simp <;> omega), fun p hp => u.get (h.v p hp) (by have := (h.t p hp).1; simpa using this), h.s, h.t, h.l, h.w⟩
theorem Kq.quiet (h : Kq w a pb M L w1) (u : Upd [] w1 w2) : Kq w a pb M L w2 :=
 ⟨h.m.keep u (by simp) (by simp), h.u.also u (by simp), fun p hp => u.get (h.v p hp) (by simp), h.s, h.t, h.l, h.w⟩
theorem Kq.get (h : Kq w a pb M L w1) (n : Nat) (hn : L[n]? = some (b, o)) : w1.heap[b]? = some o := h.v (b, o) (List.mem_of_getElem? hn)
theorem Kq.lts (h : Kq w a pb M L w1) : (∀ p ∈ L, p.1 < w1.heap.size) ∧ a < w1.heap.size ∧ pb < w1.heap.size :=
 ⟨fun p hp => Yr (h.v p hp), by obtain ⟨C, _, hc⟩ := h.m.hd; exact Yr hc, by obtain ⟨C, _, hc⟩ := h.m.pg; exact Yr hc⟩
theorem Kq.put (h : Kq w a pb M L w1) (n : Nat) (hn : L[n]? = some (b, o)) (u : Upd [b] w1 w2) (ho : w2.heap[b]? = some o') : Kq w a pb M (L.set n (b, o')) w2 := by
 have hb := h.t (b, o) (List.mem_of_getElem? hn)
 have hw := h.w (b, o) (List.mem_of_getElem? hn)
 obtain ⟨hl, he⟩ := List.getElem?_eq_some_iff.1 hn
 have hs := List.pairwise_iff_getElem.1 h.s
 have hc : ∀ p, p ∈ L.set n (b, o') → p = (b, o') ∨ (p ∈ L ∧ p.1 ≠ b) := by
  intro p hp
  obtain ⟨j, hj⟩ := List.mem_iff_getElem?.1 hp
  rw [List.getElem?_set] at hj
  by_cases e : n = j
  ·subst e
   simp only [if_true, hl] at hj
   exact .inl (Option.some.inj hj).symm
  ·simp only [e, if_false] at hj
   obtain ⟨hl2, he2⟩ := List.getElem?_eq_some_iff.1 hj
   refine .inr ⟨List.mem_of_getElem? hj, fun hh => ?_⟩
   rcases Nat.lt_or_gt_of_ne e with h1 | h1
   ·have := hs n j hl hl2 h1; rw [he, he2] at this; exact this hh.symm
   ·have := hs j n hl2 hl h1; rw [he, he2] at this; exact this hh
 refine ⟨h.m.keep u (by simpa using fun e => hb.2 e.symm) (by simpa using fun e => hb.1 e.symm), h.u.also u (fun x hx => .inr (by rw [List.mem_singleton.1 hx]; exact hw)), fun p hp => ?_, ?_, fun p hp => ?_, h.l, fun p hp => ?_⟩
 ·rcases hc p hp with rfl | ⟨h1, h2⟩
  ·exact ho
  ·exact u.get (h.v p h1) (by simpa using h2)
 ·refine List.pairwise_iff_getElem.2 fun i j hi hj hij => ?_
  rw [List.length_set] at hi hj
  have h1 : ∀ q (hq : q < L.length) (hq2 : q < (L.set n (b, o')).length), ((L.set n (b, o'))[q]).1 = (L[q]).1 := by
   intro q hq hq2
   rw [List.getElem_set]
   split
   ·rename_i e; subst e; rw [he]
   ·rfl
  rw [h1 i hi (by rw [List.length_set]; exact hi), h1 j hj (by rw [List.length_set]; exact hj)]
  exact hs i j hi hj hij
 ·rcases hc p hp with rfl | ⟨h1, h2⟩
  ·exact hb
  ·exact h.t p h1
 ·rcases hc p hp with rfl | ⟨h1, h2⟩
  ·exact hw
  ·exact h.w p h1
theorem Kq.add (h : Kq w a pb M L w1) (hb : w.heap.size ≤ b) (hn : (∀ p ∈ L, p.1 ≠ b) ∧ b ≠ pb ∧ b ≠ a) (ho : w1.heap[b]? = some o) : Kq w a pb M ((b, o) :: L) w1 := by
 refine ⟨h.m, h.u, fun p hp => ?_, List.pairwise_cons.2 ⟨fun q hq e => hn.1 q hq e.symm, h.s⟩, fun p hp => ?_, h.l, fun p hp => ?_⟩
 ·rcases List.mem_cons.1 hp with rfl | hp
  ·exact ho
  ·exact h.v p hp
 ·rcases List.mem_cons.1 hp with rfl | hp
  ·exact ⟨hn.2.1, hn.2.2⟩
  ·exact h.t p hp
 ·rcases List.mem_cons.1 hp with rfl | hp
  ·exact hb
  ·exact h.w p hp
end
section
variable {w w1 w2 : World} {a pb g : Nat} {M : Mem} {L : List (Nat × Obj)} {T : St} {F : Flt}
theorem Kq.upd (h : Kq w a pb M L w1) (u : Upd [g] w1 w2) (hg : w.heap.size ≤ g) (hn : (∀ p ∈ L, p.1 ≠ g) ∧ g ≠ pb ∧ g ≠ a) : Kq w a pb M L w2 :=
 ⟨h.m.keep u (by simpa using fun e => hn.2.2 e.symm) (by simpa using fun e => hn.2.1 e.symm), h.u.also u (fun x hx => .inr (by rw [List.mem_singleton.1 hx]; exact hg)), fun p hp => u.get (h.v p hp) (by simpa using hn.1 p hp), h.s, h.t, h.l, h.w⟩
theorem Kq.two (h : Kq w a pb M L w1) (h2 : w2.heap[w1.heap.size]? = some (.cells T.cells 28 (0, 0)) ∧ w2.heap[w1.heap.size + 1]? = some (.cells #[.int .i64 0, .int .u32 0, .int .u32 0, .int .i64 0] 37 (0, 0)) ∧ Upd [] w1 w2) :
  Kq w a pb M ((w1.heap.size + 1, .cells (Yj F) 37 (0, 0)) :: (w1.heap.size, .cells T.cells 28 (0, 0)) :: L) ((((w2.setCell ⟨w1.heap.size + 1, 0, none⟩ (.int .i64 F.k)).setCell ⟨w1.heap.size + 1, 1, none⟩ (.int .u32 F.pc)).setCell ⟨w1.heap.size + 1, 2, none⟩ (.int .u32 F.a)).setCell ⟨w1.heap.size + 1, 3, none⟩ (.int .i64 F.wt)) := by
 have hl := h.lts
 have hu := h.u.size
 have u4 := Ybw (S := [w1.heap.size + 1]) (b := w1.heap.size + 1) (Upd.refl _ w2) (.inl (by simp)) (.int .i64 F.k) (.int .u32 F.pc) (.int .u32 F.a) (.int .i64 F.wt)
 have hf := Yft h2.2.1 (.int .i64 F.k) (.int .u32 F.pc) (.int .u32 F.a) (.int .i64 F.wt)
 have h3 := (h.quiet h2.2.2).add (b := w1.heap.size) hu ⟨fun p hp => by have := hl.1 p hp; omega, by omega, by omega⟩ h2.1
 have hn : ∀ p ∈ ((w1.heap.size, Obj.cells T.cells 28 (0, 0)) :: L), p.1 ≠ w1.heap.size + 1 := by
  intro p hp
  rcases List.mem_cons.1 hp with rfl | hp
  ·dsimp only; omega
  ·have := hl.1 p hp; omega
 exact (h3.upd u4 (by omega) ⟨hn, by omega, by omega⟩).add (by omega) ⟨hn, by omega, by omega⟩ hf
end
structure Kd (w : World) (a pb : Nat) (M M2 : Mem) (L : List (Nat × Obj)) (n0 : Nat) (S : St) (F : Flt) (c e f p q : Nat) (dn : Nat → Bool) (r : Nat → Value) (w1 : World) : Prop where
 k : Kq w a pb (cond (dn c) M2 M) L w1
 b : n0 ≤ w1.heap.size
 ln : (∀ p ∈ L, p.1 < n0) ∧ a < n0 ∧ pb < n0 ∧ w.heap.size ≤ n0
 x : dn e = true → ∃ g, r e = .pointer (some ⟨g, 0, none⟩) ∧ n0 ≤ g ∧ w1.heap[g]? = some (.cells (cond (dn p) S.cells St.zero.cells) 28 (0, 0))
 y : dn f = true → ∃ g, r f = .pointer (some ⟨g, 0, none⟩) ∧ n0 ≤ g ∧ w1.heap[g]? = some (.cells (cond (dn q) (Yj F) (Yj Flt.zero)) 37 (0, 0))
 xo : dn p = true → dn e = true
 yo : dn q = true → dn f = true
theorem Ydg : (28 : TypeId) ≠ 37 := by decide
theorem wr_st (c : Array Value) (S : St) (hc : c.size = 17) : wr c 0 S.cells.toList = S.cells := Ygr c S hc
section
variable {w w1 w2 : World} {a pb n0 : Nat} {M M2 : Mem} {L : List (Nat × Obj)} {S : St} {F : Flt} {c e f p q : Nat} {dn : Nat → Bool} {r : Nat → Value}
theorem Kd.start (h : Kq w a pb M L w1) (M2 : Mem) (S : St) (F : Flt) (c e f p q : Nat) (r : Nat → Value) : Kd w a pb M M2 L w1.heap.size S F c e f p q (fun _ => false) r w1.drew :=
 ⟨h.quiet (Upd.refl [] w1).drew, ((Upd.refl [] w1).drew).size, ⟨h.lts.1, h.lts.2.1, h.lts.2.2, h.u.size⟩, fun h => (by cases h), fun h => (by cases h), fun h => (by cases h), fun h => (by cases h)⟩
theorem Kd.quiet (h : Kd w a pb M M2 L n0 S F c e f p q dn r w1) (u : Upd [] w1 w2) (j : Nat) (h1 : c ≠ j) (h2 : e ≠ j) (h3 : f ≠ j) (h4 : p ≠ j) (h5 : q ≠ j) : Kd w a pb M M2 L n0 S F c e f p q (Yw dn j) r w2 := by
 refine ⟨by rw [Yb h1]; exact h.k.quiet u, Nat.le_trans h.b u.size, h.ln, fun hx => ?_, fun hx => ?_, fun hx => ?_, fun hx => ?_⟩
 ·rw [Yb h2] at hx; rw [Yb h4]; obtain ⟨g, e1, e2, e3⟩ := h.x hx; exact ⟨g, e1, e2, u.get e3 (by simp)⟩
 ·rw [Yb h3] at hx; rw [Yb h5]; obtain ⟨g, e1, e2, e3⟩ := h.y hx; exact ⟨g, e1, e2, u.get e3 (by simp)⟩
 ·rw [Yb h4] at hx; rw [Yb h2]; exact h.xo hx
 ·rw [Yb h5] at hx; rw [Yb h3]; exact h.yo hx
theorem Kd.same (h : Kd w a pb M M2 L n0 S F c e f p q dn r w1) (j : Nat) (h1 : c ≠ j) (h2 : e ≠ j) (h3 : f ≠ j) (h4 : p ≠ j) (h5 : q ≠ j) : Kd w a pb M M2 L n0 S F c e f p q (Yw dn j) r w1 := h.quiet (Upd.refl [] w1) j h1 h2 h3 h4 h5
theorem Kd.call (h : Kd w a pb M M2 L n0 S F c e f p q dn r w1) (hm : Yi w2 a pb M2) (u : Upd [pb] w1 w2) (h2 : e ≠ c) (h3 : f ≠ c) (h4 : p ≠ c) (h5 : q ≠ c) : Kd w a pb M M2 L n0 S F c e f p q (Yw dn c) r w2 := by
 have hl := h.ln
 refine ⟨by rw [Ya6]; exact h.k.step hm u, Nat.le_trans h.b u.size, h.ln, fun hx => ?_, fun hx => ?_, fun hx => ?_, fun hx => ?_⟩
 ·rw [Yb h2] at hx; rw [Yb h4]; obtain ⟨g, e1, e2, e3⟩ := h.x hx; exact ⟨g, e1, e2, u.get e3 (by simp; omega)⟩
 ·rw [Yb h3] at hx; rw [Yb h5]; obtain ⟨g, e1, e2, e3⟩ := h.y hx; exact ⟨g, e1, e2, u.get e3 (by simp; omega)⟩
 ·rw [Yb h4] at hx; rw [Yb h2]; exact h.xo hx
 ·rw [Yb h5] at hx; rw [Yb h3]; exact h.yo hx
theorem Kd.layS (h : Kd w a pb M M2 L n0 S F c e f p q dn r w1) (hd : dn e = false) (h1 : c ≠ e) (h3 : f ≠ e) (h4 : p ≠ e) (h5 : q ≠ e) : Kd w a pb M M2 L n0 S F c e f p q (Yw dn e) (Ybp r e (.pointer (some ⟨w1.heap.size, 0, none⟩))) (w1.alloc (.cells St.zero.cells 28)) := by
 have hp : dn p = false := by
  cases hh : dn p with
  |false => rfl
  |true => rw [h.xo hh] at hd; cases hd
 have u := (Upd.refl [] w1).alloc (.cells St.zero.cells 28)
 refine ⟨by rw [Yb h1]; exact h.k.quiet u, Nat.le_trans h.b u.size, h.ln, fun _ => ⟨_, Ycz, h.b, ?_⟩, fun hx => ?_, fun _ => Ya6, fun hx => ?_⟩
 ·rw [Yb h4, hp]; exact heap_alloc_new _ _
 ·rw [Yb h3] at hx; rw [Yb h5]; obtain ⟨g, e1, e2, e3⟩ := h.y hx; exact ⟨g, by rw [Yba h3]; exact e1, e2, u.get e3 (by simp)⟩
 ·rw [Yb h5] at hx; rw [Yb h3]; exact h.yo hx
theorem Kd.layF (h : Kd w a pb M M2 L n0 S F c e f p q dn r w1) (hd : dn f = false) (h1 : c ≠ f) (h3 : e ≠ f) (h4 : p ≠ f) (h5 : q ≠ f) : Kd w a pb M M2 L n0 S F c e f p q (Yw dn f) (Ybp r f (.pointer (some ⟨w1.heap.size, 0, none⟩))) (w1.alloc (.cells (Yj Flt.zero) 37)) := by
 have hq : dn q = false := by
  cases hh : dn q with
  |false => rfl
  |true => rw [h.yo hh] at hd; cases hd
 have u := (Upd.refl [] w1).alloc (.cells (Yj Flt.zero) 37)
 refine ⟨by rw [Yb h1]; exact h.k.quiet u, Nat.le_trans h.b u.size, h.ln, fun hx => ?_, fun _ => ⟨_, Ycz, h.b, ?_⟩, fun hx => ?_, fun _ => Ya6⟩
 ·rw [Yb h3] at hx; rw [Yb h4]; obtain ⟨g, e1, e2, e3⟩ := h.x hx; exact ⟨g, by rw [Yba h3]; exact e1, e2, u.get e3 (by simp)⟩
 ·rw [Yb h5, hq]; exact heap_alloc_new _ _
 ·rw [Yb h4] at hx; rw [Yb h3]; exact h.xo hx
theorem Kd.keepL (h : Kd w a pb M M2 L n0 S F c e f p q dn r w1) {g : Nat} (hg : n0 ≤ g) (u : Upd [g] w1 w2) (m : Mem) (hm : Yi w1 a pb m) : Kq w a pb m L w2 := by
 have hl := h.ln
 exact ⟨hm.keep u (by simp; omega) (by simp; omega), h.k.u.also u (fun x hx => .inr (by rw [List.mem_singleton.1 hx]; omega)), fun p hp => u.get (h.k.v p hp) (by have := hl.1 p hp; simp; omega), h.k.s, h.k.t, h.k.l, h.k.w⟩
theorem Kd.putS (h : Kd w a pb M M2 L n0 S F c e f p q dn r w1) (hd : dn e = true) {g : Nat} (e1 : r e = .pointer (some ⟨g, 0, none⟩)) (h1 : c ≠ p) (h2 : e ≠ p) (h3 : f ≠ p) (h5 : q ≠ p) : Kd w a pb M M2 L n0 S F c e f p q (Yw dn p) r (w1.setCells g 0 S.cells.toList) := by
 obtain ⟨g', e1', e2, e3⟩ := h.x hd
 obtain rfl : g' = g := by rw [e1] at e1'; injection e1' with e; injection e with e; injection e with e; exact e.symm
 have u := (Upd.refl [g'] w1).setCells (q := g') (.inl (by simp)) S.cells.toList 0
 refine ⟨by rw [Yb h1]; exact h.keepL e2 u _ h.k.m, Nat.le_trans h.b u.size, h.ln, fun _ => ⟨g', e1, e2, ?_⟩, fun hx => ?_, fun _ => by rw [Yb h2]; exact hd, fun hx => ?_⟩
 ·rw [Ya6]
  show _ = some (Obj.cells S.cells 28 (0, 0))
  rw [Yad _ _ _ _ e3, wr_st _ S (by cases dn p <;> rfl)]
 ·rw [Yb h3] at hx; rw [Yb h5]
  obtain ⟨k, k1, k2, k3⟩ := h.y hx
  refine ⟨k, k1, k2, u.get k3 ?_⟩
  simp only [List.mem_singleton]
  rintro rfl
  rw [e3] at k3
  injection k3 with k3; injection k3 with _ k3 _; exact Ydg k3
 ·rw [Yb h5] at hx; rw [Yb h3]; exact h.yo hx
theorem Kd.putF (h : Kd w a pb M M2 L n0 S F c e f p q dn r w1) (hd : dn f = true) {g : Nat} (e1 : r f = .pointer (some ⟨g, 0, none⟩)) (h1 : c ≠ q) (h2 : e ≠ q) (h3 : f ≠ q) (h5 : p ≠ q) : Kd w a pb M M2 L n0 S F c e f p q (Yw dn q) r (w1.setCells g 0 (Yj F).toList) := by
 obtain ⟨g', e1', e2, e3⟩ := h.y hd
 obtain rfl : g' = g := by rw [e1] at e1'; injection e1' with e; injection e with e; injection e with e; exact e.symm
 have u := (Upd.refl [g'] w1).setCells (q := g') (.inl (by simp)) (Yj F).toList 0
 refine ⟨by rw [Yb h1]; exact h.keepL e2 u _ h.k.m, Nat.le_trans h.b u.size, h.ln, fun hx => ?_, fun _ => ⟨g', e1, e2, ?_⟩, fun hx => ?_, fun _ => by rw [Yb h3]; exact hd⟩
 ·rw [Yb h2] at hx; rw [Yb h5]
  obtain ⟨k, k1, k2, k3⟩ := h.x hx
  refine ⟨k, k1, k2, u.get k3 ?_⟩
  simp only [List.mem_singleton]
  rintro rfl
  rw [e3] at k3
  injection k3 with k3; injection k3 with _ k3 _; exact Ydg k3.symm
 ·rw [Ya6]
  show _ = some (Obj.cells (Yj F) 37 (0, 0))
  rw [Yad _ _ _ _ e3]
  cases dn q <;> rfl
 ·rw [Yb h5] at hx; rw [Yb h2]; exact h.xo hx
theorem Kd.fin (h : Kd w a pb M M2 L n0 S F c e f p q dn r w1) (hc : dn c = true) (he : dn e = true) (hf : dn f = true) (hp : dn p = true) (hq : dn q = true) :
  ∃ g1 g2, r e = .pointer (some ⟨g1, 0, none⟩) ∧ r f = .pointer (some ⟨g2, 0, none⟩) ∧ Kq w a pb M2 ((g2, .cells (Yj F) 37 (0, 0)) :: (g1, .cells S.cells 28 (0, 0)) :: L) w1 := by
 obtain ⟨g1, a1, a2, a3⟩ := h.x he
 obtain ⟨g2, b1, b2, b3⟩ := h.y hf
 have hl := h.ln
 rw [hp] at a3
 rw [hq] at b3
 have hk := h.k
 rw [hc] at hk
 have h1 := hk.add (b := g1) (by omega) ⟨fun p hp => by have := hl.1 p hp; omega, by omega, by omega⟩ a3
 refine ⟨g1, g2, a1, b1, h1.add (b := g2) (by omega) ⟨fun p hp => ?_, by omega, by omega⟩ b3⟩
 rcases List.mem_cons.1 hp with rfl | hp
 ·dsimp only
  rintro rfl
  rw [a3] at b3
  injection b3 with b3; injection b3 with _ b3 _; exact Ydg b3
 ·have := hl.1 p hp; omega
end
end
def D0 : Mi → Rn → MO := fun _ r => ⟨0, r, Flt.zero⟩
theorem D0_3 (x : Mi) (r : Rn) : (D0 x r).k = 0 ∨ (D0 x r).k = 1 ∨ (D0 x r).k = 2 := .inl rfl
def kL4 : List Mi := [⟨16, 0, 0, 0, 0, 5, false⟩, ⟨1, 1, 0, 0, 0, 7, false⟩, ⟨3, 0, 1, 0, 0, 2, false⟩, ⟨14, 0, 1, 0, 0, 0, false⟩]
def kL3 : List Mi := [⟨16, 0, 0, 0, 0, 5, false⟩, ⟨1, 1, 0, 0, 0, 7, false⟩, ⟨3, 0, 1, 0, 0, 2, false⟩]
def kLd : Mi := ⟨4, 0, 1, 0, 0, 0, false⟩
theorem kL4_ok : ∀ x ∈ kL4, x.Ok := by
 intro x hx
 simp only [kL4, List.mem_cons, List.not_mem_nil, or_false] at hx
 rcases hx with rfl | rfl | rfl | rfl <;> exact ⟨by decide⟩
theorem kL3_ok : ∀ x ∈ kL3 ++ [kLd], x.Ok := by
 intro x hx
 simp only [kL3, kLd, List.cons_append, List.nil_append, List.mem_cons, List.not_mem_nil, or_false] at hx
 rcases hx with rfl | rfl | rfl | rfl <;> exact ⟨by decide⟩
theorem kL4_as : ∀ x ∈ kL4, Yaz (Yh D0) x := by
 intro x hx
 simp only [kL4, List.mem_cons, List.not_mem_nil, or_false] at hx
 rcases hx with rfl | rfl | rfl | rfl
 ·exact Ygz rfl (by decide +kernel) ⟨by decide⟩
 ·exact Ygo rfl (by decide +kernel) ⟨by decide⟩
 ·exact Yfn rfl (by decide +kernel) ⟨by decide⟩
 ·exact Ykc rfl (by decide +kernel) ⟨by decide⟩
theorem kL3_as : ∀ x ∈ kL3 ++ [kLd], Yaz (Yh D0) x := by
 intro x hx
 simp only [kL3, kLd, List.cons_append, List.nil_append, List.mem_cons, List.not_mem_nil, or_false] at hx
 rcases hx with rfl | rfl | rfl | rfl
 ·exact Ygz rfl (by decide +kernel) ⟨by decide⟩
 ·exact Ygo rfl (by decide +kernel) ⟨by decide⟩
 ·exact Yfn rfl (by decide +kernel) ⟨by decide⟩
 ·exact Ykb rfl (by decide +kernel) ⟨by decide⟩
def kO1 : MO := Yu (Yh D0) kL4 (rn0 St.zero)
def kO2 : MO := Yu (Yh D0) (kL3 ++ [kLd]) (rn0 St.zero)
theorem kO1_k : Yb3 kO1 = true ∧ Ycd kO1 = false ∧ (Ybi kO1).R 2 = 7 ∧ (Ybi kO1).pc = 7 := by decide +kernel
theorem kO2_k : Yb3 kO2 = false ∧ Ycd kO2 = false ∧ (Ybi kO2).R 2 = 0 ∧ (Ybi kO2).pc = 5 := by decide +kernel
theorem kO1_f : Ycg kO1 = Flt.zero := by kernel_rfl
theorem kO2_f : Ycg kO2 = ⟨1, 5, 7, 1⟩ := by kernel_rfl
theorem Kn.quiet' {w w1 w2 : World} {a pb : Nat} {M : Mem} {L : List (Nat × Obj)} (h : Kn w a pb M L w1) (u : Upd [] w1 w2) : Kn w a pb M L w2 := h.step (h.m.keep u (by simp) (by simp)) (u.mono (by simp))
theorem Yco (w : World) : Calls Tryd.prog 7 #[] w fun e w' => e = .returned (.bool true) ∧ Upd [] w w' := by
 obtain ⟨S1, hS1⟩ : ∃ S, Ybi kO1 = S := ⟨_, rfl⟩
 obtain ⟨S2, hS2⟩ : ∃ S, Ybi kO2 = S := ⟨_, rfl⟩
 have a1 := kO1_k
 have a2 := kO2_k
 rw [hS1] at a1
 rw [hS2] at a2
 have c12 : S1.cells[2]? = some (.int .u32 7) := by rw [St.cR _ 2 (by decide), a1.2.2.1]
 have c18 : S1.cells[8]? = some (.int .u32 7) := by rw [show S1.cells[8]? = some (.int .u32 S1.pc) from rfl, a1.2.2.2]
 have c22 : S2.cells[2]? = some (.int .u32 0) := by rw [St.cR _ 2 (by decide), a2.2.2.1]
 have c28 : S2.cells[8]? = some (.int .u32 5) := by rw [show S2.cells[8]? = some (.int .u32 S2.pc) from rfl, a2.2.2.2]
 have HK := Yh_ (And.intro hS1 (And.intro hS2 (And.intro a1 a2)))
 clear hS1 hS2 a1 a2
 have heqF : ∀ w, (binOp .eql 37 (.agg #[.int .i64 1, .int .u32 5, .int .u32 7, .int .i64 1]) (.agg #[.int .i64 1, .int .u32 5, .int .u32 7, .int .i64 1])).run Tryd.prog w = .ok (.bool true) w := fun w => by kernel_rfl
 have tok1 : True := trivial
 go_enter Tryd.func7, Tryd.ntmps7
 go_upto_region 2 with (go_at_call 9; refine (Yj7 _).mono ?_; rintro e w1 ⟨ma, pb, rfl, ha, hp, hM1, hu1⟩; have K0 := Yh_ (show Kn w ma pb Mem.zero [] w1 from Kn.start0 (Upd.refl [] w) ha hp hM1 hu1); clear ha hp hM1 hu1)
 go_upto_region 3 with fail
 have hm := heap_alloc_new w1 (.cells (Yas kL4).toArray 35)
 have hk := K0.out.add ((Upd.refl [] w1).alloc (.cells (Yas kL4).toArray 35)) (Nat.le_refl _) hm
 change Code.wp _ _ _ _ (w1.alloc (.cells (Yas kL4).toArray 35))
 generalize w1.alloc (.cells (Yas kL4).toArray 35) = w2 at *
 generalize w1.heap.size = g1 at *
 have K1 := Yh_ hk
 clear hm hk K0
 go_upto_region 4 with (first
  |(have _t := K1; clear _t; go_at_call 10; refine (Ykf (Yh D0) ma pb g1 St.zero _ kL4 _ K1.out.m St.zero_ok (Ycv (K1.out.get 0 rfl)) kL4_ok (by unfold maxLen; decide) kL4_as (Yga D0_3) (K1.out.t _ (List.mem_singleton.2 rfl)).2.1 (by decide +kernel)).mono ?_; rintro e w3 ⟨rfl, hm, hu⟩; rw [show Yu (Yh D0) kL4 (rn0 St.zero) = kO1 from rfl, HK.out.1, kO1_f, HK.out.2.2.1.1, HK.out.2.2.1.2.1, show Flt.zero.val = .agg #[.int .i64 0, .int .u32 0, .int .u32 0, .int .i64 0] from rfl]; have K2 := Yh_ (K1.out.step hm hu); clear hm hu K1)
  |(have _t := K2; clear _t; refine Yag 28 rfl ?_; refine Yax S1 w3.heap.size rfl _ _ rfl rfl rfl (heap_alloc2_old w3 _ _) rfl ?_; intro w4 hw; have hk := K2.out.two (F := Flt.zero) (Yet hw); have c37 := Ya (Yet hw).2.1; have f37 := Yc (Yet hw).2.1; have K3 := Yh_ hk; clear hk K2 hw))
 have K4 := Yh_ (show Kn w ma pb Mem.zero [(w3.heap.size + 1, .cells (Yj Flt.zero) 37 (0, 0)), (w3.heap.size, .cells S1.cells 28 (0, 0)), (g1, .cells (Yas kL4).toArray 35 (0, 0))] ((((w4.setCell ⟨w3.heap.size + 1, 0, none⟩ (.int .i64 0)).setCell ⟨w3.heap.size + 1, 1, none⟩ (.int .u32 0)).setCell ⟨w3.heap.size + 1, 2, none⟩ (.int .u32 0)).setCell ⟨w3.heap.size + 1, 3, none⟩ (.int .i64 0)) from K3.out)
 clear K3 c37 f37
 generalize (((w4.setCell ⟨w3.heap.size + 1, 0, none⟩ (.int .i64 0)).setCell ⟨w3.heap.size + 1, 1, none⟩ (.int .u32 0)).setCell ⟨w3.heap.size + 1, 2, none⟩ (.int .u32 0)).setCell ⟨w3.heap.size + 1, 3, none⟩ (.int .i64 0) = w5 at *
 generalize w3.heap.size = g3 at *
 have tkA : True := trivial
 have tkB : True := trivial
 go_upto_region 5 with (first
  |(have _t := tkA; clear _t; at_builtin; refine Ycs rfl _ _ rfl w5.heap.size (.slice none 0 0) [] rfl (Ygt _ _) _ kL3 g1 rfl ((Ycv (c := 4) (K4.out.get 2 rfl)).cut 3 (by decide)) (by decide) (Nat.le_refl _) ?_; intro v6 w6 hg6; have G6 := Yh_ hg6; clear hg6 tkA)
  |(have _t := tkB; have _t2 := G6; clear _t _t2; at_builtin; go_loud (refine Ycs rfl _ _ rfl w5.heap.size v6 kL3 rfl (G6.out.o.old ((Upd.refl [] w6).alloc _) (by simp)) _ [kLd] w6.heap.size rfl (Ycv (l := [kLd]) (c := 1) (T := 35) (f := (0, 0)) (heap_alloc_new w6 (.cells (Yas [kLd]).toArray 35))) (by decide) (Nat.le_trans G6.out.u.size (by simp)) ?_); intro v7 w7 hg7; have hb7 := G6.out.o.block; have hu7 : Upd [] w5 w7 := (G6.out.u.alloc (.cells (Yas [kLd]).toArray 35)).new hg7.u (fun x hx => (hb7 x (by simpa using hx)).1); have G7 := Yh_ (And.intro hg7.o (And.intro (K4.out.quiet' hu7) K4.out.m.pl)); clear hb7 hu7 hg7 tkB G6 K4)
  |(have _t := G7; clear _t; go_at_call 10; obtain ⟨g7, hs7, _, hs8⟩ := G7.out.1.sl; have HS7 := Yh_ (And.intro hs7 (hs8 (by decide))); clear hs7 hs8; refine (Ykf (Yh D0) ma pb g7 St.zero v7 (kL3 ++ [kLd]) _ G7.out.2.1.m St.zero_ok HS7.out.1 kL3_ok (by unfold maxLen; decide) kL3_as (Yga D0_3) (by have := HS7.out.2; have := G7.out.2.2; omega) (by decide +kernel)).mono ?_; rintro e w8 ⟨rfl, hm, hu⟩; rw [show Yu (Yh D0) (kL3 ++ [kLd]) (rn0 St.zero) = kO2 from rfl, HK.out.2.1, kO2_f, HK.out.2.2.2.1, HK.out.2.2.2.2.1, show (⟨1, 5, 7, 1⟩ : Flt).val = .agg #[.int .i64 1, .int .u32 5, .int .u32 7, .int .i64 1] from rfl]; have K8 := Yh_ (G7.out.2.1.step hm hu); clear hm hu G7 HS7)
  |(have _t := K8; clear _t; refine Yag 28 rfl ?_; refine Yax S2 w8.heap.size rfl _ _ rfl rfl rfl (heap_alloc2_old w8 _ _) rfl ?_; intro w9 hw; have hk := K8.out.two (F := ⟨1, 5, 7, 1⟩) (Yet hw); have c37 := Ya (Yet hw).2.1; have f37 := Yc (Yet hw).2.1; have K9 := Yh_ hk; clear hk K8 hw))
 have K10 := Yh_ (show Kn w ma pb Mem.zero [(w8.heap.size + 1, .cells (Yj ⟨1, 5, 7, 1⟩) 37 (0, 0)), (w8.heap.size, .cells S2.cells 28 (0, 0)), (g3 + 1, .cells (Yj Flt.zero) 37 (0, 0)), (g3, .cells S1.cells 28 (0, 0)), (g1, .cells (Yas kL4).toArray 35 (0, 0))] ((((w9.setCell ⟨w8.heap.size + 1, 0, none⟩ (.int .i64 1)).setCell ⟨w8.heap.size + 1, 1, none⟩ (.int .u32 5)).setCell ⟨w8.heap.size + 1, 2, none⟩ (.int .u32 7)).setCell ⟨w8.heap.size + 1, 3, none⟩ (.int .i64 1)) from K9.out)
 clear K9 c37 f37
 generalize ((((w9.setCell ⟨w8.heap.size + 1, 0, none⟩ (.int .i64 1)).setCell ⟨w8.heap.size + 1, 1, none⟩ (.int .u32 5)).setCell ⟨w8.heap.size + 1, 2, none⟩ (.int .u32 7)).setCell ⟨w8.heap.size + 1, 3, none⟩ (.int .i64 1)) = w10 at *
 generalize w8.heap.size = g8 at *
 have tkC : True := trivial
 have tkD : True := trivial
 have tkE : True := trivial
 go_wp2_with (first
  |(have _t := tkC; clear _t; go_at_call 8; refine (Yda _ kL4 g1 _ (Ycv (c := 4) (K10.out.get 4 rfl)) kL4_ok (by unfold maxLen; decide)).mono ?_; rintro e w11 ⟨rfl, hu⟩; rw [show isL kL4 = true by decide +kernel]; have K11 := Yh_ (K10.out.quiet' hu); clear hu K10 tkC)
  |(have _t := tkD; have _t2 := K11; clear _t _t2; go_at_call 8; refine (Yda _ [Mi.zero] w11.heap.size _ (Ycv (l := [Mi.zero]) (c := 1) (T := 35) (f := (0, 0)) (heap_alloc_new w11 (.cells (Yas [Mi.zero]).toArray 35))) (by intro x hx; rw [List.mem_singleton.1 hx]; exact ⟨by decide⟩) (by unfold maxLen; decide)).mono ?_; rintro e w12 ⟨rfl, hu⟩; rw [show isL [Mi.zero] = false by decide +kernel]; have K12 := Yh_ (K11.out.quiet' (((Upd.refl [] w11).alloc (.cells (Yas [Mi.zero]).toArray 35)).also hu (by simp))); clear hu K11 tkD; have d1 : ∀ o, w12.cell? ⟨g8 + 1, o, none⟩ = #[.int .i64 1, .int .u32 5, .int .u32 7, .int .i64 1][o]? := Ya (K12.out.get 0 rfl); have d2 := Ya (K12.out.get 1 rfl); have d3 := Ya (K12.out.get 3 rfl); have d4 : ∀ o, w12.cell? ⟨g1, o, none⟩ = #[.int .i64 16, .int .i64 0, .int .i64 0, .int .i64 0, .int .i64 0, .int .u32 5, .bool false, .int .i64 1, .int .i64 1, .int .i64 0, .int .i64 0, .int .i64 0, .int .u32 7, .bool false, .int .i64 3, .int .i64 0, .int .i64 1, .int .i64 0, .int .i64 0, .int .u32 2, .bool false, .int .i64 14, .int .i64 0, .int .i64 1, .int .i64 0, .int .i64 0, .int .u32 0, .bool false][o]? := Ya (K12.out.get 4 rfl))
  |(have _t := tkE; have _t2 := K12; clear _t _t2; go_at_call 11; refine (Text_one _).mono ?_; rintro e w13 ⟨rfl, hu⟩; have K13 := Yh_ (K12.out.quiet' hu); clear hu K12 tkE d1 d2 d3 d4))
 go_ret
 exact ⟨rfl, K13.out.u⟩
theorem Ydj (f : Mi → Rn → MO) (l m : List Mi) (r : Rn) (h : (Yu f l r).k = 0) : Yu f (l ++ m) r = Yu f m (Yu f l r).r := by
 induction l generalizing r with
 |nil => rfl
 |cons x l ih =>
  simp only [Yu, List.cons_append] at h ⊢
  by_cases hx : (f x r).k = 0
  ·rw [if_pos hx] at h ⊢
   rw [if_pos hx]
   exact ih _ h
  ·rw [if_neg hx] at h; exact absurd h hx
theorem Yk0 {f : Mi → Rn → MO} {l : List Mi} {k : Nat} {x : Mi} {r r0 : Rn} (hx : l[k]? = some x) (h : Yu f (l.take k) r0 = ⟨0, r, Flt.zero⟩) (h0 : (f x r).k = 0) (hz : (f x r).F = Flt.zero) : Yu f (l.take (k + 1)) r0 = ⟨0, (f x r).r, Flt.zero⟩ := by
 have hk : k < l.length := (List.getElem?_eq_some_iff.1 hx).1
 have e : l.take (k + 1) = l.take k ++ [x] := by
  rw [List.take_add_one, hx]; rfl
 rw [e, Ydj _ _ _ _ (by rw [h]), h]
 simp only [Yu, h0, if_true]
theorem Run_of (f : Mi → Rn → MO) (ma pb g : Nat) (s : St) (v : Value) (l : List Mi) (w : World) (hM : Yi w ma pb Mem.zero) (hs : s.Ok) (hv : MSl w v l g) (hok : ∀ x ∈ l, x.Ok) (hn : l.length ≤ maxLen) (hd : ∀ k x, l[k]? = some x → (Yu f (l.take k) (rn0 s)).k = 0 → Yaz f x) (hz : ∀ x r, (f x r).k = 0 → (f x r).F = Flt.zero) (hf3 : ∀ x r, (f x r).k = 0 ∨ (f x r).k = 1 ∨ (f x r).k = 2) (hg : g ≠ pb) (his : isL l = true) :
  Calls Tryd.prog 10 #[.pointer (some ⟨ma, 0, none⟩), .agg s.cells, v] w fun e w' => e = .returned (.tuple #[.agg (Ybi (Yu f l (rn0 s))).cells, (Ycg (Yu f l (rn0 s))).val, .bool (Yb3 (Yu f l (rn0 s))), .bool (Ycd (Yu f l (rn0 s)))]) ∧ Yi w' ma pb Mem.zero ∧ Upd [pb] w w' := by
 obtain ⟨b, c, rfl⟩ := hv.form
 obtain ⟨O, hO⟩ : ∃ O, Yu f l (rn0 s) = O := ⟨_, rfl⟩
 rw [hO]
 have HO := Yh_ hO
 have HM := Yh_ (And.intro hM (And.intro hs (And.intro hv (And.intro hok (And.intro hn (And.intro hd (And.intro hf3 (And.intro hg his))))))))
 have HZ := Yh_ hz
 have HS := Yh_ (RuS.start w s)
 have U0 := Yh_ (ruW_up w s)
 have Z0 := Yh_ (Yjf w s)
 have HP := Yh_ (And.intro hM.al hM.pl)
 clear hO hM hs hv hok hd hf3 hg his
 obtain ⟨ln, hln⟩ : ∃ ln : Int, ln = (l.length : Int) := ⟨_, rfl⟩
 have ec : ((l.length : Nat) : Int) = ln := hln.symm
 have HL := Yh_ (And.intro hln hn)
 clear hln hn
 have tokL : True := trivial
 have tokR : True := trivial
 go_enter_defers Tryd.func10, Tryd.ntmps10
 go_upto_region 1 with fail
 change Code.wp _ _ _ _ (ruW w s)
 generalize ruW w s = w1 at *
 go_upto_region 5 with (first
  |(have _t := tokR; clear _t; go_at_call 8; refine (Yda _ l g _ (HM.out.2.2.1.keep U0.out (by simp)) HM.out.2.2.2.1 HM.out.2.2.2.2.1).mono ?_; rintro e w2 ⟨rfl, hu⟩; rw [HM.out.2.2.2.2.2.2.2.2]; have H2 := Yh_ (And.intro (HS.out.keep hu (by simp)) (And.intro (U0.out.also hu (by simp)) (Nat.le_trans (Nat.le_of_eq Z0.out.symm) hu.size))); clear hu tokR)
  |(refine Yaa 28 rfl ?_; refine Yb1 s w.heap.size rfl _ rfl rfl H2.out.1.zs ?_)
  |(refine Yej rfl ma s s _ _ _ rfl rfl rfl rfl ?_))
 have hst : RuL w s ma pb w2.heap.size (rn0 s) ((w2.alloc (.cells (Ye ma (rn0 s)) 54)).alloc (.cells #[.pointer (some ⟨w2.heap.size, 0, none⟩)] 52)) := by
  have hu := ((Upd.refl [] w2).alloc (.cells (Ye ma (rn0 s)) 54)).alloc (.cells #[.pointer (some ⟨w2.heap.size, 0, none⟩)] 52)
  have h5 := H2.out.2.2
  have hp := HP.out
  refine ⟨H2.out.1.keep hu (by simp), ⟨⟨Ym _ (heap_alloc_new _ _), HM.out.2.1, HM.out.2.1, fun _ => by show (0 : Int) ≤ 0 ∧ (0 : Int) < 4294967296; decide⟩, (HM.out.1.keep H2.out.2.1 (by simp) (by simp)).keep hu (by simp) (by simp), by omega, by omega⟩, ?_, (H2.out.2.1.also hu (by simp)).mono (by simp), by omega, hp.2⟩
  have := heap_alloc_new (w2.alloc (.cells (Ye ma (rn0 s)) 54)) (.cells #[.pointer (some ⟨w2.heap.size, 0, none⟩)] 52)
  rwa [show (w2.alloc (.cells (Ye ma (rn0 s)) 54)).heap.size = w2.heap.size + 1 from by simp] at this
 have K0 := Yh_ hst
 clear hst H2 U0 Z0 HS
 change Code.wp _ _ _ _ ((w2.alloc (.cells (Ye ma (rn0 s)) 54)).alloc (.cells #[.pointer (some ⟨w2.heap.size, 0, none⟩)] 52))
 generalize (w2.alloc (.cells (Ye ma (rn0 s)) 54)).alloc (.cells #[.pointer (some ⟨w2.heap.size, 0, none⟩)] 52) = w3 at *
 generalize w2.heap.size = d at *
 go_wp2_with fail
 go_loopw [26] (fun i wr => ∃ (q : Int) (r : Rn), i = .int .i64 q ∧ Hid (0 ≤ q ∧ q ≤ ln) ∧ Hid (Yu f (l.drop q.toNat) r = O ∧ Yu f (l.take q.toNat) (rn0 s) = ⟨0, r, Flt.zero⟩) ∧ Hid (RuL w s ma pb d r wr)) (fun i _ => (ln - intOf i).toNat)
 case atStart => exact ⟨0, _, rfl, Yh_ (by have := HL.out; omega), Yh_ ⟨HO.out, rfl⟩, K0⟩
 case round =>
  clear K0 HO
  obtain ⟨q, r, rfl, hq, HO, K1⟩ := hrel
  by_cases hlt : q < ln
  ·have d1 : decide (q < ln) = true := by simp [hlt]
   have hq0 := hq.out
   have hl0 := HL.out
   obtain ⟨k, hk⟩ : ∃ k : Nat, q = k := ⟨q.toNat, by omega⟩
   have hkl : k < l.length := by omega
   obtain ⟨x, hx⟩ : ∃ x, l[k]? = some x := ⟨l[k], List.getElem?_eq_getElem hkl⟩
   obtain ⟨o, rfl⟩ := HM.out.2.2.1.block (by omega)
   have HR2 := Yh_ ((HM.out.2.2.1.keep K1.out.u (by simpa using HM.out.2.2.2.2.2.2.2.1)).at hx)
   have hxm : x ∈ l := List.mem_of_getElem? hx
   have hqt : q.toNat = k := by omega
   have hrun := HO.out.1
   have htk := HO.out.2
   rw [hqt] at htk
   rw [hqt, Yif f hx r] at hrun
   have HX := Yh_ (And.intro hx (And.intro (HM.out.2.2.2.1 x hxm) (And.intro (HM.out.2.2.2.2.2.1 k x hx (by rw [htk])) (And.intro hrun htk))))
   have hb1 : 0 ≤ q ∧ q < ln := by omega
   have e1 : wrap64 (q + 1) = q + 1 := by unfold wrap64; unfold maxLen at hl0; omega
   have HB := Yh_ (And.intro hb1 hqt)
   have h3 := HM.out.2.2.2.2.2.2.1 x r
   clear hx hxm hq0 hl0 hkl hlt hk hrun htk
   have tokA : True := trivial
   have tokB : True := trivial
   have cb := Ya (((Upd.refl [] wr).alloc (.cells Mi.zero.cells 35)).get K1.out.b (by simp))
   have hlb := Yr K1.out.b
   rcases h3 with h3 | h3 | h3
   all_goals
    have H3 := Yh_ h3
    have H3b := Yh_ (HZ.out x r)
    clear h3
    go_wp2_with (first
     |(have _t := tokA; clear _t; refine Yaa 35 rfl ?_; refine Yl rfl 35 _ rfl g (o + k * 7) (by first | rfl | (rw [← HB.out.2]; rfl)) x.cells _ HR2.out Tryd.underlying35 rfl (by rw [Mi.size]; exact Yeu) ?_; clear hqt tokA)
     |(refine Yag 35 rfl ?_; refine Yc8 x wr.heap.size rfl _ _ rfl rfl rfl (heap_alloc_new wr (.cells Mi.zero.cells 35)) rfl ?_; intro w3 hw; have h3 := Yi1 (S := []) (w0 := wr) hw (heap_alloc_new wr (.cells Mi.zero.cells 35)) rfl ((Upd.refl [] wr).alloc _) (.inr (Nat.le_refl _)); clear hw cb; have cb := Ya (h3.2.get K1.out.b (by simp)); have U3 := Yh_ (And.intro (K1.out.quiet h3.2) h3.1); clear h3)
     |(have _t := U3; clear _t; refine Yaa 35 rfl ?_; refine Ydc x wr.heap.size rfl _ rfl rfl U3.out.2 ?_)
     |(have _t := U3; clear _t; go_at_call 14; refine (HX.out.2.2.1 d ma pb r _ U3.out.1.a).mono ?_; intro e w4 hd4; first | (have hd5 := hd4.1 H3.out; obtain ⟨rfl, hr, hm, hu⟩ := hd5; have U4 := Yh_ (U3.out.1.call hu hr hm); clear hr hm hu U3 hd4 cb) | (have hd5 := hd4.2.1 H3.out; obtain ⟨rfl, hr, hm, hu⟩ := hd5; have U4 := Yh_ (U3.out.1.call hu hr hm); clear hr hm hu U3 hd4 cb) | (have hd5 := hd4.2.2 H3.out; obtain ⟨rfl, hr, hm, hu⟩ := hd5; have U4 := Yh_ (U3.out.1.call hu hr hm); clear hr hm hu U3 hd4 cb)))
   ·try simp only [e1]
    go_roundw
    case rel => exact ⟨q + 1, _, rfl, Yh_ (by have := HB.out; omega), Yh_ (by have h1 := HX.out.2.2.2.1; rw [if_pos H3.out] at h1; rw [show (q + 1).toNat = k + 1 by have := HB.out; omega]; exact ⟨h1, Yk0 HX.out.1 HX.out.2.2.2.2 H3.out (H3b.out H3.out)⟩), U4⟩
    case measure => have := HB.out; simp only [intOf]; omega
   ·have hOe : (f x r) = O := by have h1 := HX.out.2.2.2.1; rw [if_neg (by rw [H3.out]; decide)] at h1; exact h1
    rw [hOe] at U4 H3 ⊢
    have hh := HP.out
    refine Yfv O.F _ U4.out.rv (fun w5 hr => ?_) (fun w5 hu => ⟨rfl, U4.out.a.m.keep hu (by simp; omega) (by simp; omega), U4.out.u.also hu (by simp; omega)⟩)
    rw [Ybi, Ycg, Yb3, Ycd, if_pos H3.out, if_pos H3.out, H3.out]
    exact Ybs rfl (Ycy 6 (w.heap.size + 1) _ rfl hr.o) (Ybm 7 (w.heap.size + 1 + 1) _ rfl hr.f) (Yaw 8 (w.heap.size + 1 + 1 + 1) _ rfl hr.k) (Yaw 9 (w.heap.size + 1 + 1 + 1 + 1) _ rfl hr.q)
   ·have hOe : (f x r) = O := by have h1 := HX.out.2.2.2.1; rw [if_neg (by rw [H3.out]; decide)] at h1; exact h1
    rw [hOe] at U4 H3
    have hh := HP.out
    refine Ygk _ U4.out.rv (fun w5 hr => ?_) (fun w5 hu => ⟨rfl, U4.out.a.m.keep hu (by simp; omega) (by simp; omega), U4.out.u.also hu (by simp; omega)⟩)
    rw [Ybi, Ycg, Yb3, Ycd, if_neg (by rw [H3.out]; decide), if_neg (by rw [H3.out]; decide), H3.out]
    exact Ybs rfl (Ycy 6 (w.heap.size + 1) _ rfl hr.o) (Ybm 7 (w.heap.size + 1 + 1) Flt.zero rfl hr.f) (Yaw 8 (w.heap.size + 1 + 1 + 1) _ rfl hr.k) (Yaw 9 (w.heap.size + 1 + 1 + 1 + 1) _ rfl hr.q)
  ·have hqk : q = ln := by have := hq.out; omega
   subst hqk
   have d1 : decide (q < q) = false := by simp
   have hfin : (⟨0, r, Flt.zero⟩ : MO) = O := by
    have h1 := HO.out.1
    rw [List.drop_eq_nil_of_le (by have := HL.out; omega)] at h1
    exact h1
   have HFI := Yh_ hfin
   have cb := Ya K1.out.b
   have cd := K1.out.a.r.cell
   have tokS : True := trivial
   clear hlt hfin
   go_wp2_with (first
    |(have _t := tokS; clear _t; refine Yaa 28 rfl ?_; refine Yl rfl 28 _ rfl d 1 rfl r.s.cells _ K1.out.a.r.rs Tryd.underlying28 rfl (by rw [St.size]; exact Yay) ?_; clear tokS)
    |(refine Yag 28 rfl ?_; refine Yax r.s (w.heap.size + 1) rfl _ _ rfl rfl rfl K1.out.v.zo rfl ?_; intro w6 hw; have h6 := Ya7 r.s K1.out.v.zo rfl; rw [hw] at h6; have u6 : Upd [w.heap.size + 1] wr w6 := hw ▸ (Upd.refl [w.heap.size + 1] wr).setCells (.inl (by simp)) r.s.cells.toList 0; clear hw; have hf6 := u6.get K1.out.v.zf (by rw [List.mem_singleton]; omega); have hk6 := u6.get K1.out.v.zk (by rw [List.mem_singleton]; omega); have hq6 := u6.get K1.out.v.zq (by rw [List.mem_singleton]; omega); have cf := Ya hf6; have ck := Ya hk6; have cq := Ya hq6; have gf := Yc hf6; have gk := Yc hk6; have gq := Yc hq6; have H6 := Yh_ (And.intro h6 (And.intro hf6 (And.intro hk6 (And.intro hq6 u6)))); clear h6 u6 hf6 hk6 hq6))
   have hend := Ye1 (m := True) Flt.zero true false H6.out.1 H6.out.2.1 H6.out.2.2.1 H6.out.2.2.2.1 ⟨by omega, by omega, by omega, trivial⟩ H6.out.2.2.2.2
   have hh := HP.out
   have hO2 := HFI.out
   subst hO2
   refine Yhh _ ?_ ⟨rfl, K1.out.a.m.keep hend.2 (by simp; omega) (by simp; omega), K1.out.u.also hend.2 (by simp; omega)⟩
   have hr := hend.1
   exact Ybs rfl (Ycy 6 (w.heap.size + 1) _ rfl hr.o) (Ybm 7 (w.heap.size + 1 + 1) Flt.zero rfl hr.f) (Yaw 8 (w.heap.size + 1 + 1 + 1) _ rfl hr.k) (Yaw 9 (w.heap.size + 1 + 1 + 1 + 1) _ rfl hr.q)
def D1 (x : Mi) (r : Rn) : MO :=
 if x.k = 8 then ⟨0, r.alu x.n x.t (r.T x.a.toNat) (r.T x.b.toNat) x.fl, Flt.zero⟩
 else if x.k = 12 then
  (if Yce x.n (r.s.R 0) (r.s.R 2) (r.T x.a.toNat) = true then ⟨0, { r with s := (r.s.setR 0 (Ybr x.n (r.s.R 0) (r.s.R 2) (r.T x.a.toNat))).setR 2 (Ybq x.n (r.s.R 0) (r.s.R 2) (r.T x.a.toNat)) }, Flt.zero⟩ else ⟨1, r, ⟨2, 0, 0, 0⟩⟩)
 else if x.n = 51 then ⟨0, { r with s := r.s.setF (Yhs r.s.f) }, Flt.zero⟩
 else if x.n = 52 then ⟨0, { r with s := r.s.setF (Yha r.s.f) }, Flt.zero⟩
 else if x.n = 46 then ⟨1, r, Mem.zero.canF (r.T x.a.toNat) 8 2⟩
 else ⟨1, r, Mem.zero.rd8F (r.T x.a.toNat)⟩
theorem D1_3 (x : Mi) (r : Rn) : (D1 x r).k = 0 ∨ (D1 x r).k = 1 ∨ (D1 x r).k = 2 := by
 unfold D1
 repeat' split
 all_goals first | exact .inl rfl | exact .inr (.inl rfl)
theorem D1_z {x : Mi} {r : Rn} (h : (D1 x r).k = 0) : (D1 x r).F = Flt.zero := by
 revert h
 unfold D1
 repeat' split
 all_goals first | exact fun _ => rfl | exact fun h => (by cases h)
theorem doesD1_z {x : Mi} {r : Rn} (h : (Yh D1 x r).k = 0) : (Yh D1 x r).F = Flt.zero := by
 revert h
 unfold Yh
 have e : ∀ (p : Prop) [Decidable p] (a b : MO), (a.k = 0 → a.F = Flt.zero) → (b.k = 0 → b.F = Flt.zero) → ((if p then a else b).k = 0 → (if p then a else b).F = Flt.zero) := by
  intro p _ a b ha hb; split; exact ha; exact hb
 repeat (first | exact fun _ => rfl | exact D1_z | refine e _ _ _ (by first | exact fun _ => rfl | exact fun h => (by cases h)) ?_)
theorem ralu_any (d ma : Nat) (r : Rn) (k t a' b' c n a b : Int) (fl : Bool) (w : World) (h : Ys w d ma r) (ht : 0 ≤ t ∧ t < 64) (hn : 0 ≤ n ∧ n < 4294967296) (ha : 0 ≤ a ∧ a < 4294967296) (hb : 0 ≤ b ∧ b < 4294967296) (hf : aluN n = true) :
  Calls Tryd.prog 21 #[.pointer (some ⟨d, 0, none⟩), .agg #[.int .i64 k, .int .i64 t, .int .i64 a', .int .i64 b', .int .i64 c, .int .u32 n, .bool fl], .int .u32 a, .int .u32 b] w fun e w' => e = .returned (.tuple #[]) ∧ Ys w' d ma (r.alu n t a b fl) ∧ Upd [d] w w' := by
 by_cases h1 : btw n 21 25 = true
 ·cases fl
  ·exact Ylu d ma r k t a' b' c n a b w h ht hn ha hb h1
  ·exact Ylo d ma r k t a' b' c n a b w h ht hn ha hb h1
 ·by_cases h2 : btw n 16 18 = true
  ·by_cases h3 : n = 16 ∨ n = 17
   ·cases fl
    ·exact Yjw d ma r k t a' b' c n a b w h ht hn ha hb h2 h3
    ·exact Yj3 d ma r k t a' b' c n a b w h ht hn ha hb h2 h3
   ·cases fl
    ·exact Yku d ma r k t a' b' c n a b w h ht hn ha hb h2 h3
    ·exact Ykj d ma r k t a' b' c n a b w h ht hn ha hb h2 h3
  ·have h4 : Ydr n = true := by
    unfold aluN at hf
    rw [Ycw] at h1 h2
    simp only [Bool.or_eq_true, Ycw] at hf
    unfold Ydr
    simp
    omega
   cases fl
   ·exact Yk6 d ma r k t a' b' c n a b w h ht hn ha hb h4
   ·exact Ylm d ma r k t a' b' c n a b w h ht hn ha hb h4
theorem Yew {D : Mi → Rn → MO} {d ma pb : Nat} {r r' : Rn} {w : World} {x : Mi} {F : Flt} {good : Bool} (hf : Yh D x r = if good = true then ⟨0, r', Flt.zero⟩ else ⟨1, r, F⟩) {fn : Nat} {A : Array Value}
  (hc : Calls Tryd.prog fn A w (fun e w' => if good = true then Ycm d ma pb r' Mem.zero w e w' else Ybe d ma pb r Mem.zero F w e w')) : Calls Tryd.prog fn A w (Yf1 d ma pb (Yh D x r) w) :=
 hc.mono fun e w' hh => by
  rw [hf]
  cases good
  ·exact ⟨fun hh => (by cases hh), fun _ => hh, fun hh => (by cases hh)⟩
  ·exact ⟨fun _ => hh, fun hh => (by cases hh), fun hh => (by cases hh)⟩
theorem as_load8 {D : Mi → Rn → MO} {x : Mi} (hk : x.k = 5) (h : x.is = true) (hx : x.Ok) : Yaz (Yh D) x := fun d ma pb r w hw => by
 obtain ⟨k, t, a, b, c, n, fl⟩ := x
 obtain rfl : k = 5 := hk
 exact Yfa rfl (Yby d ma pb r Mem.zero 5 t a b c n fl w hw (Mi.in_of h hx) (by decide) (fun w1 => Ybe d ma pb r Mem.zero (Mem.zero.rdF (r.T a.toNat) 1 1) w1) false
  (fun w1 h1 => Yla d ma pb r Mem.zero t a b c n _ _ fl w1 h1 (h1.r.ok.T _) (h1.r.ok.T _) (Yfp _).2) r _ (fun w1 e w' hh => hh))
theorem as_store {D : Mi → Rn → MO} {x : Mi} (hk : x.k = 6) (h : x.is = true) (hx : x.Ok) : Yaz (Yh D) x := fun d ma pb r w hw => by
 obtain ⟨k, t, a, b, c, n, fl⟩ := x
 obtain rfl : k = 6 := hk
 exact Yfa rfl (Yby d ma pb r Mem.zero 6 t a b c n fl w hw (Mi.in_of h hx) (by decide) (fun w1 => Ybe d ma pb r Mem.zero (Mem.zero.wrF (r.T a.toNat) 4) w1) false
  (fun w1 h1 => Ylg d ma pb r Mem.zero t a b c n _ _ fl w1 h1 (h1.r.ok.T _) (h1.r.ok.T _) (Yhc _).1) r _ (fun w1 e w' hh => hh))
theorem Ylc {D : Mi → Rn → MO} {x : Mi} (hk : x.k = 7) (h : x.is = true) (hx : x.Ok) : Yaz (Yh D) x := fun d ma pb r w hw => by
 obtain ⟨k, t, a, b, c, n, fl⟩ := x
 obtain rfl : k = 7 := hk
 exact Yfa rfl (Yby d ma pb r Mem.zero 7 t a b c n fl w hw (Mi.in_of h hx) (by decide) (fun w1 => Ybe d ma pb r Mem.zero (Mem.zero.wrF (r.T a.toNat) 1) w1) false
  (fun w1 h1 => Ykz d ma pb r Mem.zero t a b c n _ _ fl w1 h1 (h1.r.ok.T _) (h1.r.ok.T _) (Yhc _).2) r _ (fun w1 e w' hh => hh))
theorem as_flag {D : Mi → Rn → MO} {x : Mi} (hk : x.k = 9) (h : x.is = true) (hx : x.Ok) : Yaz (Yh D) x := fun d ma pb r w hw => by
 obtain ⟨k, t, a, b, c, n, fl⟩ := x
 obtain rfl : k = 9 := hk
 have h8 : n < 7 := by have := Ycw.1 (show btw n 0 6 = true from Mi.k_of h); omega
 exact Yb9 (Q := fun _ _ => True) hw rfl (Ylr d ma r t a b c n fl w hw.r (Mi.in_of h hx) h8)
theorem as_cond {D : Mi → Rn → MO} {x : Mi} (hk : x.k = 10) (h : x.is = true) (hx : x.Ok) : Yaz (Yh D) x := fun d ma pb r w hw => by
 obtain ⟨k, t, a, b, c, n, fl⟩ := x
 obtain rfl : k = 10 := hk
 exact Yb9 (Q := fun _ _ => True) hw rfl (Yk7 d ma r t a b c n fl w hw.r (Mi.in_of h hx))
theorem Ylf {D : Mi → Rn → MO} {x : Mi} (hk : x.k = 11) (h : x.is = true) (hx : x.Ok) : Yaz (Yh D) x := fun d ma pb r w hw => by
 obtain ⟨k, t, a, b, c, n, fl⟩ := x
 obtain rfl : k = 11 := hk
 exact Yb9 (Q := fun _ _ => True) hw rfl (Yju d ma r t a b c n fl w hw.r (Mi.in_of h hx))
theorem as_dir {D : Mi → Rn → MO} {x : Mi} (hk : x.k = 17) (h : x.is = true) (hx : x.Ok) : Yaz (Yh D) x := fun d ma pb r w hw => by
 obtain ⟨k, t, a, b, c, n, fl⟩ := x
 obtain rfl : k = 17 := hk
 exact Yb9 (Q := fun _ _ => True) hw rfl (does_dir d ma r t a b c n fl w hw.r (Mi.in_of h hx))
theorem as_alu {x : Mi} (hk : x.k = 8) (h : x.is = true) (hx : x.Ok) : Yaz (Yh D1) x := fun d ma pb r w hw => by
 obtain ⟨k, t, a, b, c, n, fl⟩ := x
 obtain rfl : k = 8 := hk
 have hn : aluN n = true := Mi.k_of h
 have hi := Mi.in_of h hx
 exact Yew (good := true) (r' := r.alu n t (r.T a.toNat) (r.T b.toNat) fl) (F := Flt.zero) rfl (does_alu d ma pb r Mem.zero 8 t a b c n fl w hw hi rfl (fun w1 => Ycm d ma pb (r.alu n t (r.T a.toNat) (r.T b.toNat) fl) Mem.zero w1) true
  (fun w1 h1 => (ralu_any d ma r 8 t a b c n _ _ fl w1 h1.r hi.t hi.n (h1.r.ok.T _) (h1.r.ok.T _) hn).mono fun e w' hh => Yfu h1 hh) (r.alu n t (r.T a.toNat) (r.T b.toNat) fl) Flt.zero (fun w1 e w' hh => hh))
theorem as_div {x : Mi} (hk : x.k = 12) (h : x.is = true) (hx : x.Ok) : Yaz (Yh D1) x := fun d ma pb r w hw => by
 obtain ⟨k, t, a, b, c, n, fl⟩ := x
 obtain rfl : k = 12 := hk
 have hn : n = 19 ∨ n = 20 := by have := Ycw.1 (show btw n 19 20 = true from Mi.k_of h); omega
 have hD : Yh D1 ⟨12, t, a, b, c, n, fl⟩ r = if Yce n (r.s.R 0) (r.s.R 2) (r.T a.toNat) = true then ⟨0, { r with s := (r.s.setR 0 (Ybr n (r.s.R 0) (r.s.R 2) (r.T a.toNat))).setR 2 (Ybq n (r.s.R 0) (r.s.R 2) (r.T a.toNat)) }, Flt.zero⟩ else ⟨1, r, ⟨2, 0, 0, 0⟩⟩ := rfl
 cases hkk : Yce n (r.s.R 0) (r.s.R 2) (r.T a.toNat)
 ·exact Yew (good := false) (r' := r) (F := ⟨2, 0, 0, 0⟩) (by rw [hD, hkk]; rfl) (Yby d ma pb r Mem.zero 12 t a b c n fl w hw (Mi.in_of h hx) (by decide) (fun w1 => Ybe d ma pb r Mem.zero ⟨2, 0, 0, 0⟩ w1) false
   (fun w1 h1 => (Yhi d ma pb r t a b c n _ _ fl w1 h1 (h1.r.ok.T _) (h1.r.ok.T _) hn).mono fun e w' hh => by rw [hkk] at hh; exact hh) r ⟨2, 0, 0, 0⟩ (fun w1 e w' hh => hh))
 ·exact Yew (good := true) (r' := { r with s := (r.s.setR 0 (Ybr n (r.s.R 0) (r.s.R 2) (r.T a.toNat))).setR 2 (Ybq n (r.s.R 0) (r.s.R 2) (r.T a.toNat)) }) (F := ⟨2, 0, 0, 0⟩) (by rw [hD, hkk]) (Yby d ma pb r Mem.zero 12 t a b c n fl w hw (Mi.in_of h hx) (by decide) (fun w1 => Ycm d ma pb ({ r with s := (r.s.setR 0 (Ybr n (r.s.R 0) (r.s.R 2) (r.T a.toNat))).setR 2 (Ybq n (r.s.R 0) (r.s.R 2) (r.T a.toNat)) }) Mem.zero w1) true
   (fun w1 h1 => (Yhi d ma pb r t a b c n _ _ fl w1 h1 (h1.r.ok.T _) (h1.r.ok.T _) hn).mono fun e w' hh => by rw [hkk] at hh; exact hh) ({ r with s := (r.s.setR 0 (Ybr n (r.s.R 0) (r.s.R 2) (r.T a.toNat))).setR 2 (Ybq n (r.s.R 0) (r.s.R 2) (r.T a.toNat)) }) ⟨2, 0, 0, 0⟩ (fun w1 e w' hh => hh))
theorem as_num {x : Mi} (hk : x.k = 13) (h : x.is = true) (hx : x.Ok) : Yaz (Yh D1) x := fun d ma pb r w hw => by
 obtain ⟨k, t, a, b, c, n, fl⟩ := x
 obtain rfl : k = 13 := hk
 have hn := Ycw.1 (show btw n 45 53 = true from Mi.k_of h)
 have hi := Mi.in_of h hx
 have hp : ∀ F : Flt, Yh D1 ⟨13, t, a, b, c, n, fl⟩ r = (if false = true then ⟨0, r, Flt.zero⟩ else ⟨1, r, F⟩) → (∀ w1, Yal w1 d ma pb r Mem.zero → Calls Tryd.prog 40 #[.pointer (some ⟨d, 0, none⟩), .int .i64 n, .int .u32 (r.T a.toNat)] w1 (Ybe d ma pb r Mem.zero F w1)) → Calls Tryd.prog 14 #[.pointer (some ⟨d, 0, none⟩), .agg #[.int .i64 13, .int .i64 t, .int .i64 a, .int .i64 b, .int .i64 c, .int .u32 n, .bool fl]] w (Yf1 d ma pb (Yh D1 ⟨13, t, a, b, c, n, fl⟩ r) w) := fun F hf hc =>
  Yew (good := false) hf (Yby d ma pb r Mem.zero 13 t a b c n fl w hw hi (by decide) _ false (fun w1 h1 => Yhe d ma pb r r F t a b c n _ _ fl false w1 h1 (h1.r.ok.T _) (h1.r.ok.T _) hi.n (fun w2 h2 => hc w2 h2)) r F (fun w1 e w' hh => hh))
 have hr : ∀ r', Yh D1 ⟨13, t, a, b, c, n, fl⟩ r = (if true = true then ⟨0, r', Flt.zero⟩ else ⟨1, r, Flt.zero⟩) → (∀ w1, Yal w1 d ma pb r Mem.zero → Calls Tryd.prog 40 #[.pointer (some ⟨d, 0, none⟩), .int .i64 n, .int .u32 (r.T a.toNat)] w1 (Ycm d ma pb r' Mem.zero w1)) → Calls Tryd.prog 14 #[.pointer (some ⟨d, 0, none⟩), .agg #[.int .i64 13, .int .i64 t, .int .i64 a, .int .i64 b, .int .i64 c, .int .u32 n, .bool fl]] w (Yf1 d ma pb (Yh D1 ⟨13, t, a, b, c, n, fl⟩ r) w) := fun r' hf hc =>
  Yew (good := true) hf (Yby d ma pb r Mem.zero 13 t a b c n fl w hw hi (by decide) _ true (fun w1 h1 => Yhe d ma pb r r' Flt.zero t a b c n _ _ fl true w1 h1 (h1.r.ok.T _) (h1.r.ok.T _) hi.n (fun w2 h2 => hc w2 h2)) r' Flt.zero (fun w1 e w' hh => hh))
 have hT := fun (w1 : World) (h1 : Yal w1 d ma pb r Mem.zero) => h1.r.ok.T a.toNat
 have hn' : n = 45 ∨ n = 46 ∨ n = 47 ∨ n = 48 ∨ n = 49 ∨ n = 50 ∨ n = 51 ∨ n = 52 ∨ n = 53 := by omega
 rcases hn' with rfl | rfl | rfl | rfl | rfl | rfl | rfl | rfl | rfl
 ·exact hp _ rfl (fun w1 h1 => Yg1.1 d ma pb r _ w1 h1 (hT w1 h1))
 ·exact hp _ rfl (fun w1 h1 => Yk5 d ma pb r _ w1 h1 (hT w1 h1))
 ·exact hp _ rfl (fun w1 h1 => Yg1.2.1 d ma pb r _ w1 h1 (hT w1 h1))
 ·exact hp _ rfl (fun w1 h1 => Yg1.2.2.1 d ma pb r _ w1 h1 (hT w1 h1))
 ·exact hp _ rfl (fun w1 h1 => Yg1.2.2.2.1 d ma pb r _ w1 h1 (hT w1 h1))
 ·exact hp _ rfl (fun w1 h1 => Yg1.2.2.2.2.1 d ma pb r _ w1 h1 (hT w1 h1))
 ·exact hr _ rfl (fun w1 h1 => Yln d ma pb r _ w1 h1 (hT w1 h1))
 ·exact hr _ rfl (fun w1 h1 => Yk1 d ma pb r _ w1 h1 (hT w1 h1))
 ·exact hp _ rfl (fun w1 h1 => Yg1.2.2.2.2.2 d ma pb r _ w1 h1 (hT w1 h1))
theorem as_any {x : Mi} (h : x.is = true) (hx : x.Ok) : Yaz (Yh D1) x := by
 have hk := Mi.k_of h
 have h17 : 1 ≤ x.k ∧ x.k ≤ 17 := by
  unfold Mi.kOk at hk
  by_cases e1 : x.k = 2 ∨ x.k = 3
  ·omega
  by_cases e2 : x.k = 9
  ·omega
  by_cases e3 : x.k = 10
  ·omega
  by_cases e4 : x.k = 8
  ·omega
  by_cases e5 : x.k = 12
  ·omega
  by_cases e6 : x.k = 13
  ·omega
  by_cases e7 : x.k = 17
  ·omega
  rw [if_neg e1, if_neg e2, if_neg e3, if_neg e4, if_neg e5, if_neg e6, if_neg e7] at hk
  exact Ycw.1 hk
 have hc : x.k = 1 ∨ x.k = 2 ∨ x.k = 3 ∨ x.k = 4 ∨ x.k = 5 ∨ x.k = 6 ∨ x.k = 7 ∨ x.k = 8 ∨ x.k = 9 ∨ x.k = 10 ∨ x.k = 11 ∨ x.k = 12 ∨ x.k = 13 ∨ x.k = 14 ∨ x.k = 15 ∨ x.k = 16 ∨ x.k = 17 := by omega
 rcases hc with e | e | e | e | e | e | e | e | e | e | e | e | e | e | e | e | e
 ·exact Ygo e h hx
 ·exact as_reg e h hx
 ·exact Yfn e h hx
 ·exact Ykb e h hx
 ·exact as_load8 e h hx
 ·exact as_store e h hx
 ·exact Ylc e h hx
 ·exact as_alu e h hx
 ·exact as_flag e h hx
 ·exact as_cond e h hx
 ·exact Ylf e h hx
 ·exact as_div e h hx
 ·exact as_num e h hx
 ·exact Ykc e h hx
 ·exact as_ask e h hx
 ·exact Ygz e h hx
 ·exact as_dir e h hx
structure REq (r r' : Rn) : Prop where
 s : r.s = r'.s
 T : ∀ i, i < 64 → r.T i = r'.T i
structure OEq (o o' : MO) : Prop where
 k : o.k = o'.k
 F : o.F = o'.F
 r : REq o.r o'.r
theorem OEq.ite {p : Prop} [Decidable p] {a a' b b' : MO} (ha : OEq a a') (hb : OEq b b') : OEq (if p then a else b) (if p then a' else b') := by split; exact ha; exact hb
theorem REq.set {r r' : Rn} (h : REq r r') (j : Nat) (v : Int) : REq (r.setT j v) (r'.setT j v) :=
 ⟨h.s, fun i hi => by unfold Rn.setT; dsimp only; split; rfl; exact h.T i hi⟩
theorem REq.alu {r r' : Rn} (h : REq r r') (n t a b : Int) (fl : Bool) : REq (r.alu n t a b fl) (r'.alu n t a b fl) := by
 unfold Rn.alu
 rw [h.s]
 dsimp only
 by_cases h2 : n = 16 ∨ n = 17
 ·rw [if_pos h2, if_pos h2]
  cases fl
  ·exact (h.set _ _).set _ _
  ·exact ⟨by show r.s.setFl _ = r'.s.setFl _; rw [h.s], ((h.set _ _).set _ _).T⟩
 ·rw [if_neg h2, if_neg h2]
  cases fl
  ·exact h.set _ _
  ·exact ⟨by show r.s.setFl _ = r'.s.setFl _; rw [h.s], (h.set _ _).T⟩
theorem does_eq {x : Mi} {r r' : Rn} (hx : x.is = true) (hok : x.Ok) (h : REq r r') : OEq (Yh D1 x r) (Yh D1 x r') := by
 have hi := Mi.in_of hx hok
 have ta := h.T x.a.toNat (by have := hi.a; omega)
 have tb := h.T x.b.toNat (by have := hi.b; omega)
 have tc := h.T x.c.toNat (by have := hi.c; omega)
 have hs := h.s
 have set : ∀ j v, OEq ⟨0, r.setT j v, Flt.zero⟩ ⟨0, r'.setT j v, Flt.zero⟩ := fun j v => ⟨rfl, rfl, h.set j v⟩
 have st : ∀ k s F p p', OEq ⟨k, ⟨s, p, r.T⟩, F⟩ ⟨k, ⟨s, p', r'.T⟩, F⟩ := fun k s F p p' => ⟨rfl, rfl, rfl, h.T⟩
 have same : ∀ k F, OEq ⟨k, r, F⟩ ⟨k, r', F⟩ := fun k F => ⟨rfl, rfl, h⟩
 unfold Yh D1 selV
 simp only [hs, ta, tb, tc]
 repeat' refine OEq.ite ?_ ?_
 all_goals first
  |exact set _ _
  |exact st _ _ _ _ _
  |exact same _ _
  |exact ⟨rfl, rfl, h.alu _ _ _ _ _⟩
theorem run_eq : ∀ (l : List Mi), (∀ x ∈ l, x.is = true ∧ x.Ok) → ∀ r r', REq r r' → OEq (Yu (Yh D1) l r) (Yu (Yh D1) l r')
 |[], _, r, r', h => ⟨rfl, rfl, h⟩
 |x :: l, hl, r, r', h => by
  have h1 := does_eq (hl x (by simp)).1 (hl x (by simp)).2 h
  unfold Yu
  by_cases h0 : (Yh D1 x r).k = 0
  ·rw [if_pos h0, if_pos (h1.k ▸ h0)]
   exact run_eq l (fun y hy => hl y (by simp [hy])) _ _ h1.r
  ·rw [if_neg h0, if_neg (fun e => h0 (h1.k.trans e))]
   exact h1
theorem Yfh (f : Mi → Rn → MO) : ∀ (l m : List Mi) (r : Rn), (Yu f l r).k ≠ 0 → Yu f (l ++ m) r = Yu f l r
 |[], m, r, h => absurd rfl h
 |x :: l, m, r, h => by
  rw [List.cons_append]
  unfold Yu at h ⊢
  by_cases h0 : (f x r).k = 0
  ·rw [if_pos h0] at h ⊢
   rw [if_pos h0]
   exact Yfh f l m _ h
  ·rw [if_neg h0, if_neg h0]
def clM (i : Nat) : Mi := ⟨1, i, 0, 0, 0, 0, false⟩
def clL (n : Nat) : List Mi := (List.range n).map clM
theorem Yji (n : Nat) : clL (n + 1) = clL n ++ [clM n] := by unfold clL; rw [List.range_succ, List.map_append]; rfl
theorem Yeq (n : Nat) : (clL n).length = n := by simp [clL]
theorem clM_is (i : Nat) (h : i < 64) : (clM i).is = true ∧ (clM i).Ok := by
 refine ⟨?_, ⟨by show (0 : Int) ≤ 0 ∧ (0 : Int) < 4294967296; decide⟩⟩
 have e : inT (i : Int) = true := by unfold inT; simp; omega
 unfold Mi.is Mi.tOk clM
 dsimp only
 rw [e]
 rfl
theorem clL_is (x : Mi) (h : x ∈ clL 64) : x.is = true ∧ x.Ok := by
 unfold clL at h
 obtain ⟨i, hi, rfl⟩ := List.mem_map.1 h
 exact clM_is i (List.mem_range.1 hi)
theorem clL_run (n : Nat) (r : Rn) : Yu (Yh D1) (clL n) r = ⟨0, { r with T := fun i => if i < n then 0 else r.T i }, Flt.zero⟩ := by
 induction n with
 |zero => simp [clL, Yu]
 |succ n ih =>
  rw [Yji, Ydj _ _ _ _ (by rw [ih]), ih]
  have e : Yh D1 (clM n) { r with T := fun i => if i < n then 0 else r.T i } = ⟨0, ({ r with T := fun i => if i < n then 0 else r.T i } : Rn).setT n 0, Flt.zero⟩ := rfl
  unfold Yu
  rw [e]
  simp only [if_true, Yu]
  unfold Rn.setT
  congr 2
  funext i
  by_cases h : i = n
  ·subst h; simp
  ·by_cases h2 : i < n
   ·simp [h, h2, show i < n + 1 by omega]
   ·simp [h, h2, show ¬ i < n + 1 by omega]
theorem Yi0 (l k : List Mi) (s : St) (hk : ∀ x ∈ k, x.is = true ∧ x.Ok) (h0 : (Yu (Yh D1) l (rn0 s)).k = 0) :
  OEq (Yu (Yh D1) ((l ++ clL 64) ++ k) (rn0 s)) (Yu (Yh D1) k (rn0 (Yu (Yh D1) l (rn0 s)).r.s)) := by
 have h1 : Yu (Yh D1) (l ++ clL 64) (rn0 s) = ⟨0, { (Yu (Yh D1) l (rn0 s)).r with T := fun i => if i < 64 then 0 else (Yu (Yh D1) l (rn0 s)).r.T i }, Flt.zero⟩ := by
  rw [Ydj _ _ _ _ h0, clL_run]
 rw [Ydj _ _ _ _ (by rw [h1]), h1]
 refine run_eq k hk _ _ ⟨rfl, fun i hi => ?_⟩
 show (if i < 64 then (0 : Int) else _) = 0
 rw [if_pos hi]
theorem Ykv (l k : List Mi) (s : St) (h0 : (Yu (Yh D1) l (rn0 s)).k ≠ 0) : Yu (Yh D1) ((l ++ clL 64) ++ k) (rn0 s) = Yu (Yh D1) l (rn0 s) := by
 have h1 := Yfh (Yh D1) l (clL 64) (rn0 s) h0
 rw [Yfh (Yh D1) (l ++ clL 64) k (rn0 s) (by rw [h1]; exact h0), h1]
theorem Yhx {o o' : MO} (h : OEq o o') : Yb3 o = Yb3 o' ∧ Ycd o = Ycd o' := by unfold Yb3 Ycd; rw [h.k]; exact ⟨rfl, rfl⟩
theorem outS_eq {o o' : MO} (h : OEq o o') (hk : Yb3 o' = true) : Ybi o = Ybi o' := by
 unfold Yb3 at hk
 have h1 : o'.k ≠ 1 := by intro e; rw [e] at hk; cases hk
 unfold Ybi
 rw [if_neg (by rw [h.k]; exact h1), if_neg h1]
 exact h.r.s
theorem outF_eq {o o' : MO} (h : OEq o o') : (Ycg o).k = (Ycg o').k ∧ (Ycg o).a = (Ycg o').a := by
 unfold Ycg
 rw [h.k]
 split
 ·dsimp only; rw [h.F]; exact ⟨rfl, rfl⟩
 ·exact ⟨rfl, rfl⟩
end Go.Proofs.YtjkolegknpflfaaDoor
