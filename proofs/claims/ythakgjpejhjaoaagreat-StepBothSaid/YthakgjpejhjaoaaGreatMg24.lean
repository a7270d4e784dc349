/-
  Parts of the proof (their names shortened by a program). No condition.
-/
import Derived.Test.YthakgjpejhjaoaaGreatMg01
import Derived.Test.YthakgjpejhjaoaaGreatMg23
import Derived.Test.YthakgjpejhjaoaaGreatMg04
import Derived.Test.YthakgjpejhjaoaaGreatMg22
namespace Go.Proofs.YthakgjpejhjaoaaGreat
open Go Go.RowKit
set_option linter.unusedVariables false
set_option linter.unusedSimpArgs false
set_option maxRecDepth 100000
set_option maxHeartbeats 16000000
section
structure Kq (w : World) (a pb : Nat) (M : Mem) (L : List (Nat × Obj)) (w1 : World) : Prop where
 m : Yj w1 a pb M
 u : Upd [] w w1
 v : ∀ p ∈ L, w1.heap[p.1]? = some p.2
 s : L.Pairwise (fun p q => p.1 ≠ q.1)
 t : ∀ p ∈ L, p.1 ≠ pb ∧ p.1 ≠ a
 l : w.heap.size ≤ pb
 w : ∀ p ∈ L, w.heap.size ≤ p.1
section
variable {w w0 w1 w2 : World} {a pb b : Nat} {M M2 : Mem} {L : List (Nat × Obj)} {T s' : St} {o o' : Obj}
theorem Kq.of (h : Kn w a pb M L w1) : Kq w a pb M L w1 := ⟨h.m, h.u, h.v, h.s.imp (fun h => Nat.ne_of_gt h), fun p hp => (h.t p hp).2, h.l, h.w⟩
theorem Kq.step (h : Kq w a pb M L w1) (hm : Yj w2 a pb M2) (u : Upd [pb] w1 w2) : Kq w a pb M2 L w2 :=
 ⟨hm, h.u.also u (by have := h.l; simp <;> omega), fun p hp => u.get (h.v p hp) (by have := (h.t p hp).1; simpa using this), h.s, h.t, h.l, h.w⟩
theorem Kq.quiet (h : Kq w a pb M L w1) (u : Upd [] w1 w2) : Kq w a pb M L w2 :=
 ⟨h.m.keep u (by simp) (by simp), h.u.also u (by simp), fun p hp => u.get (h.v p hp) (by simp), h.s, h.t, h.l, h.w⟩
theorem Kq.get (h : Kq w a pb M L w1) (n : Nat) (hn : L[n]? = some (b, o)) : w1.heap[b]? = some o := h.v (b, o) (List.mem_of_getElem? hn)
theorem Kq.lts (h : Kq w a pb M L w1) : (∀ p ∈ L, p.1 < w1.heap.size) ∧ a < w1.heap.size ∧ pb < w1.heap.size :=
 ⟨fun p hp => Yk (h.v p hp), by obtain ⟨C, _, hc⟩ := h.m.hd; exact Yk hc, by obtain ⟨C, _, hc⟩ := h.m.pg; exact Yk hc⟩
theorem Kq.put (h : Kq w a pb M L w1) (n : Nat) (hn : L[n]? = some (b, o)) (u : Upd [b] w1 w2) (ho : w2.heap[b]? = some o') : Kq w a pb M (L.set n (b, o')) w2 := by
 have hb := h.t (b, o) (List.mem_of_getElem? hn)
 have hw := h.w (b, o) (List.mem_of_getElem? hn)
 obtain ⟨hl, he⟩ := List.getElem?_eq_some_iff.1 hn
 have hs := List.pairwise_iff_getElem.1 h.s
 have hc : ∀ p, p ∈ L.set n (b, o') → p = (b, o') ∨ (p ∈ L ∧ p.1 ≠ b) := by
  intro p hp
  obtain ⟨j, hj⟩ := List.mem_iff_getElem?.1 hp
  rw [List.getElem?_set] at hj
  by_cases e : n = j
  ·subst e
   simp only [if_true, hl] at hj
   exact .inl (Option.some.inj hj).symm
  ·simp only [e, if_false] at hj
   obtain ⟨hl2, he2⟩ := List.getElem?_eq_some_iff.1 hj
   refine .inr ⟨List.mem_of_getElem? hj, fun hh => ?_⟩
   rcases Nat.lt_or_gt_of_ne e with h1 | h1
   ·have := hs n j hl hl2 h1; rw [he, he2] at this; exact this hh.symm
   ·have := hs j n hl2 hl h1; rw [he, he2] at this; exact this hh
 refine ⟨h.m.keep u (by simpa using fun e => hb.2 e.symm) (by simpa using fun e => hb.1 e.symm), h.u.also u (fun x hx => .inr (by rw [List.mem_singleton.1 hx]; exact hw)), fun p hp => ?_, ?_, fun p hp => ?_, h.l, fun p hp => ?_⟩
 ·rcases hc p hp with rfl | ⟨h1, h2⟩
  ·exact ho
  ·exact u.get (h.v p h1) (by simpa using h2)
 ·refine List.pairwise_iff_getElem.2 fun i j hi hj hij => ?_
  rw [List.length_set] at hi hj
  have h1 : ∀ q (hq : q < L.length) (hq2 : q < (L.set n (b, o')).length), ((L.set n (b, o'))[q]).1 = (L[q]).1 := by
   intro q hq hq2
   rw [List.getElem_set]
   split
   ·rename_i e; subst e; rw [he]
   ·rfl
  rw [h1 i hi (by rw [List.length_set]; exact hi), h1 j hj (by rw [List.length_set]; exact hj)]
  exact hs i j hi hj hij
 ·rcases hc p hp with rfl | ⟨h1, h2⟩
  ·exact hb
  ·exact h.t p h1
 ·rcases hc p hp with rfl | ⟨h1, h2⟩
  ·exact hw
  ·exact h.w p h1
theorem Kq.add (h : Kq w a pb M L w1) (hb : w.heap.size ≤ b) (hn : (∀ p ∈ L, p.1 ≠ b) ∧ b ≠ pb ∧ b ≠ a) (ho : w1.heap[b]? = some o) : Kq w a pb M ((b, o) :: L) w1 := by
 refine ⟨h.m, h.u, fun p hp => ?_, List.pairwise_cons.2 ⟨fun q hq e => hn.1 q hq e.symm, h.s⟩, fun p hp => ?_, h.l, fun p hp => ?_⟩
 ·rcases List.mem_cons.1 hp with rfl | hp
  ·exact ho
  ·exact h.v p hp
 ·rcases List.mem_cons.1 hp with rfl | hp
  ·exact ⟨hn.2.1, hn.2.2⟩
  ·exact h.t p hp
 ·rcases List.mem_cons.1 hp with rfl | hp
  ·exact hb
  ·exact h.w p hp
end
section
variable {w w1 w2 : World} {a pb g : Nat} {M : Mem} {L : List (Nat × Obj)} {T : St} {F : Flt}
theorem Kq.upd (h : Kq w a pb M L w1) (u : Upd [g] w1 w2) (hg : w.heap.size ≤ g) (hn : (∀ p ∈ L, p.1 ≠ g) ∧ g ≠ pb ∧ g ≠ a) : Kq w a pb M L w2 :=
 ⟨h.m.keep u (by simpa using fun e => hn.2.2 e.symm) (by simpa using fun e => hn.2.1 e.symm), h.u.also u (fun x hx => .inr (by rw [List.mem_singleton.1 hx]; exact hg)), fun p hp => u.get (h.v p hp) (by simpa using hn.1 p hp), h.s, h.t, h.l, h.w⟩
theorem Kq.two (h : Kq w a pb M L w1) (h2 : w2.heap[w1.heap.size]? = some (.cells T.cells 28 (0, 0)) ∧ w2.heap[w1.heap.size + 1]? = some (.cells #[.int .i64 0, .int .u32 0, .int .u32 0, .int .i64 0] 35 (0, 0)) ∧ Upd [] w1 w2) :
  Kq w a pb M ((w1.heap.size + 1, .cells (Ys F) 35 (0, 0)) :: (w1.heap.size, .cells T.cells 28 (0, 0)) :: L) ((((w2.setCell ⟨w1.heap.size + 1, 0, none⟩ (.int .i64 F.k)).setCell ⟨w1.heap.size + 1, 1, none⟩ (.int .u32 F.pc)).setCell ⟨w1.heap.size + 1, 2, none⟩ (.int .u32 F.a)).setCell ⟨w1.heap.size + 1, 3, none⟩ (.int .i64 F.wt)) := by
 have hl := h.lts
 have hu := h.u.size
 have u4 := Yax (S := [w1.heap.size + 1]) (b := w1.heap.size + 1) (Upd.refl _ w2) (.inl (by simp)) (.int .i64 F.k) (.int .u32 F.pc) (.int .u32 F.a) (.int .i64 F.wt)
 have hf := Yc1 h2.2.1 (.int .i64 F.k) (.int .u32 F.pc) (.int .u32 F.a) (.int .i64 F.wt)
 have h3 := (h.quiet h2.2.2).add (b := w1.heap.size) hu ⟨fun p hp => by have := hl.1 p hp; omega, by omega, by omega⟩ h2.1
 have hn : ∀ p ∈ ((w1.heap.size, Obj.cells T.cells 28 (0, 0)) :: L), p.1 ≠ w1.heap.size + 1 := by
  intro p hp
  rcases List.mem_cons.1 hp with rfl | hp
  ·dsimp only; omega
  ·have := hl.1 p hp; omega
 exact (h3.upd u4 (by omega) ⟨hn, by omega, by omega⟩).add (by omega) ⟨hn, by omega, by omega⟩ hf
end
structure Kd (w : World) (a pb : Nat) (M M2 : Mem) (L : List (Nat × Obj)) (n0 : Nat) (S : St) (F : Flt) (c e f p q : Nat) (dn : Nat → Bool) (r : Nat → Value) (w1 : World) : Prop where
 k : Kq w a pb (cond (dn c) M2 M) L w1
 b : n0 ≤ w1.heap.size
 ln : (∀ p ∈ L, p.1 < n0) ∧ a < n0 ∧ pb < n0 ∧ w.heap.size ≤ n0
 x : dn e = true → ∃ g, r e = .pointer (some ⟨g, 0, none⟩) ∧ n0 ≤ g ∧ w1.heap[g]? = some (.cells (cond (dn p) S.cells St.zero.cells) 28 (0, 0))
 y : dn f = true → ∃ g, r f = .pointer (some ⟨g, 0, none⟩) ∧ n0 ≤ g ∧ w1.heap[g]? = some (.cells (cond (dn q) (Ys F) (Ys Flt.zero)) 35 (0, 0))
 xo : dn p = true → dn e = true
 yo : dn q = true → dn f = true
theorem Yex : (28 : TypeId) ≠ 35 := by decide
theorem wr_st (c : Array Value) (S : St) (hc : c.size = 17) : wr c 0 S.cells.toList = S.cells := Yld c S hc
section
variable {w w1 w2 : World} {a pb n0 : Nat} {M M2 : Mem} {L : List (Nat × Obj)} {S : St} {F : Flt} {c e f p q : Nat} {dn : Nat → Bool} {r : Nat → Value}
theorem Kd.start (h : Kq w a pb M L w1) (M2 : Mem) (S : St) (F : Flt) (c e f p q : Nat) (r : Nat → Value) : Kd w a pb M M2 L w1.heap.size S F c e f p q (fun _ => false) r w1.drew :=
 ⟨h.quiet (Upd.refl [] w1).drew, ((Upd.refl [] w1).drew).size, ⟨h.lts.1, h.lts.2.1, h.lts.2.2, h.u.size⟩, fun h => (by cases h), fun h => (by cases h), fun h => (by cases h), fun h => (by cases h)⟩
theorem Kd.quiet (h : Kd w a pb M M2 L n0 S F c e f p q dn r w1) (u : Upd [] w1 w2) (j : Nat) (h1 : c ≠ j) (h2 : e ≠ j) (h3 : f ≠ j) (h4 : p ≠ j) (h5 : q ≠ j) : Kd w a pb M M2 L n0 S F c e f p q (Yai dn j) r w2 := by
 refine ⟨by rw [Yp h1]; exact h.k.quiet u, Nat.le_trans h.b u.size, h.ln, fun hx => ?_, fun hx => ?_, fun hx => ?_, fun hx => ?_⟩
 ·rw [Yp h2] at hx; rw [Yp h4]; obtain ⟨g, e1, e2, e3⟩ := h.x hx; exact ⟨g, e1, e2, u.get e3 (by simp)⟩
 ·rw [Yp h3] at hx; rw [Yp h5]; obtain ⟨g, e1, e2, e3⟩ := h.y hx; exact ⟨g, e1, e2, u.get e3 (by simp)⟩
 ·rw [Yp h4] at hx; rw [Yp h2]; exact h.xo hx
 ·rw [Yp h5] at hx; rw [Yp h3]; exact h.yo hx
theorem Kd.same (h : Kd w a pb M M2 L n0 S F c e f p q dn r w1) (j : Nat) (h1 : c ≠ j) (h2 : e ≠ j) (h3 : f ≠ j) (h4 : p ≠ j) (h5 : q ≠ j) : Kd w a pb M M2 L n0 S F c e f p q (Yai dn j) r w1 := h.quiet (Upd.refl [] w1) j h1 h2 h3 h4 h5
theorem Kd.call (h : Kd w a pb M M2 L n0 S F c e f p q dn r w1) (hm : Yj w2 a pb M2) (u : Upd [pb] w1 w2) (h2 : e ≠ c) (h3 : f ≠ c) (h4 : p ≠ c) (h5 : q ≠ c) : Kd w a pb M M2 L n0 S F c e f p q (Yai dn c) r w2 := by
 have hl := h.ln
 refine ⟨by rw [Yda]; exact h.k.step hm u, Nat.le_trans h.b u.size, h.ln, fun hx => ?_, fun hx => ?_, fun hx => ?_, fun hx => ?_⟩
 ·rw [Yp h2] at hx; rw [Yp h4]; obtain ⟨g, e1, e2, e3⟩ := h.x hx; exact ⟨g, e1, e2, u.get e3 (by simp; omega)⟩
 ·rw [Yp h3] at hx; rw [Yp h5]; obtain ⟨g, e1, e2, e3⟩ := h.y hx; exact ⟨g, e1, e2, u.get e3 (by simp; omega)⟩
 ·rw [Yp h4] at hx; rw [Yp h2]; exact h.xo hx
 ·rw [Yp h5] at hx; rw [Yp h3]; exact h.yo hx
theorem Kd.layS (h : Kd w a pb M M2 L n0 S F c e f p q dn r w1) (hd : dn e = false) (h1 : c ≠ e) (h3 : f ≠ e) (h4 : p ≠ e) (h5 : q ≠ e) : Kd w a pb M M2 L n0 S F c e f p q (Yai dn e) (Ycw r e (.pointer (some ⟨w1.heap.size, 0, none⟩))) (w1.alloc (.cells St.zero.cells 28)) := by
 have hp : dn p = false := by
  cases hh : dn p with
  |false => rfl
  |true => rw [h.xo hh] at hd; cases hd
 have u := (Upd.refl [] w1).alloc (.cells St.zero.cells 28)
 refine ⟨by rw [Yp h1]; exact h.k.quiet u, Nat.le_trans h.b u.size, h.ln, fun _ => ⟨_, Yfm, h.b, ?_⟩, fun hx => ?_, fun _ => Yda, fun hx => ?_⟩
 ·rw [Yp h4, hp]; exact heap_alloc_new _ _
 ·rw [Yp h3] at hx; rw [Yp h5]; obtain ⟨g, e1, e2, e3⟩ := h.y hx; exact ⟨g, by rw [vq_ne h3]; exact e1, e2, u.get e3 (by simp)⟩
 ·rw [Yp h5] at hx; rw [Yp h3]; exact h.yo hx
theorem Kd.layF (h : Kd w a pb M M2 L n0 S F c e f p q dn r w1) (hd : dn f = false) (h1 : c ≠ f) (h3 : e ≠ f) (h4 : p ≠ f) (h5 : q ≠ f) : Kd w a pb M M2 L n0 S F c e f p q (Yai dn f) (Ycw r f (.pointer (some ⟨w1.heap.size, 0, none⟩))) (w1.alloc (.cells (Ys Flt.zero) 35)) := by
 have hq : dn q = false := by
  cases hh : dn q with
  |false => rfl
  |true => rw [h.yo hh] at hd; cases hd
 have u := (Upd.refl [] w1).alloc (.cells (Ys Flt.zero) 35)
 refine ⟨by rw [Yp h1]; exact h.k.quiet u, Nat.le_trans h.b u.size, h.ln, fun hx => ?_, fun _ => ⟨_, Yfm, h.b, ?_⟩, fun hx => ?_, fun _ => Yda⟩
 ·rw [Yp h3] at hx; rw [Yp h4]; obtain ⟨g, e1, e2, e3⟩ := h.x hx; exact ⟨g, by rw [vq_ne h3]; exact e1, e2, u.get e3 (by simp)⟩
 ·rw [Yp h5, hq]; exact heap_alloc_new _ _
 ·rw [Yp h4] at hx; rw [Yp h3]; exact h.xo hx
theorem Kd.keepL (h : Kd w a pb M M2 L n0 S F c e f p q dn r w1) {g : Nat} (hg : n0 ≤ g) (u : Upd [g] w1 w2) (m : Mem) (hm : Yj w1 a pb m) : Kq w a pb m L w2 := by
 have hl := h.ln
 exact ⟨hm.keep u (by simp; omega) (by simp; omega), h.k.u.also u (fun x hx => .inr (by rw [List.mem_singleton.1 hx]; omega)), fun p hp => u.get (h.k.v p hp) (by have := hl.1 p hp; simp; omega), h.k.s, h.k.t, h.k.l, h.k.w⟩
theorem Kd.putS (h : Kd w a pb M M2 L n0 S F c e f p q dn r w1) (hd : dn e = true) {g : Nat} (e1 : r e = .pointer (some ⟨g, 0, none⟩)) (h1 : c ≠ p) (h2 : e ≠ p) (h3 : f ≠ p) (h5 : q ≠ p) : Kd w a pb M M2 L n0 S F c e f p q (Yai dn p) r (w1.setCells g 0 S.cells.toList) := by
 obtain ⟨g', e1', e2, e3⟩ := h.x hd
 obtain rfl : g' = g := by rw [e1] at e1'; injection e1' with e; injection e with e; injection e with e; exact e.symm
 have u := (Upd.refl [g'] w1).setCells (q := g') (.inl (by simp)) S.cells.toList 0
 refine ⟨by rw [Yp h1]; exact h.keepL e2 u _ h.k.m, Nat.le_trans h.b u.size, h.ln, fun _ => ⟨g', e1, e2, ?_⟩, fun hx => ?_, fun _ => by rw [Yp h2]; exact hd, fun hx => ?_⟩
 ·rw [Yda]
  show _ = some (Obj.cells S.cells 28 (0, 0))
  rw [Yaf _ _ _ _ e3, wr_st _ S (by cases dn p <;> rfl)]
 ·rw [Yp h3] at hx; rw [Yp h5]
  obtain ⟨k, k1, k2, k3⟩ := h.y hx
  refine ⟨k, k1, k2, u.get k3 ?_⟩
  simp only [List.mem_singleton]
  rintro rfl
  rw [e3] at k3
  injection k3 with k3; injection k3 with _ k3 _; exact Yex k3
 ·rw [Yp h5] at hx; rw [Yp h3]; exact h.yo hx
theorem Kd.putF (h : Kd w a pb M M2 L n0 S F c e f p q dn r w1) (hd : dn f = true) {g : Nat} (e1 : r f = .pointer (some ⟨g, 0, none⟩)) (h1 : c ≠ q) (h2 : e ≠ q) (h3 : f ≠ q) (h5 : p ≠ q) : Kd w a pb M M2 L n0 S F c e f p q (Yai dn q) r (w1.setCells g 0 (Ys F).toList) := by
 obtain ⟨g', e1', e2, e3⟩ := h.y hd
 obtain rfl : g' = g := by rw [e1] at e1'; injection e1' with e; injection e with e; injection e with e; exact e.symm
 have u := (Upd.refl [g'] w1).setCells (q := g') (.inl (by simp)) (Ys F).toList 0
 refine ⟨by rw [Yp h1]; exact h.keepL e2 u _ h.k.m, Nat.le_trans h.b u.size, h.ln, fun hx => ?_, fun _ => ⟨g', e1, e2, ?_⟩, fun hx => ?_, fun _ => by rw [Yp h3]; exact hd⟩
 ·rw [Yp h2] at hx; rw [Yp h5]
  obtain ⟨k, k1, k2, k3⟩ := h.x hx
  refine ⟨k, k1, k2, u.get k3 ?_⟩
  simp only [List.mem_singleton]
  rintro rfl
  rw [e3] at k3
  injection k3 with k3; injection k3 with _ k3 _; exact Yex k3.symm
 ·rw [Yda]
  show _ = some (Obj.cells (Ys F) 35 (0, 0))
  rw [Yaf _ _ _ _ e3]
  cases dn q <;> rfl
 ·rw [Yp h5] at hx; rw [Yp h2]; exact h.xo hx
theorem Kd.fin (h : Kd w a pb M M2 L n0 S F c e f p q dn r w1) (hc : dn c = true) (he : dn e = true) (hf : dn f = true) (hp : dn p = true) (hq : dn q = true) :
  ∃ g1 g2, r e = .pointer (some ⟨g1, 0, none⟩) ∧ r f = .pointer (some ⟨g2, 0, none⟩) ∧ Kq w a pb M2 ((g2, .cells (Ys F) 35 (0, 0)) :: (g1, .cells S.cells 28 (0, 0)) :: L) w1 := by
 obtain ⟨g1, a1, a2, a3⟩ := h.x he
 obtain ⟨g2, b1, b2, b3⟩ := h.y hf
 have hl := h.ln
 rw [hp] at a3
 rw [hq] at b3
 have hk := h.k
 rw [hc] at hk
 have h1 := hk.add (b := g1) (by omega) ⟨fun p hp => by have := hl.1 p hp; omega, by omega, by omega⟩ a3
 refine ⟨g1, g2, a1, b1, h1.add (b := g2) (by omega) ⟨fun p hp => ?_, by omega, by omega⟩ b3⟩
 rcases List.mem_cons.1 hp with rfl | hp
 ·dsimp only
  rintro rfl
  rw [a3] at b3
  injection b3 with b3; injection b3 with _ b3 _; exact Yex b3
 ·have := hl.1 p hp; omega
end
end
def St.eqB (s t : St) : Bool := (((List.range 8).all fun i => s.R i == t.R i) && ((s.pc == t.pc) && ((((s.cf == t.cf) && ((s.pf == t.pf) && ((s.af == t.af) && ((s.zf == t.zf) && ((s.sf == t.sf) && ((s.of_ == t.of_) && true))))))) && ((s.df == t.df) && ((s.f == t.f) && true)))))
theorem St.eqB_self (s : St) : s.eqB s = true := by simp [St.eqB]
theorem St.eqB_iff (s t : St) : s.eqB t = true ↔ (∀ i, i < 8 → s.R i = t.R i) ∧ s.pc = t.pc ∧ s.cf = t.cf ∧ s.pf = t.pf ∧ s.af = t.af ∧ s.zf = t.zf ∧ s.sf = t.sf ∧ s.of_ = t.of_ ∧ s.df = t.df ∧ s.f = t.f := by
 simp only [St.eqB, Bool.and_eq_true, List.all_eq_true, List.mem_range, beq_iff_eq, and_true]
 constructor
 ·rintro ⟨h1, h2, ⟨h3, h4, h5, h6, h7, h8⟩, h9, h10⟩; exact ⟨h1, h2, h3, h4, h5, h6, h7, h8, h9, h10⟩
 ·rintro ⟨h1, h2, h3, h4, h5, h6, h7, h8, h9, h10⟩; exact ⟨h1, h2, ⟨h3, h4, h5, h6, h7, h8⟩, h9, h10⟩
def Yh2 (s : St) : Array Value := #[.bool s.cf, .bool s.pf, .bool s.af, .bool s.zf, .bool s.sf, .bool s.of_]
theorem Yh4 (s t : St) (w : World) (d : Nat) : (Op.equalIn (d + 1 + 1) 25 (.agg (Yh2 s)) (.agg (Yh2 t))).run Tryz.prog w = .ok ((s.cf == t.cf) && ((s.pf == t.pf) && ((s.af == t.af) && ((s.zf == t.zf) && ((s.sf == t.sf) && ((s.of_ == t.of_) && true)))))) w := by
 have hf : Tryz.prog.fieldsOf 25 = #[{ name := "CF", type := 4, offset := 0, embedded := false, tag := "", pkgPath := "", byteOffset := 0 }, { name := "PF", type := 4, offset := 1, embedded := false, tag := "", pkgPath := "", byteOffset := 1 },
  { name := "AF", type := 4, offset := 2, embedded := false, tag := "", pkgPath := "", byteOffset := 2 }, { name := "ZF", type := 4, offset := 3, embedded := false, tag := "", pkgPath := "", byteOffset := 3 },
  { name := "SF", type := 4, offset := 4, embedded := false, tag := "", pkgPath := "", byteOffset := 4 }, { name := "OF", type := 4, offset := 5, embedded := false, tag := "", pkgPath := "", byteOffset := 5 }] := by kernel_rfl
 have hu : Tryz.prog.underlying 25 = some (.struct (Tryz.prog.fieldsOf 25)) := by kernel_rfl
 have hp : Tryz.prog.plainKey 4 = true := by kernel_rfl
 have hb := fun (a b : Bool) => run_equalIn_bool (P := Tryz.prog) w d 4 a b Tryz.underlying4
 rw [run_equalIn_struct w _ 25 _ _ hu (Tryz.stoodInHeld25), hf]
 exact Ybx (by decide) (run_part_plain w hp rfl) (run_part_plain w hp rfl) (hb _ _) (Ybx (by decide) (run_part_plain w hp rfl) (run_part_plain w hp rfl) (hb _ _) (Ybx (by decide) (run_part_plain w hp rfl) (run_part_plain w hp rfl) (hb _ _) (Ybx (by decide) (run_part_plain w hp rfl) (run_part_plain w hp rfl) (hb _ _) (Ybx (by decide) (run_part_plain w hp rfl) (run_part_plain w hp rfl) (hb _ _) (Ybx (by decide) (run_part_plain w hp rfl) (run_part_plain w hp rfl) (hb _ _) Yhn)))))
theorem Yfj (s t : St) (w : World) (d : Nat) : (Op.equalIn (d + 1 + 1 + 1) 28 (.agg s.cells) (.agg t.cells)).run Tryz.prog w = .ok (s.eqB t) w := by
 have hf : Tryz.prog.fieldsOf 28 = #[{ name := "R", type := 23, offset := 0, embedded := false, tag := "", pkgPath := "", byteOffset := 0 }, { name := "PC", type := 22, offset := 8, embedded := false, tag := "", pkgPath := "", byteOffset := 32 },
  { name := "Fl", type := 25, offset := 9, embedded := false, tag := "", pkgPath := "", byteOffset := 36 }, { name := "DF", type := 4, offset := 15, embedded := false, tag := "", pkgPath := "", byteOffset := 42 }, { name := "F", type := 26, offset := 16, embedded := false, tag := "", pkgPath := "", byteOffset := 48 }] := by kernel_rfl
 have hu : Tryz.prog.underlying 28 = some (.struct (Tryz.prog.fieldsOf 28)) := by kernel_rfl
 have hpB : Tryz.prog.plainKey 4 = true := by kernel_rfl
 have hp32 : Tryz.prog.plainKey 22 = true := by kernel_rfl
 have hp64 : Tryz.prog.plainKey 26 = true := by kernel_rfl
 have hc : Tryz.prog.cellsOf 22 = 1 := by kernel_rfl
 have hpR := fun xs : Array Value => Yis (P := Tryz.prog) (xs := xs) (t := 23) (i := Tryz.t23) (n := 8) (off := 0) w (Tryz.isAgg23 w) (by kernel_rfl) (by kernel_rfl)
 have hpF := fun xs : Array Value => Yis (P := Tryz.prog) (xs := xs) (t := 25) (i := Tryz.t25) (n := 6) (off := 9) w (Tryz.isAgg25 w) (by kernel_rfl) (by kernel_rfl)
 have eF : ∀ s : St, s.cells.extract 9 (9 + 6) = Yh2 s := fun s => by simp [St.cells, Yh2]
 have hR : (Op.equalIn (d + 1 + 1) 23 (.agg (s.cells.extract 0 (0 + 8))) (.agg (t.cells.extract 0 (0 + 8)))).run Tryz.prog w = .ok ((List.range 8).all fun i => s.R i == t.R i) w := by
  rw [run_equalIn_array w (d + 1) (i := Tryz.t22) _ _ Tryz.underlying23 (by kernel_rfl), hc]
  have e : ∀ (s : St) i, i < 8 → (s.cells.extract 0 (0 + 8))[i]? = some (.int .u32 (s.R i)) := fun s i hi => by
   rw [Array.getElem?_extract, if_pos (by rw [St.size]; omega), Nat.zero_add, St.cR s i hi]
  exact Ygl w d Tryz.underlying22 _ _ _ _ _ (fun i hi => ⟨e s i (List.mem_range.1 hi), e t i (List.mem_range.1 hi)⟩)
 have hF := Yh4 s t w d
 rw [← eF s, ← eF t] at hF
 rw [run_equalIn_struct w _ 28 _ _ hu (Tryz.stoodInHeld28), hf]
 exact Ybx (by decide) (hpR _) (hpR _) hR (Ybx (by decide) (run_part_plain w hp32 rfl) (run_part_plain w hp32 rfl) (run_equalIn_int w _ 22 .u32 .u32 _ _ Tryz.underlying22)
  (Ybx (by decide) (hpF _) (hpF _) hF (Ybx (by decide) (run_part_plain w hpB rfl) (run_part_plain w hpB rfl) (run_equalIn_bool w _ 4 _ _ Tryz.underlying4)
  (Ybx (by decide) (run_part_plain w hp64 rfl) (run_part_plain w hp64 rfl) (run_equalIn_int w _ 26 .u64 .u64 _ _ Tryz.underlying26) Yhn))))
theorem Ykb (s t : St) (w : World) : (binOp .eql 28 (.agg s.cells) (.agg t.cells)).run Tryz.prog w = .ok (.bool (s.eqB t)) w := by
 have h := Yfj s t w 9997
 rw [run_eql_struct]
 rw [show (10000 : Nat) = 9997 + 1 + 1 + 1 from rfl, h, Result.andThen_ok]
section
theorem Ydz (v : Int) (w : World) : Calls Tryz.prog 18 #[.int .u32 v] w fun e w' => e = .returned (.agg #[.int .i64 2, .int .i64 0, .int .u32 v, .int .i64 0, .int .i64 0, .int .u32 0]) ∧ Upd [] w w' := by
 go_enter Tryz.func18, Tryz.ntmps18
 go_wp2_with fail
 exact bodyPost_ret (Yf rfl (Ybd 2 39 w.heap.size _ _ rfl (heap_alloc_new w _) Tryz.underlying39 rfl (by kernel_rfl))) rfl ⟨rfl, (Upd.refl [] w).alloc _⟩
theorem Yjm (d : Int) (h : 0 ≤ d ∧ d < 4294967296) : (⟨2, 0, d, 0, 0, 0⟩ : Opd).Ok := ⟨h, ⟨show (0 : Int) ≤ 0 by decide, show (0 : Int) < 4294967296 by decide⟩⟩
theorem noneO : Opd.none.Ok := ⟨⟨by decide, by decide⟩, ⟨by decide, by decide⟩⟩
section
variable {w : World} {a pb : Nat} {M : Mem} {T : St} {c d : Int}
end
theorem Yga (S : St) (w : World) : (binOp .eql 28 (.agg S.cells) (.agg S.cells)).run Tryz.prog w = .ok (.bool true) w := by
 have := Ykb S S w
 rw [St.eqB_self] at this
 exact this
theorem Ygj (T : St) (w : World) : (binOp .eql 23 (.agg #[.int .u32 (T.R 0), .int .u32 (T.R 1), .int .u32 (T.R 2), .int .u32 (T.R 3), .int .u32 (T.R 4), .int .u32 (T.R 5), .int .u32 (T.R 6), .int .u32 (T.R 7)]) (.agg #[.int .u32 (T.R 0), .int .u32 (T.R 1), .int .u32 (T.R 2), .int .u32 (T.R 3), .int .u32 (T.R 4), .int .u32 (T.R 5), .int .u32 (T.R 6), .int .u32 (T.R 7)])).run Tryz.prog w = .ok (.bool true) w := by
 have hc : Tryz.prog.cellsOf 22 = 1 := by kernel_rfl
 have h : (Op.equalIn (9998 + 1 + 1) 23 (.agg #[.int .u32 (T.R 0), .int .u32 (T.R 1), .int .u32 (T.R 2), .int .u32 (T.R 3), .int .u32 (T.R 4), .int .u32 (T.R 5), .int .u32 (T.R 6), .int .u32 (T.R 7)]) (.agg #[.int .u32 (T.R 0), .int .u32 (T.R 1), .int .u32 (T.R 2), .int .u32 (T.R 3), .int .u32 (T.R 4), .int .u32 (T.R 5), .int .u32 (T.R 6), .int .u32 (T.R 7)])).run Tryz.prog w = .ok true w := by
  rw [run_equalIn_array w (9998 + 1) (i := Tryz.t22) _ _ Tryz.underlying23 (by kernel_rfl), hc]
  refine Eq.trans (Ygl w 9998 Tryz.underlying22 _ _ T.R T.R _ (fun i hi => ?_)) (by simp)
  match i, List.mem_range.1 hi with
  |0, _ => exact ⟨rfl, rfl⟩
  |1, _ => exact ⟨rfl, rfl⟩
  |2, _ => exact ⟨rfl, rfl⟩
  |3, _ => exact ⟨rfl, rfl⟩
  |4, _ => exact ⟨rfl, rfl⟩
  |5, _ => exact ⟨rfl, rfl⟩
  |6, _ => exact ⟨rfl, rfl⟩
  |7, _ => exact ⟨rfl, rfl⟩
 rw [run_eql_struct]
 rw [show (10000 : Nat) = 9998 + 1 + 1 from rfl, h, Result.andThen_ok]
end
section
theorem Ydt (v : Int) (w : World) : Calls Tryz.prog 17 #[.int .u32 v] w fun e w' => e = .returned (.agg #[.int .i64 3, .int .i64 0, .int .u32 v, .int .i64 (-1), .int .i64 (-1), .int .u32 1]) ∧ Upd [] w w' := by
 go_enter Tryz.func17, Tryz.ntmps17
 go_wp2_with fail
 exact bodyPost_ret (Yf rfl (Ybd 2 39 w.heap.size _ _ rfl (heap_alloc_new w _) Tryz.underlying39 rfl (by kernel_rfl))) rfl ⟨rfl, (Upd.refl [] w).alloc _⟩
def memO (v : Int) : Opd := ⟨3, 0, v, -1, -1, 1⟩
theorem Yjj (v : Int) (h : 0 ≤ v ∧ v < 4294967296) : (memO v).Ok := ⟨h, ⟨show (0 : Int) ≤ 1 by decide, show (1 : Int) < 4294967296 by decide⟩⟩
theorem Yi1 (s : St) (v : Int) (h : 0 ≤ v ∧ v < 4294967296) : s.place (memO v) = v := by
 simp [St.place, memO, St.reg]; omega
section
variable {w : World} {p pb : Nat} {M : Mem} {s : St} {v z y : Int} {k j : Nat}
end
end
section
def Ybk (g : Int) : Mem := Mem.zero.mapM 0 1 g
theorem Yja (g : Int) (h : 1 ≤ g ∧ g < 8) : Mem.zero.mapB 0 1 g = true := by
 have hg : g = 1 ∨ g = 2 ∨ g = 3 ∨ g = 4 ∨ g = 5 ∨ g = 6 ∨ g = 7 := by omega
 rcases hg with rfl | rfl | rfl | rfl | rfl | rfl | rfl <;> decide +kernel
theorem bo_R (g : Int) (h : 1 ≤ g ∧ g < 8) : (Ybk g).R 0 = g := by
 have hg : g = 1 ∨ g = 2 ∨ g = 3 ∨ g = 4 ∨ g = 5 ∨ g = 6 ∨ g = 7 := by omega
 rcases hg with rfl | rfl | rfl | rfl | rfl | rfl | rfl <;> decide +kernel
theorem bo_yes (g : Int) (h : 1 ≤ g ∧ g < 8) (hb : g % 4 = 3) : (Ybk g).canK 8 4 3 = true := by
 have hg : g = 1 ∨ g = 2 ∨ g = 3 ∨ g = 4 ∨ g = 5 ∨ g = 6 ∨ g = 7 := by omega
 rcases hg with rfl | rfl | rfl | rfl | rfl | rfl | rfl <;> first | omega | decide +kernel
def boW (g : Int) : Int := if g % 2 = 1 then 2 else 1
theorem bo_no (g : Int) (h : 1 ≤ g ∧ g < 8) (hb : g % 4 ≠ 3) : (Ybk g).canK 8 4 3 = false ∧ (Ybk g).canF 8 4 3 = ⟨1, 0, 8, boW g⟩ := by
 have hg : g = 1 ∨ g = 2 ∨ g = 3 ∨ g = 4 ∨ g = 5 ∨ g = 6 ∨ g = 7 := by omega
 rcases hg with rfl | rfl | rfl | rfl | rfl | rfl | rfl <;> first | omega | decide +kernel
theorem bo_read {M : Mem} {g : Int} (hR : M.R 0 = g) (h : 1 ≤ g ∧ g < 8) (hb : g % 2 = 1) : M.readK 8 4 1 = true := by
 have en : (Ybh 4).toNat = 4 := by decide
 have h1 : M.bad ((8 : Nat) : Int) (Ybm 1) (Ybh 4).toNat = none := Yki M 8 _ _ (by rw [en]; omega) fun t ht => by
  rw [en] at ht; rw [show (8 + t) / 256 = 0 by omega, hR]
  have hg : g = 1 ∨ g = 3 ∨ g = 5 ∨ g = 7 := by omega
  rcases hg with rfl | rfl | rfl | rfl <;> decide
 exact (Mem.read_none h1).2.2
theorem Ypp (g : Int) (h : 1 ≤ g ∧ g < 8) (hb : g % 2 ≠ 1) : (Ybk g).readK 8 4 1 = false ∧ (Ybk g).rdF 8 4 1 = ⟨1, 0, 8, 1⟩ := by
 have hg : g = 1 ∨ g = 2 ∨ g = 3 ∨ g = 4 ∨ g = 5 ∨ g = 6 ∨ g = 7 := by omega
 rcases hg with rfl | rfl | rfl | rfl | rfl | rfl | rfl <;> first | omega | decide +kernel
def boOp (o : Int) (B : Opd) (v : Int) : Prop := ((o = 3 ∨ o = 5 ∨ o = 8 ∨ o = 9 ∨ o = 23) ∧ B = ⟨2, 0, v, 0, 0, 0⟩) ∨ ((o = 12 ∨ o = 14 ∨ o = 15) ∧ B = Opd.none)
def boI (o : Int) (B : Opd) : Ins := ⟨o, 0, ⟨3, 0, 8, -1, -1, 1⟩, B, false, 7⟩
def boO (M : Mem) (s : St) (i : Ins) : Out := if i.op ≤ 9 then aluO M s i else if i.op ≤ 15 then incO M s i else shfO M s i
theorem bo_all (d a pb : Nat) (s : St) (o : Int) (B : Opd) (v : Int) (ho : boOp o B v) (M : Mem) (w : World) (h : Yx w d a pb s (boI o B) M) :
  Calls Tryz.prog 32 #[.pointer (some ⟨d, 0, none⟩)] w (Ycj d a pb (boI o B) (boO M s (boI o B)) w) := by
 unfold boO
 by_cases h1 : (boI o B).op ≤ 9
 ·rw [if_pos h1]
  exact alu_all d a pb s _ M w h (by show 3 ≤ o ∧ o ≤ 9; have h1 : o ≤ 9 := h1; rcases ho with ⟨h2, _⟩ | ⟨h2, _⟩ <;> omega)
 ·rw [if_neg h1]
  by_cases h2 : (boI o B).op ≤ 15
  ·rw [if_pos h2]
   exact inc_all d a pb s _ M w h (by show 12 ≤ o ∧ o ≤ 15; have h1 : ¬ o ≤ 9 := h1; have h2 : o ≤ 15 := h2; rcases ho with ⟨h3, _⟩ | ⟨h3, _⟩ <;> omega)
  ·rw [if_neg h2]
   exact shf_all d a pb s _ M w h (by show 21 ≤ o ∧ o ≤ 25; have h1 : ¬ o ≤ 15 := h2; rcases ho with ⟨h3, _⟩ | ⟨h3, _⟩ <;> omega)
theorem bo_b {o : Int} {B : Opd} {v : Int} (ho : boOp o B v) (M : Mem) (s : St) (b : Int) : opK M s B b = true := by
 rcases ho with ⟨_, rfl⟩ | ⟨_, rfl⟩ <;> rfl
theorem writeM_R (M : Mem) (x b v : Int) : (M.writeM x b v).R = M.R := by
 unfold Mem.writeM; split
 ·exact Mem.putN_R M x v _
 ·rfl
theorem opM_R (M : Mem) (s : St) (o : Opd) (b v : Int) : (opM M s o b v).R = M.R := by
 unfold opM; split
 ·exact writeM_R M _ _ _
 ·rfl
theorem Yez (M : Mem) (s : St) : Ybt M s ⟨3, 0, 8, -1, -1, 1⟩ 4 3 = M.canK 8 4 3 ∧ Yct M s ⟨3, 0, 8, -1, -1, 1⟩ 4 3 = M.canF 8 4 3 ∧ opK M s ⟨3, 0, 8, -1, -1, 1⟩ 4 = M.readK 8 4 1 ∧ opF M s ⟨3, 0, 8, -1, -1, 1⟩ 4 = M.rdF 8 4 1 := by
 have hp := Yi1 s 8 (by decide)
 refine ⟨?_, ?_, ?_, ?_⟩
 ·show M.canK (s.place (memO 8)) 4 3 = _; rw [hp]
 ·show M.canF (s.place (memO 8)) 4 3 = _; rw [hp]
 ·show M.readK (s.place (memO 8)) 4 1 = _; rw [hp]
 ·show M.rdF (s.place (memO 8)) 4 1 = _; rw [hp]
theorem boO_yes (M : Mem) (s : St) (o : Int) (B : Opd) (v : Int) (ho : boOp o B v) (hc : M.canK 8 4 3 = true) : ∃ s2 M2, boO M s (boI o B) = okO s2 M2 ∧ M2.R = M.R := by
 have hp : Ybt M s (boI o B).a 4 3 = true := (Yez M s).1.trans hc
 unfold boO
 split
 ·unfold aluO; rw [if_pos hp, if_pos (show opK M s (boI o B).b 4 = true from bo_b ho M s 4)]; exact ⟨_, _, rfl, opM_R _ _ _ _ _⟩
 ·split
  ·unfold incO; rw [if_pos hp]; exact ⟨_, _, rfl, opM_R _ _ _ _ _⟩
  ·unfold shfO; rw [if_pos hp, if_pos (show opK M s (boI o B).b 1 = true from bo_b ho M s 1)]; exact ⟨_, _, rfl, opM_R _ _ _ _ _⟩
theorem boO_no (M : Mem) (s : St) (o : Int) (B : Opd) (v : Int) (ho : boOp o B v) (F : Flt) (hc : M.canK 8 4 3 = false) (hF : M.canF 8 4 3 = F) : boO M s (boI o B) = badO F M := by
 have hp : ¬ Ybt M s (boI o B).a 4 3 = true := by rw [show Ybt M s (boI o B).a 4 3 = M.canK 8 4 3 from (Yez M s).1, hc]; decide
 have hq : Yct M s (boI o B).a 4 3 = F := (Yez M s).2.1.trans hF
 unfold boO
 split
 ·unfold aluO; rw [if_neg hp, hq]
 ·split
  ·unfold incO; rw [if_neg hp, hq]
  ·unfold shfO; rw [if_neg hp, hq]
theorem bo_ok {o : Int} {B : Opd} {v : Int} (hv : 0 ≤ v ∧ v < 4294967296) (ho : boOp o B v) : (boI o B).Ok := by
 refine ⟨Yjj 8 (by decide), ?_⟩
 rcases ho with ⟨_, rfl⟩ | ⟨_, rfl⟩
 ·exact Yjm v hv
 ·exact noneO
section
variable {w : World} {p pb : Nat} {M : Mem} {s : St} {v o : Int} {B : Opd}
theorem bo_do (g : Int) (hg : 1 ≤ g ∧ g < 8) (hb : g % 4 = 3) (s : St) (hs : s.Ok) (hv : 0 ≤ v ∧ v < 4294967296) (ho : boOp o B v) :
  ∃ s2 M2, M2.R 0 = g ∧ ∀ (w : World) (p pb : Nat), Yj w p pb (Ybk g) → Calls Tryz.prog 15 #[.pointer (some ⟨p, 0, none⟩), .agg s.cells, .agg (boI o B).cells] w fun e w' =>
   e = .returned (.tuple #[.agg (St.cells s2), Flt.zero.val, .bool true]) ∧ Yj w' p pb M2 ∧ Upd [pb] w w' := by
 obtain ⟨s2, M2, h1, h2⟩ := boO_yes (Ybk g) (s.goOn 7) o B v ho (bo_yes g hg hb)
 exact ⟨s2, M2, by rw [h2]; exact bo_R g hg, fun w p pb hM => Do_of p pb s s2 _ _ _ _ w hM hs (bo_ok hv ho) (fun d w1 h1 => bo_all d p pb _ o B v ho _ w1 h1) h1⟩
theorem bo_not (g : Int) (hg : 1 ≤ g ∧ g < 8) (hb : g % 4 ≠ 3) (hM : Yj w p pb (Ybk g)) (hs : s.Ok) (hv : 0 ≤ v ∧ v < 4294967296) (ho : boOp o B v) :
  Calls Tryz.prog 15 #[.pointer (some ⟨p, 0, none⟩), .agg s.cells, .agg (boI o B).cells] w fun e w' =>
   e = .returned (.tuple #[.agg (St.cells s), Flt.val ⟨1, s.pc, 8, boW g⟩, .bool false]) ∧ Yj w' p pb (Ybk g) ∧ Upd [pb] w w' := by
 obtain ⟨h1, h2⟩ := bo_no g hg hb
 exact Do_not p pb s _ _ _ ⟨1, 0, 8, boW g⟩ _ w hM hs (bo_ok hv ho) (fun d w1 h1 => bo_all d p pb _ o B v ho _ w1 h1) (boO_no _ _ o B v ho _ h1 h2)
def boC (M : Mem) (s : St) (v : Int) : St := (s.goOn 10).setFl (Ya2 10 (M.readV 8 4 1) v (s.goOn 10).fl)
theorem bo_cmp (g : Int) (hg : 1 ≤ g ∧ g < 8) (hb : g % 2 = 1) (hR : M.R 0 = g) (hM : Yj w p pb M) (hs : s.Ok) (hv : 0 ≤ v ∧ v < 4294967296) :
  Calls Tryz.prog 15 #[.pointer (some ⟨p, 0, none⟩), .agg s.cells, .agg (Ins.cells ⟨10, 0, ⟨3, 0, 8, -1, -1, 1⟩, ⟨2, 0, v, 0, 0, 0⟩, false, 10⟩)] w fun e w' =>
   e = .returned (.tuple #[.agg (St.cells (boC M s v)), Flt.zero.val, .bool true]) ∧ Yj w' p pb M ∧ Upd [pb] w w' := by
 refine Do_of p pb s _ _ _ _ _ w hM hs ⟨Yjj 8 (by decide), Yjm v hv⟩ (fun d w1 h1 => Yjf d p pb _ _ _ w1 h1 rfl) ?_
 rw [Yh0]
 dsimp only
 have e1 := (Yez M (s.goOn 10)).2.2.1.trans (bo_read hR hg hb)
 rw [if_pos e1, if_pos (show opK M (s.goOn 10) ⟨2, 0, v, 0, 0, 0⟩ 4 = true from rfl)]
 have e2 : opV M (s.goOn 10) ⟨3, 0, 8, -1, -1, 1⟩ 4 = M.readV 8 4 1 := by
  show M.readV ((s.goOn 10).place (memO 8)) 4 1 = _; rw [Yi1 _ 8 (by decide)]
 have e3 : opV M (s.goOn 10) ⟨2, 0, v, 0, 0, 0⟩ 4 = v := by show v % 4294967296 = v; omega
 rw [e2, e3]
 rfl
theorem bo_cmpn (g : Int) (hg : 1 ≤ g ∧ g < 8) (hb : g % 2 ≠ 1) (hM : Yj w p pb (Ybk g)) (hs : s.Ok) (hv : 0 ≤ v ∧ v < 4294967296) :
  Calls Tryz.prog 15 #[.pointer (some ⟨p, 0, none⟩), .agg s.cells, .agg (Ins.cells ⟨10, 0, ⟨3, 0, 8, -1, -1, 1⟩, ⟨2, 0, v, 0, 0, 0⟩, false, 10⟩)] w fun e w' =>
   e = .returned (.tuple #[.agg (St.cells s), Flt.val ⟨1, s.pc, 8, 1⟩, .bool false]) ∧ Yj w' p pb (Ybk g) ∧ Upd [pb] w w' := by
 obtain ⟨h1, h2⟩ := Ypp g hg hb
 refine Do_not p pb s _ _ _ ⟨1, 0, 8, 1⟩ _ w hM hs ⟨Yjj 8 (by decide), Yjm v hv⟩ (fun d w1 h1 => Yjf d p pb _ _ _ w1 h1 rfl) ?_
 rw [Yh0]
 dsimp only
 have e1 : ¬ opK (Ybk g) (s.goOn 10) ⟨3, 0, 8, -1, -1, 1⟩ 4 = true := by rw [(Yez _ _).2.2.1, h1]; decide
 rw [if_neg e1, (Yez _ _).2.2.2, h2]
end
structure Kx (w : World) (a pb : Nat) (M : Mem) (L : List (Nat × Obj)) (n0 e : Nat) (dn : Nat → Bool) (r : Nat → Value) (w1 : World) : Prop where
 k : Kq w a pb M L w1
 b : n0 ≤ w1.heap.size
 ln : (∀ p ∈ L, p.1 < n0) ∧ a < n0 ∧ pb < n0 ∧ w.heap.size ≤ n0
 x : dn e = true → ∃ g, r e = .pointer (some ⟨g, 0, none⟩) ∧ n0 ≤ g ∧ w1.heap[g]? = some (.cells Ins.zero.cells 41 (0, 0))
section
variable {w w1 w2 : World} {a pb n0 e b n : Nat} {M : Mem} {L : List (Nat × Obj)} {dn : Nat → Bool} {r : Nat → Value} {c : Array Value} {i : Ins}
theorem Kx.start (h : Kq w a pb M L w1) (e : Nat) (r : Nat → Value) : Kx w a pb M L w1.heap.size e (fun _ => false) r w1.drew :=
 ⟨h.quiet (Upd.refl [] w1).drew, ((Upd.refl [] w1).drew).size, ⟨h.lts.1, h.lts.2.1, h.lts.2.2, h.u.size⟩, fun h => (by cases h)⟩
theorem Kx.quiet (h : Kx w a pb M L n0 e dn r w1) (u : Upd [] w1 w2) (j : Nat) (h2 : e ≠ j) : Kx w a pb M L n0 e (Yai dn j) r w2 := by
 refine ⟨h.k.quiet u, Nat.le_trans h.b u.size, h.ln, fun hx => ?_⟩
 rw [Yp h2] at hx; obtain ⟨g, e1, e2, e3⟩ := h.x hx; exact ⟨g, e1, e2, u.get e3 (by simp)⟩
theorem Kx.same (h : Kx w a pb M L n0 e dn r w1) (j : Nat) (h2 : e ≠ j) : Kx w a pb M L n0 e (Yai dn j) r w1 := h.quiet (Upd.refl [] w1) j h2
theorem Kx.lay (h : Kx w a pb M L n0 e dn r w1) : Kx w a pb M L n0 e (Yai dn e) (Ycw r e (.pointer (some ⟨w1.heap.size, 0, none⟩))) (w1.alloc (.cells Ins.zero.cells 41)) := by
 have u := (Upd.refl [] w1).alloc (.cells Ins.zero.cells 41)
 exact ⟨h.k.quiet u, Nat.le_trans h.b u.size, h.ln, fun _ => ⟨_, Yfm, h.b, heap_alloc_new _ _⟩⟩
theorem Kx.fin (h : Kx w a pb M L n0 e dn r w1) (he : dn e = true) : ∃ g, r e = .pointer (some ⟨g, 0, none⟩) ∧ Kq w a pb M ((g, .cells Ins.zero.cells 41 (0, 0)) :: L) w1 := by
 obtain ⟨g, a1, a2, a3⟩ := h.x he
 have hl := h.ln
 exact ⟨g, a1, h.k.add (b := g) (by omega) ⟨fun p hp => by have := hl.1 p hp; omega, by omega, by omega⟩ a3⟩
theorem Kq.putI (h : Kq w a pb M L w1) (n : Nat) (hn : L[n]? = some (b, .cells c 41 (0, 0))) (hc : c.size = 16) (hw : w1.setCells b 0 i.cells.toList = w2) : Kq w a pb M (L.set n (b, .cells i.cells 41 (0, 0))) w2 := by
 subst hw
 refine h.put n hn ((Upd.refl [b] w1).setCells (q := b) (.inl (by simp)) i.cells.toList 0) ?_
 rw [Yaf _ _ _ _ (h.get n hn), Yl6 _ i hc]
theorem Kq.putB {o : Int} {B : Opd} (h : Kq w a pb M L w1) (n : Nat) (hn : L[n]? = some (b, .cells (boI o B).cells 41 (0, 0))) (hw : w1.setCells b 8 Opd.none.cells.toList = w2) :
  Kq w a pb M (L.set n (b, .cells (boI o Opd.none).cells 41 (0, 0))) w2 := by
 subst hw
 refine h.put n hn ((Upd.refl [b] w1).setCells (q := b) (.inl (by simp)) Opd.none.cells.toList 8) ?_
 rw [Yaf _ _ _ _ (h.get n hn)]
 rfl
end
end
end Go.Proofs.YthakgjpejhjaoaaGreat
