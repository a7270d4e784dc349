/-
  Parts of the proof (their names shortened by a program). No condition.
-/
import Derived.Test.YthakgjpejhjaoaaGreatMg01
import Derived.Test.YthakgjpejhjaoaaGreatMg21
import Derived.Test.YthakgjpejhjaoaaGreatMg04
import Derived.Test.YthakgjpejhjaoaaGreatMg20
import Derived.ChangeSlices
namespace Go.Proofs.YthakgjpejhjaoaaGreat
open Go Go.RowKit
set_option linter.unusedVariables false
set_option linter.unusedSimpArgs false
set_option maxRecDepth 100000
set_option maxHeartbeats 16000000
section
structure Kq (w : World) (a pb : Nat) (M : Mem) (L : List (Nat × Obj)) (w1 : World) : Prop where
 m : Yl w1 a pb M
 u : Upd [] w w1
 v : ∀ p ∈ L, w1.heap[p.1]? = some p.2
 s : L.Pairwise (fun p q => p.1 ≠ q.1)
 t : ∀ p ∈ L, p.1 ≠ pb ∧ p.1 ≠ a
 l : w.heap.size ≤ pb
 w : ∀ p ∈ L, w.heap.size ≤ p.1
section
variable {w w0 w1 w2 : World} {a pb b : Nat} {M M2 : Mem} {L : List (Nat × Obj)} {T s' : St} {o o' : Obj}
theorem Kq.of (h : Kn w a pb M L w1) : Kq w a pb M L w1 := ⟨h.m, h.u, h.v, h.s.imp (fun h => Nat.ne_of_gt h), fun p hp => (h.t p hp).2, h.l, h.w⟩
theorem Kq.step (h : Kq w a pb M L w1) (hm : Yl w2 a pb M2) (u : Upd [pb] w1 w2) : Kq w a pb M2 L w2 :=
 ⟨hm, h.u.also u (by have := h.l; simp <;> omega), fun p hp => u.get (h.v p hp) (by have := (h.t p hp).1; simpa using this), h.s, h.t, h.l, h.w⟩
theorem Kq.quiet (h : Kq w a pb M L w1) (u : Upd [] w1 w2) : Kq w a pb M L w2 :=
 ⟨h.m.keep u (by simp) (by simp), h.u.also u (by simp), fun p hp => u.get (h.v p hp) (by simp), h.s, h.t, h.l, h.w⟩
theorem Kq.get (h : Kq w a pb M L w1) (n : Nat) (hn : L[n]? = some (b, o)) : w1.heap[b]? = some o := h.v (b, o) (List.mem_of_getElem? hn)
theorem Kq.lts (h : Kq w a pb M L w1) : (∀ p ∈ L, p.1 < w1.heap.size) ∧ a < w1.heap.size ∧ pb < w1.heap.size :=
 ⟨fun p hp => Yh (h.v p hp), by obtain ⟨C, _, hc⟩ := h.m.hd; exact Yh hc, by obtain ⟨C, _, hc⟩ := h.m.pg; exact Yh hc⟩
theorem Kq.put (h : Kq w a pb M L w1) (n : Nat) (hn : L[n]? = some (b, o)) (u : Upd [b] w1 w2) (ho : w2.heap[b]? = some o') : Kq w a pb M (L.set n (b, o')) w2 := by
 have hb := h.t (b, o) (List.mem_of_getElem? hn)
 have hw := h.w (b, o) (List.mem_of_getElem? hn)
 obtain ⟨hl, he⟩ := List.getElem?_eq_some_iff.1 hn
 have hs := List.pairwise_iff_getElem.1 h.s
 have hc : ∀ p, p ∈ L.set n (b, o') → p = (b, o') ∨ (p ∈ L ∧ p.1 ≠ b) := by
  intro p hp
  obtain ⟨j, hj⟩ := List.mem_iff_getElem?.1 hp
  rw [List.getElem?_set] at hj
  by_cases e : n = j
  ·subst e
   simp only [if_true, hl] at hj
   exact .inl (Option.some.inj hj).symm
  ·simp only [e, if_false] at hj
   obtain ⟨hl2, he2⟩ := List.getElem?_eq_some_iff.1 hj
   refine .inr ⟨List.mem_of_getElem? hj, fun hh => ?_⟩
   rcases Nat.lt_or_gt_of_ne e with h1 | h1
   ·have := hs n j hl hl2 h1; rw [he, he2] at this; exact this hh.symm
   ·have := hs j n hl2 hl h1; rw [he, he2] at this; exact this hh
 refine ⟨h.m.keep u (by simpa using fun e => hb.2 e.symm) (by simpa using fun e => hb.1 e.symm), h.u.also u (fun x hx => .inr (by rw [List.mem_singleton.1 hx]; exact hw)), fun p hp => ?_, ?_, fun p hp => ?_, h.l, fun p hp => ?_⟩
 ·rcases hc p hp with rfl | ⟨h1, h2⟩
  ·exact ho
  ·exact u.get (h.v p h1) (by simpa using h2)
 ·refine List.pairwise_iff_getElem.2 fun i j hi hj hij => ?_
  rw [List.length_set] at hi hj
  have h1 : ∀ q (hq : q < L.length) (hq2 : q < (L.set n (b, o')).length), ((L.set n (b, o'))[q]).1 = (L[q]).1 := by
   intro q hq hq2
   rw [List.getElem_set]
   split
   ·rename_i e; subst e; rw [he]
   ·rfl
  rw [h1 i hi (by rw [List.length_set]; exact hi), h1 j hj (by rw [List.length_set]; exact hj)]
  exact hs i j hi hj hij
 ·rcases hc p hp with rfl | ⟨h1, h2⟩
  ·exact hb
  ·exact h.t p h1
 ·rcases hc p hp with rfl | ⟨h1, h2⟩
  ·exact hw
  ·exact h.w p h1
theorem Kq.add (h : Kq w a pb M L w1) (hb : w.heap.size ≤ b) (hn : (∀ p ∈ L, p.1 ≠ b) ∧ b ≠ pb ∧ b ≠ a) (ho : w1.heap[b]? = some o) : Kq w a pb M ((b, o) :: L) w1 := by
 refine ⟨h.m, h.u, fun p hp => ?_, List.pairwise_cons.2 ⟨fun q hq e => hn.1 q hq e.symm, h.s⟩, fun p hp => ?_, h.l, fun p hp => ?_⟩
 ·rcases List.mem_cons.1 hp with rfl | hp
  ·exact ho
  ·exact h.v p hp
 ·rcases List.mem_cons.1 hp with rfl | hp
  ·exact ⟨hn.2.1, hn.2.2⟩
  ·exact h.t p hp
 ·rcases List.mem_cons.1 hp with rfl | hp
  ·exact hb
  ·exact h.w p hp
theorem Kq.putR (h : Kq w a pb M L w1) (n : Nat) (hn : L[n]? = some (b, .cells T.cells 28 (0, 0))) (k : Nat) (hk : k < 8) (v : Int) : Kq w a pb M (L.set n (b, .cells (T.setR k v).cells 28 (0, 0))) (w1.setCell ⟨b, k, none⟩ (.int .u32 v)) :=
 h.put n hn ((Upd.refl [b] w1).setCell (p := ⟨b, k, none⟩) (.inl (by simp)) _) (by rw [← St.cells_setR T k v hk]; exact Yf (h.get n hn) k _)
end
section
variable {w w1 w2 : World} {a pb g : Nat} {M : Mem} {L : List (Nat × Obj)} {T : St} {F : Flt}
theorem Kq.upd (h : Kq w a pb M L w1) (u : Upd [g] w1 w2) (hg : w.heap.size ≤ g) (hn : (∀ p ∈ L, p.1 ≠ g) ∧ g ≠ pb ∧ g ≠ a) : Kq w a pb M L w2 :=
 ⟨h.m.keep u (by simpa using fun e => hn.2.2 e.symm) (by simpa using fun e => hn.2.1 e.symm), h.u.also u (fun x hx => .inr (by rw [List.mem_singleton.1 hx]; exact hg)), fun p hp => u.get (h.v p hp) (by simpa using hn.1 p hp), h.s, h.t, h.l, h.w⟩
theorem Kq.two (h : Kq w a pb M L w1) (h2 : w2.heap[w1.heap.size]? = some (.cells T.cells 28 (0, 0)) ∧ w2.heap[w1.heap.size + 1]? = some (.cells #[.int .i64 0, .int .u32 0, .int .u32 0, .int .i64 0] 35 (0, 0)) ∧ Upd [] w1 w2) :
  Kq w a pb M ((w1.heap.size + 1, .cells (Yac F) 35 (0, 0)) :: (w1.heap.size, .cells T.cells 28 (0, 0)) :: L) ((((w2.setCell ⟨w1.heap.size + 1, 0, none⟩ (.int .i64 F.k)).setCell ⟨w1.heap.size + 1, 1, none⟩ (.int .u32 F.pc)).setCell ⟨w1.heap.size + 1, 2, none⟩ (.int .u32 F.a)).setCell ⟨w1.heap.size + 1, 3, none⟩ (.int .i64 F.wt)) := by
 have hl := h.lts
 have hu := h.u.size
 have u4 := Yas (S := [w1.heap.size + 1]) (b := w1.heap.size + 1) (Upd.refl _ w2) (.inl (by simp)) (.int .i64 F.k) (.int .u32 F.pc) (.int .u32 F.a) (.int .i64 F.wt)
 have hf := Ycm h2.2.1 (.int .i64 F.k) (.int .u32 F.pc) (.int .u32 F.a) (.int .i64 F.wt)
 have h3 := (h.quiet h2.2.2).add (b := w1.heap.size) hu ⟨fun p hp => by have := hl.1 p hp; omega, by omega, by omega⟩ h2.1
 have hn : ∀ p ∈ ((w1.heap.size, Obj.cells T.cells 28 (0, 0)) :: L), p.1 ≠ w1.heap.size + 1 := by
  intro p hp
  rcases List.mem_cons.1 hp with rfl | hp
  ·dsimp only; omega
  ·have := hl.1 p hp; omega
 exact (h3.upd u4 (by omega) ⟨hn, by omega, by omega⟩).add (by omega) ⟨hn, by omega, by omega⟩ hf
end
structure Kd (w : World) (a pb : Nat) (M M2 : Mem) (L : List (Nat × Obj)) (n0 : Nat) (S : St) (F : Flt) (c e f p q : Nat) (dn : Nat → Bool) (r : Nat → Value) (w1 : World) : Prop where
 k : Kq w a pb (cond (dn c) M2 M) L w1
 b : n0 ≤ w1.heap.size
 ln : (∀ p ∈ L, p.1 < n0) ∧ a < n0 ∧ pb < n0 ∧ w.heap.size ≤ n0
 x : dn e = true → ∃ g, r e = .pointer (some ⟨g, 0, none⟩) ∧ n0 ≤ g ∧ w1.heap[g]? = some (.cells (cond (dn p) S.cells St.zero.cells) 28 (0, 0))
 y : dn f = true → ∃ g, r f = .pointer (some ⟨g, 0, none⟩) ∧ n0 ≤ g ∧ w1.heap[g]? = some (.cells (cond (dn q) (Yac F) (Yac Flt.zero)) 35 (0, 0))
 xo : dn p = true → dn e = true
 yo : dn q = true → dn f = true
theorem Yeg : (28 : TypeId) ≠ 35 := by decide
theorem wr_st (c : Array Value) (S : St) (hc : c.size = 17) : wr c 0 S.cells.toList = S.cells := Yjl c S hc
section
variable {w w1 w2 : World} {a pb n0 : Nat} {M M2 : Mem} {L : List (Nat × Obj)} {S : St} {F : Flt} {c e f p q : Nat} {dn : Nat → Bool} {r : Nat → Value}
theorem Kd.start (h : Kq w a pb M L w1) (M2 : Mem) (S : St) (F : Flt) (c e f p q : Nat) (r : Nat → Value) : Kd w a pb M M2 L w1.heap.size S F c e f p q (fun _ => false) r w1.drew :=
 ⟨h.quiet (Upd.refl [] w1).drew, ((Upd.refl [] w1).drew).size, ⟨h.lts.1, h.lts.2.1, h.lts.2.2, h.u.size⟩, fun h => (by cases h), fun h => (by cases h), fun h => (by cases h), fun h => (by cases h)⟩
theorem Kd.quiet (h : Kd w a pb M M2 L n0 S F c e f p q dn r w1) (u : Upd [] w1 w2) (j : Nat) (h1 : c ≠ j) (h2 : e ≠ j) (h3 : f ≠ j) (h4 : p ≠ j) (h5 : q ≠ j) : Kd w a pb M M2 L n0 S F c e f p q (Yad dn j) r w2 := by
 refine ⟨by rw [Yn h1]; exact h.k.quiet u, Nat.le_trans h.b u.size, h.ln, fun hx => ?_, fun hx => ?_, fun hx => ?_, fun hx => ?_⟩
 ·rw [Yn h2] at hx; rw [Yn h4]; obtain ⟨g, e1, e2, e3⟩ := h.x hx; exact ⟨g, e1, e2, u.get e3 (by simp)⟩
 ·rw [Yn h3] at hx; rw [Yn h5]; obtain ⟨g, e1, e2, e3⟩ := h.y hx; exact ⟨g, e1, e2, u.get e3 (by simp)⟩
 ·rw [Yn h4] at hx; rw [Yn h2]; exact h.xo hx
 ·rw [Yn h5] at hx; rw [Yn h3]; exact h.yo hx
theorem Kd.same (h : Kd w a pb M M2 L n0 S F c e f p q dn r w1) (j : Nat) (h1 : c ≠ j) (h2 : e ≠ j) (h3 : f ≠ j) (h4 : p ≠ j) (h5 : q ≠ j) : Kd w a pb M M2 L n0 S F c e f p q (Yad dn j) r w1 := h.quiet (Upd.refl [] w1) j h1 h2 h3 h4 h5
theorem Kd.call (h : Kd w a pb M M2 L n0 S F c e f p q dn r w1) (hm : Yl w2 a pb M2) (u : Upd [pb] w1 w2) (h2 : e ≠ c) (h3 : f ≠ c) (h4 : p ≠ c) (h5 : q ≠ c) : Kd w a pb M M2 L n0 S F c e f p q (Yad dn c) r w2 := by
 have hl := h.ln
 refine ⟨by rw [Ycy]; exact h.k.step hm u, Nat.le_trans h.b u.size, h.ln, fun hx => ?_, fun hx => ?_, fun hx => ?_, fun hx => ?_⟩
 ·rw [Yn h2] at hx; rw [Yn h4]; obtain ⟨g, e1, e2, e3⟩ := h.x hx; exact ⟨g, e1, e2, u.get e3 (by simp; omega)⟩
 ·rw [Yn h3] at hx; rw [Yn h5]; obtain ⟨g, e1, e2, e3⟩ := h.y hx; exact ⟨g, e1, e2, u.get e3 (by simp; omega)⟩
 ·rw [Yn h4] at hx; rw [Yn h2]; exact h.xo hx
 ·rw [Yn h5] at hx; rw [Yn h3]; exact h.yo hx
theorem Kd.layS (h : Kd w a pb M M2 L n0 S F c e f p q dn r w1) (hd : dn e = false) (h1 : c ≠ e) (h3 : f ≠ e) (h4 : p ≠ e) (h5 : q ≠ e) : Kd w a pb M M2 L n0 S F c e f p q (Yad dn e) (Yck r e (.pointer (some ⟨w1.heap.size, 0, none⟩))) (w1.alloc (.cells St.zero.cells 28)) := by
 have hp : dn p = false := by
  cases hh : dn p with
  |false => rfl
  |true => rw [h.xo hh] at hd; cases hd
 have u := (Upd.refl [] w1).alloc (.cells St.zero.cells 28)
 refine ⟨by rw [Yn h1]; exact h.k.quiet u, Nat.le_trans h.b u.size, h.ln, fun _ => ⟨_, Yfj, h.b, ?_⟩, fun hx => ?_, fun _ => Ycy, fun hx => ?_⟩
 ·rw [Yn h4, hp]; exact heap_alloc_new _ _
 ·rw [Yn h3] at hx; rw [Yn h5]; obtain ⟨g, e1, e2, e3⟩ := h.y hx; exact ⟨g, by rw [vq_ne h3]; exact e1, e2, u.get e3 (by simp)⟩
 ·rw [Yn h5] at hx; rw [Yn h3]; exact h.yo hx
theorem Kd.layF (h : Kd w a pb M M2 L n0 S F c e f p q dn r w1) (hd : dn f = false) (h1 : c ≠ f) (h3 : e ≠ f) (h4 : p ≠ f) (h5 : q ≠ f) : Kd w a pb M M2 L n0 S F c e f p q (Yad dn f) (Yck r f (.pointer (some ⟨w1.heap.size, 0, none⟩))) (w1.alloc (.cells (Yac Flt.zero) 35)) := by
 have hq : dn q = false := by
  cases hh : dn q with
  |false => rfl
  |true => rw [h.yo hh] at hd; cases hd
 have u := (Upd.refl [] w1).alloc (.cells (Yac Flt.zero) 35)
 refine ⟨by rw [Yn h1]; exact h.k.quiet u, Nat.le_trans h.b u.size, h.ln, fun hx => ?_, fun _ => ⟨_, Yfj, h.b, ?_⟩, fun hx => ?_, fun _ => Ycy⟩
 ·rw [Yn h3] at hx; rw [Yn h4]; obtain ⟨g, e1, e2, e3⟩ := h.x hx; exact ⟨g, by rw [vq_ne h3]; exact e1, e2, u.get e3 (by simp)⟩
 ·rw [Yn h5, hq]; exact heap_alloc_new _ _
 ·rw [Yn h4] at hx; rw [Yn h3]; exact h.xo hx
theorem Kd.keepL (h : Kd w a pb M M2 L n0 S F c e f p q dn r w1) {g : Nat} (hg : n0 ≤ g) (u : Upd [g] w1 w2) (m : Mem) (hm : Yl w1 a pb m) : Kq w a pb m L w2 := by
 have hl := h.ln
 exact ⟨hm.keep u (by simp; omega) (by simp; omega), h.k.u.also u (fun x hx => .inr (by rw [List.mem_singleton.1 hx]; omega)), fun p hp => u.get (h.k.v p hp) (by have := hl.1 p hp; simp; omega), h.k.s, h.k.t, h.k.l, h.k.w⟩
theorem Kd.putS (h : Kd w a pb M M2 L n0 S F c e f p q dn r w1) (hd : dn e = true) {g : Nat} (e1 : r e = .pointer (some ⟨g, 0, none⟩)) (h1 : c ≠ p) (h2 : e ≠ p) (h3 : f ≠ p) (h5 : q ≠ p) : Kd w a pb M M2 L n0 S F c e f p q (Yad dn p) r (w1.setCells g 0 S.cells.toList) := by
 obtain ⟨g', e1', e2, e3⟩ := h.x hd
 obtain rfl : g' = g := by rw [e1] at e1'; injection e1' with e; injection e with e; injection e with e; exact e.symm
 have u := (Upd.refl [g'] w1).setCells (q := g') (.inl (by simp)) S.cells.toList 0
 refine ⟨by rw [Yn h1]; exact h.keepL e2 u _ h.k.m, Nat.le_trans h.b u.size, h.ln, fun _ => ⟨g', e1, e2, ?_⟩, fun hx => ?_, fun _ => by rw [Yn h2]; exact hd, fun hx => ?_⟩
 ·rw [Ycy]
  show _ = some (Obj.cells S.cells 28 (0, 0))
  rw [Yz _ _ _ _ e3, wr_st _ S (by cases dn p <;> rfl)]
 ·rw [Yn h3] at hx; rw [Yn h5]
  obtain ⟨k, k1, k2, k3⟩ := h.y hx
  refine ⟨k, k1, k2, u.get k3 ?_⟩
  simp only [List.mem_singleton]
  rintro rfl
  rw [e3] at k3
  injection k3 with k3; injection k3 with _ k3 _; exact Yeg k3
 ·rw [Yn h5] at hx; rw [Yn h3]; exact h.yo hx
theorem Kd.putF (h : Kd w a pb M M2 L n0 S F c e f p q dn r w1) (hd : dn f = true) {g : Nat} (e1 : r f = .pointer (some ⟨g, 0, none⟩)) (h1 : c ≠ q) (h2 : e ≠ q) (h3 : f ≠ q) (h5 : p ≠ q) : Kd w a pb M M2 L n0 S F c e f p q (Yad dn q) r (w1.setCells g 0 (Yac F).toList) := by
 obtain ⟨g', e1', e2, e3⟩ := h.y hd
 obtain rfl : g' = g := by rw [e1] at e1'; injection e1' with e; injection e with e; injection e with e; exact e.symm
 have u := (Upd.refl [g'] w1).setCells (q := g') (.inl (by simp)) (Yac F).toList 0
 refine ⟨by rw [Yn h1]; exact h.keepL e2 u _ h.k.m, Nat.le_trans h.b u.size, h.ln, fun hx => ?_, fun _ => ⟨g', e1, e2, ?_⟩, fun hx => ?_, fun _ => by rw [Yn h3]; exact hd⟩
 ·rw [Yn h2] at hx; rw [Yn h5]
  obtain ⟨k, k1, k2, k3⟩ := h.x hx
  refine ⟨k, k1, k2, u.get k3 ?_⟩
  simp only [List.mem_singleton]
  rintro rfl
  rw [e3] at k3
  injection k3 with k3; injection k3 with _ k3 _; exact Yeg k3.symm
 ·rw [Ycy]
  show _ = some (Obj.cells (Yac F) 35 (0, 0))
  rw [Yz _ _ _ _ e3]
  cases dn q <;> rfl
 ·rw [Yn h5] at hx; rw [Yn h2]; exact h.xo hx
theorem Kd.fin (h : Kd w a pb M M2 L n0 S F c e f p q dn r w1) (hc : dn c = true) (he : dn e = true) (hf : dn f = true) (hp : dn p = true) (hq : dn q = true) :
  ∃ g1 g2, r e = .pointer (some ⟨g1, 0, none⟩) ∧ r f = .pointer (some ⟨g2, 0, none⟩) ∧ Kq w a pb M2 ((g2, .cells (Yac F) 35 (0, 0)) :: (g1, .cells S.cells 28 (0, 0)) :: L) w1 := by
 obtain ⟨g1, a1, a2, a3⟩ := h.x he
 obtain ⟨g2, b1, b2, b3⟩ := h.y hf
 have hl := h.ln
 rw [hp] at a3
 rw [hq] at b3
 have hk := h.k
 rw [hc] at hk
 have h1 := hk.add (b := g1) (by omega) ⟨fun p hp => by have := hl.1 p hp; omega, by omega, by omega⟩ a3
 refine ⟨g1, g2, a1, b1, h1.add (b := g2) (by omega) ⟨fun p hp => ?_, by omega, by omega⟩ b3⟩
 rcases List.mem_cons.1 hp with rfl | hp
 ·dsimp only
  rintro rfl
  rw [a3] at b3
  injection b3 with b3; injection b3 with _ b3 _; exact Yeg b3
 ·have := hl.1 p hp; omega
end
end
def St.eqB (s t : St) : Bool := (((List.range 8).all fun i => s.R i == t.R i) && ((s.pc == t.pc) && ((((s.cf == t.cf) && ((s.pf == t.pf) && ((s.af == t.af) && ((s.zf == t.zf) && ((s.sf == t.sf) && ((s.of_ == t.of_) && true))))))) && ((s.df == t.df) && ((s.f == t.f) && true)))))
theorem St.eqB_self (s : St) : s.eqB s = true := by simp [St.eqB]
theorem St.eqB_iff (s t : St) : s.eqB t = true ↔ (∀ i, i < 8 → s.R i = t.R i) ∧ s.pc = t.pc ∧ s.cf = t.cf ∧ s.pf = t.pf ∧ s.af = t.af ∧ s.zf = t.zf ∧ s.sf = t.sf ∧ s.of_ = t.of_ ∧ s.df = t.df ∧ s.f = t.f := by
 simp only [St.eqB, Bool.and_eq_true, List.all_eq_true, List.mem_range, beq_iff_eq, and_true]
 constructor
 ·rintro ⟨h1, h2, ⟨h3, h4, h5, h6, h7, h8⟩, h9, h10⟩; exact ⟨h1, h2, h3, h4, h5, h6, h7, h8, h9, h10⟩
 ·rintro ⟨h1, h2, h3, h4, h5, h6, h7, h8, h9, h10⟩; exact ⟨h1, h2, ⟨h3, h4, h5, h6, h7, h8⟩, h9, h10⟩
def Yg5 (s : St) : Array Value := #[.bool s.cf, .bool s.pf, .bool s.af, .bool s.zf, .bool s.sf, .bool s.of_]
theorem Yg9 (s t : St) (w : World) (d : Nat) : (Op.equalIn (d + 1 + 1) 25 (.agg (Yg5 s)) (.agg (Yg5 t))).run Tryz.prog w = .ok ((s.cf == t.cf) && ((s.pf == t.pf) && ((s.af == t.af) && ((s.zf == t.zf) && ((s.sf == t.sf) && ((s.of_ == t.of_) && true)))))) w := by
 have hf : Tryz.prog.fieldsOf 25 = #[{ name := "CF", type := 4, offset := 0, embedded := false, tag := "", pkgPath := "", byteOffset := 0 }, { name := "PF", type := 4, offset := 1, embedded := false, tag := "", pkgPath := "", byteOffset := 1 },
  { name := "AF", type := 4, offset := 2, embedded := false, tag := "", pkgPath := "", byteOffset := 2 }, { name := "ZF", type := 4, offset := 3, embedded := false, tag := "", pkgPath := "", byteOffset := 3 },
  { name := "SF", type := 4, offset := 4, embedded := false, tag := "", pkgPath := "", byteOffset := 4 }, { name := "OF", type := 4, offset := 5, embedded := false, tag := "", pkgPath := "", byteOffset := 5 }] := by kernel_rfl
 have hu : Tryz.prog.underlying 25 = some (.struct (Tryz.prog.fieldsOf 25)) := by kernel_rfl
 have hp : Tryz.prog.plainKey 4 = true := by kernel_rfl
 have hb := fun (a b : Bool) => run_equalIn_bool (P := Tryz.prog) w d 4 a b Tryz.underlying4
 rw [run_equalIn_struct w _ 25 _ _ hu (Tryz.stoodInHeld25), hf]
 exact Ybm (by decide) (run_part_plain w hp rfl) (run_part_plain w hp rfl) (hb _ _) (Ybm (by decide) (run_part_plain w hp rfl) (run_part_plain w hp rfl) (hb _ _) (Ybm (by decide) (run_part_plain w hp rfl) (run_part_plain w hp rfl) (hb _ _) (Ybm (by decide) (run_part_plain w hp rfl) (run_part_plain w hp rfl) (hb _ _) (Ybm (by decide) (run_part_plain w hp rfl) (run_part_plain w hp rfl) (hb _ _) (Ybm (by decide) (run_part_plain w hp rfl) (run_part_plain w hp rfl) (hb _ _) Ygz)))))
theorem Yhc (s t : St) (w : World) (d : Nat) : (Op.equalIn (d + 1 + 1 + 1) 28 (.agg s.cells) (.agg t.cells)).run Tryz.prog w = .ok (s.eqB t) w := by
 have hf : Tryz.prog.fieldsOf 28 = #[{ name := "R", type := 23, offset := 0, embedded := false, tag := "", pkgPath := "", byteOffset := 0 }, { name := "PC", type := 22, offset := 8, embedded := false, tag := "", pkgPath := "", byteOffset := 32 },
  { name := "Fl", type := 25, offset := 9, embedded := false, tag := "", pkgPath := "", byteOffset := 36 }, { name := "DF", type := 4, offset := 15, embedded := false, tag := "", pkgPath := "", byteOffset := 42 }, { name := "F", type := 26, offset := 16, embedded := false, tag := "", pkgPath := "", byteOffset := 48 }] := by kernel_rfl
 have hu : Tryz.prog.underlying 28 = some (.struct (Tryz.prog.fieldsOf 28)) := by kernel_rfl
 have hpB : Tryz.prog.plainKey 4 = true := by kernel_rfl
 have hp32 : Tryz.prog.plainKey 22 = true := by kernel_rfl
 have hp64 : Tryz.prog.plainKey 26 = true := by kernel_rfl
 have hc : Tryz.prog.cellsOf 22 = 1 := by kernel_rfl
 have hpR := fun xs : Array Value => Yh0 (P := Tryz.prog) (xs := xs) (t := 23) (i := Tryz.t23) (n := 8) (off := 0) w (Tryz.isAgg23 w) (by kernel_rfl) (by kernel_rfl)
 have hpF := fun xs : Array Value => Yh0 (P := Tryz.prog) (xs := xs) (t := 25) (i := Tryz.t25) (n := 6) (off := 9) w (Tryz.isAgg25 w) (by kernel_rfl) (by kernel_rfl)
 have eF : ∀ s : St, s.cells.extract 9 (9 + 6) = Yg5 s := fun s => by simp [St.cells, Yg5]
 have hR : (Op.equalIn (d + 1 + 1) 23 (.agg (s.cells.extract 0 (0 + 8))) (.agg (t.cells.extract 0 (0 + 8)))).run Tryz.prog w = .ok ((List.range 8).all fun i => s.R i == t.R i) w := by
  rw [run_equalIn_array w (d + 1) (i := Tryz.t22) _ _ Tryz.underlying23 (by kernel_rfl), hc]
  have e : ∀ (s : St) i, i < 8 → (s.cells.extract 0 (0 + 8))[i]? = some (.int .u32 (s.R i)) := fun s i hi => by
   rw [Array.getElem?_extract, if_pos (by rw [St.size]; omega), Nat.zero_add, St.cR s i hi]
  exact Yhf w d Tryz.underlying22 _ _ _ _ _ (fun i hi => ⟨e s i (List.mem_range.1 hi), e t i (List.mem_range.1 hi)⟩)
 have hF := Yg9 s t w d
 rw [← eF s, ← eF t] at hF
 rw [run_equalIn_struct w _ 28 _ _ hu (Tryz.stoodInHeld28), hf]
 exact Ybm (by decide) (hpR _) (hpR _) hR (Ybm (by decide) (run_part_plain w hp32 rfl) (run_part_plain w hp32 rfl) (run_equalIn_int w _ 22 .u32 .u32 _ _ Tryz.underlying22)
  (Ybm (by decide) (hpF _) (hpF _) hF (Ybm (by decide) (run_part_plain w hpB rfl) (run_part_plain w hpB rfl) (run_equalIn_bool w _ 4 _ _ Tryz.underlying4)
  (Ybm (by decide) (run_part_plain w hp64 rfl) (run_part_plain w hp64 rfl) (run_equalIn_int w _ 26 .u64 .u64 _ _ Tryz.underlying26) Ygz))))
theorem Yjd (s t : St) (w : World) : (binOp .eql 28 (.agg s.cells) (.agg t.cells)).run Tryz.prog w = .ok (.bool (s.eqB t)) w := by
 have h := Yhc s t w 9997
 rw [run_eql_struct]
 rw [show (10000 : Nat) = 9997 + 1 + 1 + 1 from rfl, h, Result.andThen_ok]
section
theorem noneO : Opd.none.Ok := ⟨⟨by decide, by decide⟩, ⟨by decide, by decide⟩⟩
section
variable {w : World} {a pb : Nat} {M : Mem} {T : St} {c d : Int}
end
theorem Yi2 (S : St) (w : World) : (binOp .eql 28 (.agg S.cells) (.agg S.cells)).run Tryz.prog w = .ok (.bool true) w := by
 have := Yjd S S w
 rw [St.eqB_self] at this
 exact this
end
section
def rwR (c free k : Int) (down : Bool) (i : Nat) : Int :=
 if i = 1 then c - k else if i = 6 then (if down = true then 60 - 4 * k else 4 * k) else if i = 7 then (if down = true then 508 + 4 * free - 4 * k else 768 - 4 * free + 4 * k) else 0
def rwS (c free k : Int) (down : Bool) (pc : Int) : St := ⟨rwR c free k down, pc, false, false, false, false, false, false, down, 0⟩
structure RwK (c free k : Int) : Prop where
 hc : 0 ≤ c ∧ c < 16
 hf : 0 ≤ free ∧ free < 16
 hk : 0 ≤ k ∧ k ≤ c ∧ k ≤ free
theorem rwS_ok {c free k : Int} (h : RwK c free k) (down : Bool) : (rwS c free k down 0).Ok := by
 obtain ⟨h1, h2, h3⟩ := h
 refine ⟨fun i => ?_, by show (0 : Int) ≤ 0 ∧ (0 : Int) < 4294967296; decide, by show (0 : Int) ≤ 0 ∧ (0 : Int) < 18446744073709551616; decide⟩
 show 0 ≤ rwR c free k down i ∧ rwR c free k down i < 4294967296
 unfold rwR
 cases down <;> simp only [if_true, if_false, Bool.false_eq_true] <;> (repeat' split) <;> omega
structure RwM (M : Mem) : Prop where
 r0 : M.R 0 = 7
 r1 : M.R 1 = 0
 r2 : M.R 2 = 3
 r3 : M.R 3 = 0
theorem RwM.of {M N : Mem} (h : RwM M) (e : N.R = M.R) : RwM N := ⟨by rw [e]; exact h.r0, by rw [e]; exact h.r1, by rw [e]; exact h.r2, by rw [e]; exact h.r3⟩
theorem Yja (M : Mem) (x b v : Int) : (M.writeM x b v).R = M.R := by
 unfold Mem.writeM; split
 ·exact Mem.putN_R M x v _
 ·rfl
section
variable {M : Mem} {x : Int}
theorem RwM.read (h : RwM M) (h0 : 0 ≤ x) (h1 : x + 4 ≤ 256) : M.readK x 4 1 = true := by
 obtain ⟨n, rfl⟩ : ∃ n : Nat, x = n := ⟨x.toNat, by omega⟩
 have en : (Yay 4).toNat = 4 := by decide
 have h1 : M.bad ((n : Nat) : Int) (Ybe 1) (Yay 4).toNat = none := Ygk M n _ _ (by rw [en]; omega) fun t ht => by
  rw [en] at ht; rw [show (n + t) / 256 = 0 by omega, h.r0]; decide
 exact (Mem.read_none h1).2.2
theorem RwM.write (h : RwM M) (h0 : 512 ≤ x) (h1 : x + 4 ≤ 768) : M.writeK x 4 = true := by
 obtain ⟨n, rfl⟩ : ∃ n : Nat, x = n := ⟨x.toNat, by omega⟩
 have en : (Yay 4).toNat = 4 := by decide
 have h1 : M.bad ((n : Nat) : Int) 2 (Yay 4).toNat = none := Ygk M n _ _ (by rw [en]; omega) fun t ht => by
  rw [en] at ht; rw [show (n + t) / 256 = 2 by omega, h.r2]; decide
 exact (Mem.write_none h1).2.1
theorem RwM.none (h : RwM M) (hx : x = 768 ∨ x = 508) : M.bad x 2 (Yay 4).toNat = some 0 := by
 have en : (Yay 4).toNat = 4 := by decide
 rw [en, Mem.bad, List.find?_range_eq_some]
 refine ⟨?_, by simp, fun t ht => by omega⟩
 have : M.can (Yab x (0 : Nat)) 2 = false := by
  unfold Mem.can
  rcases hx with rfl | rfl
  ·rw [show ((Yab 768 (0 : Nat)) / 256).toNat = 3 by decide, h.r3]; rfl
  ·rw [show ((Yab 508 (0 : Nat)) / 256).toNat = 1 by decide, h.r1]; rfl
 rw [this]; rfl
theorem RwM.nowr (h : RwM M) (hx : x = 768 ∨ x = 508) : M.writeK x 4 = false ∧ M.wrF x 4 = ⟨1, 0, x, 2⟩ ∧ ∀ v, M.writeM x 4 v = M := by
 have hb := h.none hx
 refine ⟨?_, ?_, fun v => ?_⟩
 ·unfold Mem.writeK; rw [hb]; rfl
 ·unfold Mem.wrF; rw [hb]
  show (⟨1, 0, Yab x (0 : Nat), 2⟩ : Flt) = _
  rw [show Yab x (0 : Nat) = x by rcases hx with rfl | rfl <;> decide]
 ·unfold Mem.writeM; rw [hb]
end
def rwI : Ins := ⟨41, 0, Opd.none, Opd.none, true, 2⟩
def RwT (c free k : Int) (down : Bool) (T : St) (F : Flt) (ok : Bool) : Prop :=
 (ok = false ∧ T = rwS c free k down 0 ∧ F.k = 1 ∧ k = free ∧ free < c) ∨
 (ok = true ∧ T.pc = 2 ∧ T.R 1 = 0 ∧ c ≤ free) ∨
 (ok = true ∧ T = rwS c free (k + 1) down 0 ∧ k + 1 < c ∧ k < free)
theorem Ykv (M : Mem) (s : St) : Yeq M s rwI = if s.R 1 = 0 then okO s M else
   if (Ybv M s).k = true then
    (if ((Ybv M s).s.R 1 - 1) % 4294967296 = 0 then okO ((Ybv M s).s.setR 1 (((Ybv M s).s.R 1 - 1) % 4294967296)) (Ybv M s).M
    else okO { (Ybv M s).s.setR 1 (((Ybv M s).s.R 1 - 1) % 4294967296) with pc := ((Ybv M s).s.pc - rwI.len) % 4294967296 } (Ybv M s).M)
   else badO (Ybv M s).F (Ybv M s).M := by
 unfold Yeq repO
 rw [if_pos (show rwI.rep = true from rfl)]
theorem rw_do (c free k : Int) (down : Bool) (hk : RwK c free k) (M : Mem) (hM : RwM M) :
  ∃ T F ok M2, RwT c free k down T F ok ∧ RwM M2 ∧ ∀ (w : World) (p pb : Nat), Yl w p pb M → Calls Tryz.prog 15 #[.pointer (some ⟨p, 0, none⟩), .agg (rwS c free k down 0).cells, .agg rwI.cells] w fun e w' =>
   e = .returned (.tuple #[.agg (St.cells T), F.val, .bool ok]) ∧ Yl w' p pb M2 ∧ Upd [pb] w w' := by
 have hs := rwS_ok hk down
 have hi : rwI.Ok := ⟨noneO, noneO⟩
 obtain ⟨h1, h2, h3⟩ := hk
 have e1 : ((rwS c free k down 0).goOn 2).R 1 = c - k := rfl
 have e6 : ((rwS c free k down 0).goOn 2).R 6 = (if down = true then 60 - 4 * k else 4 * k) := rfl
 have e7 : ((rwS c free k down 0).goOn 2).R 7 = (if down = true then 508 + 4 * free - 4 * k else 768 - 4 * free + 4 * k) := rfl
 by_cases h0 : c - k = 0
 ·refine ⟨(rwS c free k down 0).goOn 2, Flt.zero, true, M, .inr (.inl ⟨rfl, by show (0 + 2) % 4294967296 = (2 : Int); decide, by rw [e1]; exact h0, by omega⟩), hM, fun w p pb hm => Do_of p pb _ _ _ _ _ _ w hm hs hi (fun d w1 g1 => Yfm d p pb _ _ _ w1 g1 rfl) (?_ : Yeq M ((rwS c free k down 0).goOn 2) rwI = _)⟩
  rw [Ykv, e1, if_pos h0]
 ·have hrd : M.readK (((rwS c free k down 0).goOn 2).R 6) 4 1 = true := by
   rw [e6]; cases down
   ·rw [if_neg (by decide)]; exact hM.read (by omega) (by omega)
   ·rw [if_pos rfl]; exact hM.read (by omega) (by omega)
  by_cases hf : k = free
  ·have hx : ((rwS c free k down 0).goOn 2).R 7 = 768 ∨ ((rwS c free k down 0).goOn 2).R 7 = 508 := by
    rw [e7]; cases down
    ·rw [if_neg (by decide)]; omega
    ·rw [if_pos rfl]; omega
   obtain ⟨n1, n2, n3⟩ := hM.nowr hx
   refine ⟨rwS c free k down 0, { (⟨1, 0, ((rwS c free k down 0).goOn 2).R 7, 2⟩ : Flt) with pc := (rwS c free k down 0).pc }, false, M, .inl ⟨rfl, rfl, rfl, hf, by omega⟩, hM, fun w p pb hm => Do_not p pb _ _ _ _ _ _ w hm hs hi (fun d w1 g1 => Yfm d p pb _ _ _ w1 g1 rfl) (?_ : Yeq M ((rwS c free k down 0).goOn 2) rwI = _)⟩
   rw [Ykv, e1, if_neg h0]
   have hO : Ybv M ((rwS c free k down 0).goOn 2) = badO ⟨1, 0, ((rwS c free k down 0).goOn 2).R 7, 2⟩ M := by
    unfold Ybv
    rw [if_pos hrd, n1, if_neg (by decide), n2, n3]
   rw [hO, if_neg (show ¬ (badO ⟨1, 0, ((rwS c free k down 0).goOn 2).R 7, 2⟩ M).k = true from fun h => by cases h)]
   rfl
  ·have hwr : M.writeK (((rwS c free k down 0).goOn 2).R 7) 4 = true := by
    rw [e7]; cases down
    ·rw [if_neg (by decide)]; exact hM.write (by omega) (by omega)
    ·rw [if_pos rfl]; exact hM.write (by omega) (by omega)
   obtain ⟨M2, hM2⟩ : ∃ M2, M.writeM (((rwS c free k down 0).goOn 2).R 7) 4 (M.readV (((rwS c free k down 0).goOn 2).R 6) 4 1) = M2 := ⟨_, rfl⟩
   have hR : RwM M2 := hM.of (by rw [← hM2]; exact Yja _ _ _ _)
   obtain ⟨T1, hT1⟩ : ∃ T1, ((((rwS c free k down 0).goOn 2).setR 6 ((((rwS c free k down 0).goOn 2).R 6 + Yew ((rwS c free k down 0).goOn 2)) % 4294967296)).setR 7 ((((rwS c free k down 0).goOn 2).R 7 + Yew ((rwS c free k down 0).goOn 2)) % 4294967296)) = T1 := ⟨_, rfl⟩
   have hO : Ybv M ((rwS c free k down 0).goOn 2) = okO T1 M2 := by
    unfold Ybv
    rw [if_pos hrd, if_pos hwr, hM2, hT1]
   have g1 : T1.R 1 = c - k := by rw [← hT1]; rfl
   have gp : T1.pc = 2 := by rw [← hT1]; rfl
   have hrep : Yeq M ((rwS c free k down 0).goOn 2) rwI = if (T1.R 1 - 1) % 4294967296 = 0 then okO (T1.setR 1 ((T1.R 1 - 1) % 4294967296)) M2 else okO { T1.setR 1 ((T1.R 1 - 1) % 4294967296) with pc := (T1.pc - rwI.len) % 4294967296 } M2 := by
    rw [Ykv, e1, if_neg h0, hO, if_pos (show (okO T1 M2).k = true from rfl)]
    rfl
   by_cases hl : c - k - 1 = 0
   ·refine ⟨T1.setR 1 ((T1.R 1 - 1) % 4294967296), Flt.zero, true, M2, .inr (.inl ⟨rfl, gp, ?_, by omega⟩), hR, fun w p pb hm => Do_of p pb _ _ _ _ _ _ w hm hs hi (fun d w1 g1 => Yfm d p pb _ _ _ w1 g1 rfl) (?_ : Yeq M ((rwS c free k down 0).goOn 2) rwI = _)⟩
    ·show (if (1 : Nat) = 1 then (T1.R 1 - 1) % 4294967296 else T1.R 1) = 0
     rw [if_pos rfl, g1]; omega
    ·rw [hrep, if_pos (by rw [g1]; omega)]
   ·refine ⟨rwS c free (k + 1) down 0, Flt.zero, true, M2, .inr (.inr ⟨rfl, rfl, by omega, by omega⟩), hR, fun w p pb hm => Do_of p pb _ _ _ _ _ _ w hm hs hi (fun d w1 g1 => Yfm d p pb _ _ _ w1 g1 rfl) (?_ : Yeq M ((rwS c free k down 0).goOn 2) rwI = _)⟩
    rw [hrep, if_neg (by rw [g1]; omega)]
    have hT : ({ T1.setR 1 ((T1.R 1 - 1) % 4294967296) with pc := (T1.pc - rwI.len) % 4294967296 } : St) = rwS c free (k + 1) down 0 := by
     rw [gp, ← hT1]
     have hr : (fun j => if j = 1 then (c - k - 1) % 4294967296 else if j = 7 then (((rwS c free k down 0).goOn 2).R 7 + Yew ((rwS c free k down 0).goOn 2)) % 4294967296 else if j = 6 then (((rwS c free k down 0).goOn 2).R 6 + Yew ((rwS c free k down 0).goOn 2)) % 4294967296 else rwR c free k down j) = rwR c free (k + 1) down := by
      funext j
      rw [e6, e7]
      unfold rwR
      cases down
      ·rw [show Yew ((rwS c free k false 0).goOn 2) = 4 from rfl]
       simp only [if_false, Bool.false_eq_true]
       (repeat' split) <;> omega
      ·rw [show Yew ((rwS c free k true 0).goOn 2) = 4294967292 from rfl]
       simp only [if_true]
       (repeat' split) <;> omega
     show (⟨fun j => if j = 1 then (c - k - 1) % 4294967296 else if j = 7 then _ else if j = 6 then _ else rwR c free k down j, (2 - 2) % 4294967296, _, _, _, _, _, _, _, _⟩ : St) = _
     rw [hr]
     rfl
    rw [hT]
end
section
open Go.WideShapes Go.ChangeShapes
def Rp (w : World) (v : Value) (l : List Int) (g : Nat) : Prop :=
 (v = .slice none 0 0 ∧ l = []) ∨ ∃ o c C T f, v = .slice (some ⟨g, o, none⟩) l.length c ∧ l.length ≤ c ∧ w.heap[g]? = some (.cells C T f) ∧ ∀ i, i < l.length → C[o + i]? = some (.int .u32 (l.getD i 0))
theorem Rp.form {w : World} {v : Value} {l : List Int} {g : Nat} (h : Rp w v l g) : ∃ b c, v = .slice b l.length c := by
 rcases h with ⟨h1, h2⟩ | ⟨o, c, _, _, _, h1, _⟩
 ·exact ⟨none, 0, by rw [h1, h2]; rfl⟩
 ·exact ⟨_, _, h1⟩
theorem Rp.keep {w w' : World} {v : Value} {l : List Int} {g : Nat} {S : List Nat} (h : Rp w v l g) (u : Upd S w w') (hg : g ∉ S) : Rp w' v l g := by
 rcases h with h | ⟨o, c, C, T, f, h1, h2, h3, h4⟩
 ·exact .inl h
 ·exact .inr ⟨o, c, C, T, f, h1, h2, u.get h3 hg, h4⟩
theorem Rp.old {w w' : World} {v : Value} {l : List Int} {g : Nat} (h : Rp w v l g) (u : Upd [] w w') : Rp w' v l g := h.keep u (by simp)
theorem Rp.cell {w : World} {b : Option Addr} {n c : Nat} {l : List Int} {g : Nat} (h : Rp w (.slice b n c) l g) (hl : 0 < l.length) : ∃ o, b = some ⟨g, o, none⟩ ∧ n = l.length ∧ ∀ i, i < l.length → w.cell? ⟨g, o + i, none⟩ = some (.int .u32 (l.getD i 0)) := by
 rcases h with ⟨h1, h2⟩ | ⟨o, c', C, T, f, h1, h2, h3, h4⟩
 ·rw [h2] at hl; cases hl
 ·injection h1 with e1 e2 e3
  exact ⟨o, e1, e2, fun i hi => by rw [Ya h3]; exact h4 i hi⟩
theorem wf_word {z : Int} (h : (Lit.int .u32 z).wf = true) : 0 ≤ z ∧ z < 4294967296 := by
 simp [Lit.wf, IntKind.min, IntKind.max, IntKind.signed, IntKind.bits] at h
 omega
theorem Yor : Tryz.prog.cellsOf 22 = 1 := by kernel_rfl
theorem Yn7 {H : Type} {enc : TypeId × Value → H} {w : World} {t : TypeId} (ht : Tryz.prog.underlying t = some (.slice 22)) {b0 : Nat} {v : Value} {d : DataW H} {p : List MemPlace}
  (hval : Value.okWide Tryz.prog w .any b0 t v) (h : DataW.Trod enc Tryz.prog w 0 (fun _ => true) true t v d p) : ∃ L g, Rp w v L g ∧ (∀ i, 0 ≤ L.getD i 0 ∧ L.getD i 0 < 4294967296) ∧ (v = .slice none 0 0 ∨ g < w.heap.size) ∧ L.length ≤ maxLen := by
 obtain ⟨a1, len, cap, rfl⟩ := okWide_slice ht hval
 obtain ⟨fuel, hf⟩ := h
 rcases open_ints ht Tryz.underlying22 Yor hf with ⟨hcs, hx⟩ | ⟨a, len', cap', zs, hcs, _, hl, hm, hz, hx, hcell, hwz⟩
 ·simp [Value.cells] at hcs
  obtain ⟨rfl, rfl, rfl⟩ := hcs
  exact ⟨[], 0, .inl ⟨rfl, rfl⟩, fun i => by simp, .inl rfl, Nat.zero_le _⟩
 ·simp [Value.cells] at hcs
  obtain ⟨rfl, rfl, rfl⟩ := hcs
  simp only [if_true] at hz
  simp only [Value.okWide, ht, Cell.okWide, Cell.ok, World.has] at hval
  obtain ⟨_, _, _, hsp, row, cells, hsh, _⟩ := hval
  obtain ⟨ab, ao, spot⟩ := a
  simp only at hsp
  subst hsp
  have hb : ∃ C f, w.heap[ab]? = some (.cells C row f) := by
   unfold World.shape? at hsh
   split at hsh
   ·rename_i c e f hh
    injection hsh with hsh
    injection hsh with h1 _
    subst h1
    exact ⟨c, f, hh⟩
   ·cases hsh
  obtain ⟨C, f, hb⟩ := hb
  have hlen : (zs.take len).length = len := by rw [List.length_take]; omega
  refine ⟨zs.take len, ab, .inr ⟨ao, cap, C, row, f, by rw [hlen], by omega, hb, fun i hi => ?_⟩, fun i => ?_, .inr (Yh hb), by omega⟩
  ·rw [hlen] at hi
   have hc := hcell i (by omega)
   rw [Addr.add_lit, Ya hb] at hc
   rw [hc, List.getD_eq_getElem?_getD, List.getD_eq_getElem?_getD, List.getElem?_take, if_pos hi]
  ·rw [List.getD_eq_getElem?_getD, List.getElem?_take]
   split
   ·by_cases hi : i < zs.length
    ·rw [List.getElem?_eq_getElem hi, Option.getD_some]; exact wf_word (hwz _ (List.getElem_mem hi))
    ·rw [List.getElem?_eq_none (by omega)]; simp
   ·simp
end
section
def rwM1 : Mem := Mem.zero.mapM 0 1 7
def rwM2 : Mem := rwM1.mapM 2 1 3
theorem rw_m1 : Mem.zero.mapB 0 1 7 = true := by decide +kernel
theorem rw_m2 : rwM1.mapB 2 1 3 = true := by decide +kernel
theorem rw_m3 : RwM rwM2 := ⟨by decide +kernel, by decide +kernel, by decide +kernel, by decide +kernel⟩
theorem RwM.wr {M : Mem} (h : RwM M) (x b v : Int) : RwM (M.writeM x b v) := h.of (Yja M x b v)
theorem rw_start (c free : Int) (down : Bool) : ((({ St.zero with df := down } : St).setR 1 c).setR 7 (768 - 4 * free)) = (if down = true then ((({ St.zero with df := down } : St).setR 1 c).setR 7 (768 - 4 * free)) else rwS c free 0 down 0) := by
 cases down
 ·rw [if_neg (by decide)]
  have hr : (fun j => if j = 7 then 768 - 4 * free else if j = 1 then c else (0 : Int)) = rwR c free 0 false := by
   funext j; unfold rwR; simp only [Bool.false_eq_true, if_false]; (repeat' split) <;> omega
  show (⟨fun j => if j = 7 then 768 - 4 * free else if j = 1 then c else 0, _, _, _, _, _, _, _, _, _⟩ : St) = _
  rw [hr]; rfl
 ·rw [if_pos rfl]
theorem Yo4 (c free x : Int) : ((((({ St.zero with df := true } : St).setR 1 c).setR 7 x).setR 6 60).setR 7 (508 + 4 * free)) = rwS c free 0 true 0 := by
 have hr : (fun j => if j = 7 then 508 + 4 * free else if j = 6 then 60 else if j = 7 then x else if j = 1 then c else (0 : Int)) = rwR c free 0 true := by
  funext j; unfold rwR; simp only [if_true]; (repeat' split) <;> omega
 show (⟨fun j => if j = 7 then 508 + 4 * free else if j = 6 then 60 else if j = 7 then x else if j = 1 then c else 0, _, _, _, _, _, _, _, _, _⟩ : St) = _
 rw [hr]; rfl
section
variable {w w1 w2 : World} {p pb g n : Nat} {M : Mem} {L : List (Nat × Obj)} {T : St} {c : Array Value} {t : TypeId}
theorem Kq.lay (h : Kq w p pb M L w1) (c : Array Value) (t : TypeId) : Kq w p pb M ((w1.heap.size, .cells c t (0, 0)) :: L) (w1.alloc (.cells c t)) :=
 (h.quiet ((Upd.refl [] w1).alloc _)).add h.u.size ⟨fun q hq => Nat.ne_of_lt (h.lts.1 q hq), Nat.ne_of_gt h.lts.2.2, Nat.ne_of_gt h.lts.2.1⟩ (heap_alloc_new _ _)
theorem Kq.tail {x : Nat × Obj} (h : Kq w p pb M (x :: L) w1) : Kq w p pb M L w1 := ⟨h.m, h.u, fun q hq => h.v q (by simp [hq]), (List.pairwise_cons.1 h.s).2, fun q hq => h.t q (by simp [hq]), h.l, fun q hq => h.w q (by simp [hq])⟩
theorem Kq.putS (h : Kq w p pb M L w1) (n : Nat) (hn : L[n]? = some (g, .cells c 28 (0, 0))) (hc : c.size = 17) (hw : w1.setCells g 0 T.cells.toList = w2) : Kq w p pb M (L.set n (g, .cells T.cells 28 (0, 0))) w2 := by
 subst hw
 refine h.put n hn ((Upd.refl [g] w1).setCells (q := g) (.inl (by simp)) T.cells.toList 0) ?_
 rw [Yz _ _ _ _ (h.get n hn), wr_st _ T hc]
theorem Kq.putIns {i : Ins} (h : Kq w p pb M L w1) (n : Nat) (hn : L[n]? = some (g, .cells c 41 (0, 0))) (hc : c.size = 16) (hw : w1.setCells g 0 i.cells.toList = w2) : Kq w p pb M (L.set n (g, .cells i.cells 41 (0, 0))) w2 := by
 subst hw
 refine h.put n hn ((Upd.refl [g] w1).setCells (q := g) (.inl (by simp)) i.cells.toList 0) ?_
 rw [Yz _ _ _ _ (h.get n hn), Ygn _ i hc]
end
theorem Yjg (n0 room : Int) (down : Bool) (v : Value) (V : List Int) (g : Nat) (w : World) (hn0 : 0 ≤ n0 ∧ n0 < 256) (hroom : 0 ≤ room ∧ room < 256) (hV : Rp w v V g) (hr : ∀ i, 0 ≤ V.getD i 0 ∧ V.getD i 0 < 4294967296) (hlen : V.length ≤ maxLen) :
  Calls Tryz.prog 4 #[.int .u8 n0, .int .u8 room, .bool down, v] w fun e w' => e = .returned (.bool true) ∧ Upd [] w w' := by
 obtain ⟨b, cp, rfl⟩ := hV.form
 obtain ⟨ln, hln⟩ : ∃ ln : Int, ln = V.length := ⟨_, rfl⟩
 have h0 : 0 ≤ ln := by omega
 rw [show (Value.slice b V.length cp) = .slice b ln.toNat cp by rw [hln]; rfl]
 have hcast : ((ln.toNat : Nat) : Int) = ln := by omega
 have HV := Yh_ (And.intro hV (And.intro hr hln))
 obtain ⟨c, hc⟩ : ∃ c, n0 % 16 = c := ⟨_, rfl⟩
 obtain ⟨free, hfr⟩ : ∃ free, room % 16 = free := ⟨_, rfl⟩
 have e3 : n0.tmod 16 = c := by rw [Int.tmod_eq_emod_of_nonneg hn0.1]; exact hc
 have e4 : room.tmod 16 = free := by rw [Int.tmod_eq_emod_of_nonneg hroom.1]; exact hfr
 have hcr : 0 ≤ c ∧ c < 16 := by omega
 have hfr' : 0 ≤ free ∧ free < 16 := by omega
 have e5 : c % 4294967296 = c := by omega
 have e6 : free % 4294967296 = free := by omega
 have HCF := Yh_ (And.intro hcr hfr')
 have tok : True := trivial
 clear hV hr hln hlen hc hfr hn0 hroom

 by_cases hbig : 16 < ln
 ·have d1 : decide ((16 : Int) < ln) = true := by simp [hbig]
  go_enter Tryz.func4, Tryz.ntmps4
  go_wp2_with (first | (have _t := tok; clear _t; go_at_call 12; refine (Yhi _).mono ?_; rintro e w0 ⟨rfl, hu0⟩; clear tok))
  go_ret
  exact ⟨rfl, hu0⟩
 have d1 : decide ((16 : Int) < ln) = false := by simp; omega
 have hl16 : 0 ≤ ln ∧ ln ≤ 16 := by omega
 have HL := Yh_ hl16
 clear hbig h0 hl16 hcr hfr'
 go_enter Tryz.func4, Tryz.ntmps4
 go_wp2_with (first | (have _t := tok; clear _t; go_at_call 12; refine (Yhi _).mono ?_; rintro e w0 ⟨rfl, hu0⟩; clear tok) | (have _t := hu0; clear _t; go_at_call 13; refine (Ynj _).mono ?_; rintro e w1 ⟨p, pb, rfl, ha, hp, hM1, hu1⟩; have K0 := Yh_ (show Kn w p pb Mem.zero [] w1 from Kn.start0 hu0 ha hp hM1 hu1); clear hu0 hu1 ha hp hM1) | (have _t := K0; clear _t; go_at_call 14; refine (Yir Mem.zero p pb 0 1 7 _ K0.out.m (by decide)).mono ?_; rintro e w11 ⟨rfl, hm, hu⟩; rw [show Mem.zero.mapB 0 1 7 = true from rw_m1, Yf8]; have K1 := Yh_ (show Kn w p pb rwM1 [] w11 from K0.out.step hm hu); clear hm hu K0 ) | (have _t := K1; clear _t; go_at_call 14; refine (Yir rwM1 p pb 2 1 3 _ K1.out.m (by decide)).mono ?_; rintro e w12 ⟨rfl, hm, hu⟩; rw [show rwM1.mapB 2 1 3 = true from rw_m2, Yf8]; have K2 := Yh_ (show Kn w p pb rwM2 [] w12 from K1.out.step hm hu); clear hm hu K1 ))
 go_loopw [10] (fun i wr => ∃ k : Int, ∃ M, i = .int .i64 k ∧ Hid (0 ≤ k ∧ k ≤ ln) ∧ Hid (RwM M) ∧ Hid (Kn w p pb M [] wr)) (fun i _ => (ln - intOf i).toNat)
 case atStart => exact ⟨0, rwM2, rfl, Yh_ ⟨Int.le_refl _, HL.out.1⟩, Yh_ rw_m3, K2⟩
 case round =>
  obtain ⟨k, M, rfl, hk, hM, hK⟩ := hrel
  by_cases hlt : k < ln
  ·have dlt : decide (k < ln) = true := by simp [hlt]
   have hkk := hk.out
   have hll := HL.out
   obtain ⟨o, hb, _, hcell⟩ := HV.out.1.cell (by have := HV.out.2.2; omega)
   subst hb
   obtain ⟨vk, hvk⟩ : ∃ vk, V.getD k.toNat 0 = vk := ⟨_, rfl⟩
   have hvr := HV.out.2.1 k.toNat
   rw [hvk] at hvr
   have hck : wr.cell? ⟨g, o + k.toNat, none⟩ = some (.int .u32 vk) := by
    obtain ⟨o', ho', _, hc'⟩ := (HV.out.1.old hK.out.u).cell (by have := HV.out.2.2; omega)
    injection ho' with ho'
    injection ho' with _ ho' _
    rw [ho', hc' k.toNat (by have := HV.out.2.2; omega), hvk]
   obtain ⟨y, hy⟩ : ∃ y, 4 * k = y := ⟨_, rfl⟩
   have e7 : wrap64 y = y := by unfold wrap64; omega
   have e8 : y % 4294967296 = y := by omega
   have HY := Yh_ (show (0 ≤ y ∧ y < 4294967296) ∧ (0 ≤ vk ∧ vk < 4294967296) from ⟨by omega, hvr⟩)
   have b1 : 0 ≤ k ∧ k < ln := by omega
   have HB1 := Yh_ b1
   clear hcell hvk hvr hll hkk
   go_wp2_with (have _t := hM; clear _t; go_at_call 16; refine (Yep M p pb y 4 vk _ hK.out.m HY.out.1.1 HY.out.1.2 HY.out.2.1 HY.out.2.2).mono ?_; rintro e w13 ⟨rfl, hm, hu⟩; have K3 := Yh_ (hK.out.step hm hu); clear hm hu hK)
   go_roundw
   case rel => exact ⟨k + 1, M.writeM y 4 vk, by go_num, Yh_ ⟨by have := HB1.out; omega, by have := HB1.out; omega⟩, Yh_ (hM.out.wr y 4 vk), K3⟩
   case measure => have := HB1.out; simp only [intOf]; omega
  ·have hkn : k = ln := by have := hk.out; omega
   subst hkn
   clear hlt hk
   have dlt : decide (k < k) = false := by simp
   obtain ⟨f4, hf4⟩ : ∃ f4, 4 * free = f4 := ⟨_, rfl⟩
   have g1 : f4 % 4294967296 = f4 := by have := HCF.out.2; omega
   obtain ⟨d7, hd7⟩ : ∃ d7, 768 - f4 = d7 := ⟨_, rfl⟩
   have g2 : (768 - f4) % 4294967296 = d7 := by have := HCF.out.2; omega
   have g2' : d7 % 4294967296 = d7 := by have := HCF.out.2; omega
   obtain ⟨f5, hf5⟩ : ∃ f5, 512 + f4 = f5 := ⟨_, rfl⟩
   have g3 : f5 % 4294967296 = f5 := by have := HCF.out.2; omega
   obtain ⟨d8, hd8⟩ : ∃ d8, f5 - 4 = d8 := ⟨_, rfl⟩
   have g4 : d8 % 4294967296 = d8 := by have := HCF.out.2; omega
   have HD := Yh_ (show d7 = 768 - 4 * free ∧ d8 = 508 + 4 * free from ⟨by omega, by omega⟩)
   have Q0 := Yh_ ((Kq.of hK.out).lay St.zero.cells 28)
   have HW := Yh_ (show wr.heap.size = wr.heap.size from rfl)
   clear hK dlt
   cases down
   ·have ts : True := trivial
    go_upto_region 18 with (have _t := ts; clear _t ts; refine Yd 28 rfl ?_; refine Yag ({ St.zero with df := false } : St) wr.heap.size rfl _ _ rfl rfl rfl (heap_alloc_new wr (.cells St.zero.cells 28)) rfl ?_; intro w14 hw; have Q1 := Yh_ (show Kq w p pb M [(wr.heap.size, .cells ({ St.zero with df := false } : St).cells 28 (0, 0))] w14 from Q0.out.putS 0 rfl rfl hw); have cs := Ya (Q1.out.get 0 rfl); have fs := Yi (Q1.out.get 0 rfl); clear hw Q0)
    have hk := ((Q1.out.putR 0 rfl 1 (by decide) c).putR 0 rfl 7 (by decide) d7)
    dsimp only [List.set] at hk
    rw [show ((({ St.zero with df := false } : St).setR 1 c).setR 7 d7) = rwS c free 0 false 0 by rw [HD.out.1]; exact (rw_start c free false).trans (if_neg (by decide))] at hk
    generalize ((w14.setCell ⟨wr.heap.size, 1, none⟩ (.int .u32 c)).setCell ⟨wr.heap.size, 7, none⟩ (.int .u32 d7)) = w15 at hk ⊢
    generalize wr.heap.size = sb at hk ⊢
    have Q2 := Yh_ (hk.lay Ins.zero.cells 41)
    have tI : True := trivial
    clear hk Q1 cs fs HW HD g1 g2 g2' g3 g4 hf4 hd7 hf5 hd8
    go_wp2_with (have _t := tI; clear _t tI; refine Yd 41 rfl ?_; refine Yc rwI w15.heap.size rfl _ _ rfl rfl rfl (Q2.out.get 0 rfl) rfl ?_; intro w16 hw; have Q3 := Yh_ (show Kq w p pb M [(w15.heap.size, .cells rwI.cells 41 (0, 0)), (sb, .cells (rwS c free 0 false 0).cells 28 (0, 0))] w16 from Q2.out.putIns 0 rfl rfl hw); clear hw Q2)
    go_loopw [15, 16] (fun d i w17 => ∃ k : Int, ∃ M, d = .int .u32 k ∧ i = .int .i64 k ∧ Hid (RwK c free k) ∧ Hid (RwM M) ∧ Hid (Kq w p pb M [(w15.heap.size, .cells rwI.cells 41 (0, 0)), (sb, .cells (rwS c free k false 0).cells 28 (0, 0))] w17)) (fun _ i _ => (20 - intOf i).toNat)
    case atStart => exact ⟨0, M, rfl, rfl, Yh_ ⟨HCF.out.1, HCF.out.2, by have := HCF.out; omega⟩, hM, Q3⟩
    case round =>
     clear Q3 hM
     obtain ⟨q, N, rfl, rfl, hq, hN, hQ⟩ := hrel
     obtain ⟨hq1, hq2, hq3⟩ := hq.out
     have dl2 : decide (q < 20) = true := by simp; omega
     have q1 : (q + 1) % 4294967296 = q + 1 := by omega
     clear hq1 hq2 hq3
     obtain ⟨T, F, ok, N2, hT, hN2, hD⟩ := rw_do c free q false hq.out N hN.out
     have HT := Yh_ hT
     have HN2 := Yh_ hN2
     have HDo := Yh_ hD
     have tl : True := trivial
     have ti : True := trivial
     have td : True := trivial
     clear hT hN2 hD
     go_upto_region 24 with (first | (have _t := tl; clear _t tl; refine Yaj 28 rfl ?_; refine Ys (rwS c free q false 0) sb rfl _ rfl rfl (hQ.out.get 1 rfl) ?_) | (have _t := ti; clear _t ti; refine Yaj 41 rfl ?_; refine Yal rwI w15.heap.size rfl _ rfl rfl (hQ.out.get 0 rfl) ?_) | (have _t := td; clear _t td; go_at_call 15; refine (HDo.out _ p pb hQ.out.m).mono ?_; rintro e w20 ⟨rfl, hm, hu⟩; unfold Flt.val; have Q4 := Yh_ (show Kq w p pb N2 [(w15.heap.size, .cells rwI.cells 41 (0, 0)), (sb, .cells (rwS c free q false 0).cells 28 (0, 0))] w20 from hQ.out.step hm hu); clear hm hu hQ) | (have _t := Q4; clear _t; refine Yd 28 rfl ?_; refine Yag T w20.heap.size rfl _ _ rfl rfl rfl (heap_alloc2_old w20 (.cells St.zero.cells 28) (.cells #[.int .i64 0, .int .u32 0, .int .u32 0, .int .i64 0] 35)) rfl ?_; intro w21 hw; have h2 := Yf2 hw; have h3 := Q4.out.two (F := F) h2; have ft := Yi h2.2.1; have ct := Ya h2.2.1; have Q5 := Yh_ h3; clear hw h2 h3 Q4))
     clear ft ct
     generalize ((((w21.setCell ⟨w20.heap.size + 1, 0, none⟩ (.int .i64 F.k)).setCell ⟨w20.heap.size + 1, 1, none⟩ (.int .u32 F.pc)).setCell ⟨w20.heap.size + 1, 2, none⟩ (.int .u32 F.a)).setCell ⟨w20.heap.size + 1, 3, none⟩ (.int .i64 F.wt)) = w22 at Q5 ⊢
     rcases HT.out with ⟨rfl, rfl, hF, hqf, hfc⟩ | ⟨rfl, hp, h1, hcf⟩ | ⟨rfl, rfl, hkc, hkf⟩
     ·have z1 : (q == free) = true := by simp [hqf]
      have z2 : decide (free < c) = true := by simp [hfc]
      have z3 : (c - free) % 4294967296 = c - q := by have := HCF.out; omega
      have y1 : w22.cell? ⟨w20.heap.size + 1, 0, none⟩ = some (.int .i64 1) := (Ya (Q5.out.get 0 rfl) 0).trans (by show some (Value.int .i64 F.k) = _; rw [hF])
      have y2 : w22.cell? ⟨sb, 1, none⟩ = some (.int .u32 (c - q)) := Ya (Q5.out.get 3 rfl) 1
      have he := Yi2 (rwS c free q false 0)
      have t1 : True := trivial
      have t2 : True := trivial
      clear hF hqf hfc HT
      go_wp2_with (first | (have _t := t1; clear _t t1; refine Yaj 28 rfl ?_; refine Ycr (rwS c free q false 0) w20.heap.size rfl _ rfl rfl (Q5.out.get 1 rfl) ?_) | (have _t := t2; clear _t t2; refine Yaj 28 rfl ?_; refine Ycr (rwS c free q false 0) sb rfl _ rfl rfl (Q5.out.get 3 rfl) ?_))
      go_ret
      exact ⟨rfl, Q5.out.u⟩
     ·have z2 : decide (c ≤ free) = true := by simp [hcf]
      have y1 : w22.cell? ⟨w20.heap.size, 8, none⟩ = some (.int .u32 2) := (Ya (Q5.out.get 1 rfl) 8).trans (by show some (Value.int .u32 T.pc) = _; rw [hp])
      have y2 : w22.cell? ⟨w20.heap.size, 1, none⟩ = some (.int .u32 0) := ((Ya (Q5.out.get 1 rfl) 1).trans (St.cR T 1 (by decide))).trans (by rw [h1])
      have y3 : w22.cell? ⟨sb, 8, none⟩ = some (.int .u32 0) := Ya (Q5.out.get 3 rfl) 8
      clear hp h1 hcf HT
      go_wp2_with fail
      go_ret
      exact ⟨rfl, Q5.out.u⟩
     ·have HK := Yh_ (show RwK c free (q + 1) from ⟨hq.out.hc, hq.out.hf, by have := hq.out.hk; omega⟩)
      clear hkc hkf HT
      have y1 : w22.cell? ⟨w20.heap.size, 8, none⟩ = some (.int .u32 0) := Ya (Q5.out.get 1 rfl) 8
      have y3 : w22.cell? ⟨sb, 8, none⟩ = some (.int .u32 0) := Ya (Q5.out.get 3 rfl) 8
      have t1 : True := trivial
      go_wp2_with (first | (have _t := t1; clear _t t1; refine Yaj 28 rfl ?_; refine Ys (rwS c free (q + 1) false 0) w20.heap.size rfl _ rfl rfl (Q5.out.get 1 rfl) ?_) | (have _t := Q5; clear _t; refine Yd 28 rfl ?_; refine Yag (rwS c free (q + 1) false 0) sb rfl _ _ rfl rfl rfl (Q5.out.get 3 rfl) rfl ?_; intro w23 hw; have Q6 := Yh_ (show Kq w p pb N2 [(w20.heap.size + 1, .cells (Yac F) 35 (0, 0)), (w20.heap.size, .cells (St.cells (rwS c free (q + 1) false 0)) 28 (0, 0)), (w15.heap.size, .cells rwI.cells 41 (0, 0)), (sb, .cells (rwS c free (q + 1) false 0).cells 28 (0, 0))] w23 from Q5.out.putS 3 rfl rfl hw); clear hw Q5))
      go_roundw
      case rel => exact ⟨q + 1, N2, by go_num, by go_num, HK, HN2, Yh_ Q6.out.tail.tail⟩
      case measure => have := HK.out; obtain ⟨_, _, _⟩ := this; simp only [intOf]; omega
   ·have ts : True := trivial
    go_upto_region 18 with (have _t := ts; clear _t ts; refine Yd 28 rfl ?_; refine Yag ({ St.zero with df := true } : St) wr.heap.size rfl _ _ rfl rfl rfl (heap_alloc_new wr (.cells St.zero.cells 28)) rfl ?_; intro w14 hw; have Q1 := Yh_ (show Kq w p pb M [(wr.heap.size, .cells ({ St.zero with df := true } : St).cells 28 (0, 0))] w14 from Q0.out.putS 0 rfl rfl hw); have cs := Ya (Q1.out.get 0 rfl); have fs := Yi (Q1.out.get 0 rfl); clear hw Q0)
    have hk := ((((Q1.out.putR 0 rfl 1 (by decide) c).putR 0 rfl 7 (by decide) d7).putR 0 rfl 6 (by decide) 60).putR 0 rfl 7 (by decide) d8)
    dsimp only [List.set] at hk
    rw [show ((((({ St.zero with df := true } : St).setR 1 c).setR 7 d7).setR 6 60).setR 7 d8) = rwS c free 0 true 0 by rw [HD.out.2]; exact Yo4 c free d7] at hk
    generalize ((((w14.setCell ⟨wr.heap.size, 1, none⟩ (.int .u32 c)).setCell ⟨wr.heap.size, 7, none⟩ (.int .u32 d7)).setCell ⟨wr.heap.size, 6, none⟩ (.int .u32 60)).setCell ⟨wr.heap.size, 7, none⟩ (.int .u32 d8)) = w15 at hk ⊢
    generalize wr.heap.size = sb at hk ⊢
    have Q2 := Yh_ (hk.lay Ins.zero.cells 41)
    have tI : True := trivial
    clear hk Q1 cs fs HW HD g1 g2 g2' g3 g4 hf4 hd7 hf5 hd8
    go_wp2_with (have _t := tI; clear _t tI; refine Yd 41 rfl ?_; refine Yc rwI w15.heap.size rfl _ _ rfl rfl rfl (Q2.out.get 0 rfl) rfl ?_; intro w16 hw; have Q3 := Yh_ (show Kq w p pb M [(w15.heap.size, .cells rwI.cells 41 (0, 0)), (sb, .cells (rwS c free 0 true 0).cells 28 (0, 0))] w16 from Q2.out.putIns 0 rfl rfl hw); clear hw Q2)
    go_loopw [15, 16] (fun d i w17 => ∃ k : Int, ∃ M, d = .int .u32 k ∧ i = .int .i64 k ∧ Hid (RwK c free k) ∧ Hid (RwM M) ∧ Hid (Kq w p pb M [(w15.heap.size, .cells rwI.cells 41 (0, 0)), (sb, .cells (rwS c free k true 0).cells 28 (0, 0))] w17)) (fun _ i _ => (20 - intOf i).toNat)
    case atStart => exact ⟨0, M, rfl, rfl, Yh_ ⟨HCF.out.1, HCF.out.2, by have := HCF.out; omega⟩, hM, Q3⟩
    case round =>
     clear Q3 hM
     obtain ⟨q, N, rfl, rfl, hq, hN, hQ⟩ := hrel
     obtain ⟨hq1, hq2, hq3⟩ := hq.out
     have dl2 : decide (q < 20) = true := by simp; omega
     have q1 : (q + 1) % 4294967296 = q + 1 := by omega
     clear hq1 hq2 hq3
     obtain ⟨T, F, ok, N2, hT, hN2, hD⟩ := rw_do c free q true hq.out N hN.out
     have HT := Yh_ hT
     have HN2 := Yh_ hN2
     have HDo := Yh_ hD
     have tl : True := trivial
     have ti : True := trivial
     have td : True := trivial
     clear hT hN2 hD
     go_upto_region 24 with (first | (have _t := tl; clear _t tl; refine Yaj 28 rfl ?_; refine Ys (rwS c free q true 0) sb rfl _ rfl rfl (hQ.out.get 1 rfl) ?_) | (have _t := ti; clear _t ti; refine Yaj 41 rfl ?_; refine Yal rwI w15.heap.size rfl _ rfl rfl (hQ.out.get 0 rfl) ?_) | (have _t := td; clear _t td; go_at_call 15; refine (HDo.out _ p pb hQ.out.m).mono ?_; rintro e w20 ⟨rfl, hm, hu⟩; unfold Flt.val; have Q4 := Yh_ (show Kq w p pb N2 [(w15.heap.size, .cells rwI.cells 41 (0, 0)), (sb, .cells (rwS c free q true 0).cells 28 (0, 0))] w20 from hQ.out.step hm hu); clear hm hu hQ) | (have _t := Q4; clear _t; refine Yd 28 rfl ?_; refine Yag T w20.heap.size rfl _ _ rfl rfl rfl (heap_alloc2_old w20 (.cells St.zero.cells 28) (.cells #[.int .i64 0, .int .u32 0, .int .u32 0, .int .i64 0] 35)) rfl ?_; intro w21 hw; have h2 := Yf2 hw; have h3 := Q4.out.two (F := F) h2; have ft := Yi h2.2.1; have ct := Ya h2.2.1; have Q5 := Yh_ h3; clear hw h2 h3 Q4))
     clear ft ct
     generalize ((((w21.setCell ⟨w20.heap.size + 1, 0, none⟩ (.int .i64 F.k)).setCell ⟨w20.heap.size + 1, 1, none⟩ (.int .u32 F.pc)).setCell ⟨w20.heap.size + 1, 2, none⟩ (.int .u32 F.a)).setCell ⟨w20.heap.size + 1, 3, none⟩ (.int .i64 F.wt)) = w22 at Q5 ⊢
     rcases HT.out with ⟨rfl, rfl, hF, hqf, hfc⟩ | ⟨rfl, hp, h1, hcf⟩ | ⟨rfl, rfl, hkc, hkf⟩
     ·have z1 : (q == free) = true := by simp [hqf]
      have z2 : decide (free < c) = true := by simp [hfc]
      have z3 : (c - free) % 4294967296 = c - q := by have := HCF.out; omega
      have y1 : w22.cell? ⟨w20.heap.size + 1, 0, none⟩ = some (.int .i64 1) := (Ya (Q5.out.get 0 rfl) 0).trans (by show some (Value.int .i64 F.k) = _; rw [hF])
      have y2 : w22.cell? ⟨sb, 1, none⟩ = some (.int .u32 (c - q)) := Ya (Q5.out.get 3 rfl) 1
      have he := Yi2 (rwS c free q true 0)
      have t1 : True := trivial
      have t2 : True := trivial
      clear hF hqf hfc HT
      go_wp2_with (first | (have _t := t1; clear _t t1; refine Yaj 28 rfl ?_; refine Ycr (rwS c free q true 0) w20.heap.size rfl _ rfl rfl (Q5.out.get 1 rfl) ?_) | (have _t := t2; clear _t t2; refine Yaj 28 rfl ?_; refine Ycr (rwS c free q true 0) sb rfl _ rfl rfl (Q5.out.get 3 rfl) ?_))
      go_ret
      exact ⟨rfl, Q5.out.u⟩
     ·have z2 : decide (c ≤ free) = true := by simp [hcf]
      have y1 : w22.cell? ⟨w20.heap.size, 8, none⟩ = some (.int .u32 2) := (Ya (Q5.out.get 1 rfl) 8).trans (by show some (Value.int .u32 T.pc) = _; rw [hp])
      have y2 : w22.cell? ⟨w20.heap.size, 1, none⟩ = some (.int .u32 0) := ((Ya (Q5.out.get 1 rfl) 1).trans (St.cR T 1 (by decide))).trans (by rw [h1])
      have y3 : w22.cell? ⟨sb, 8, none⟩ = some (.int .u32 0) := Ya (Q5.out.get 3 rfl) 8
      clear hp h1 hcf HT
      go_wp2_with fail
      go_ret
      exact ⟨rfl, Q5.out.u⟩
     ·have HK := Yh_ (show RwK c free (q + 1) from ⟨hq.out.hc, hq.out.hf, by have := hq.out.hk; omega⟩)
      clear hkc hkf HT
      have y1 : w22.cell? ⟨w20.heap.size, 8, none⟩ = some (.int .u32 0) := Ya (Q5.out.get 1 rfl) 8
      have y3 : w22.cell? ⟨sb, 8, none⟩ = some (.int .u32 0) := Ya (Q5.out.get 3 rfl) 8
      have t1 : True := trivial
      go_wp2_with (first | (have _t := t1; clear _t t1; refine Yaj 28 rfl ?_; refine Ys (rwS c free (q + 1) true 0) w20.heap.size rfl _ rfl rfl (Q5.out.get 1 rfl) ?_) | (have _t := Q5; clear _t; refine Yd 28 rfl ?_; refine Yag (rwS c free (q + 1) true 0) sb rfl _ _ rfl rfl rfl (Q5.out.get 3 rfl) rfl ?_; intro w23 hw; have Q6 := Yh_ (show Kq w p pb N2 [(w20.heap.size + 1, .cells (Yac F) 35 (0, 0)), (w20.heap.size, .cells (St.cells (rwS c free (q + 1) true 0)) 28 (0, 0)), (w15.heap.size, .cells rwI.cells 41 (0, 0)), (sb, .cells (rwS c free (q + 1) true 0).cells 28 (0, 0))] w23 from Q5.out.putS 3 rfl rfl hw); clear hw Q5))
      go_roundw
      case rel => exact ⟨q + 1, N2, by go_num, by go_num, HK, HN2, Yh_ Q6.out.tail.tail⟩
      case measure => have := HK.out; obtain ⟨_, _, _⟩ := this; simp only [intOf]; omega
end
end Go.Proofs.YthakgjpejhjaoaaGreat
