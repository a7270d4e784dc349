/-
  Parts of the proof (their names shortened by a program). No condition.
-/
import Derived.Test.YthakgjpejhjaoaaGreatMg01
import Derived.Test.YthakgjpejhjaoaaGreatMg22
import Derived.Test.YthakgjpejhjaoaaGreatMg04
import Derived.Test.YthakgjpejhjaoaaGreatMg21
namespace Go.Proofs.YthakgjpejhjaoaaGreat
open Go Go.RowKit
set_option linter.unusedVariables false
set_option linter.unusedSimpArgs false
set_option maxRecDepth 100000
set_option maxHeartbeats 16000000
section
structure Kq (w : World) (a pb : Nat) (M : Mem) (L : List (Nat × Obj)) (w1 : World) : Prop where
 m : Ym w1 a pb M
 u : Upd [] w w1
 v : ∀ p ∈ L, w1.heap[p.1]? = some p.2
 s : L.Pairwise (fun p q => p.1 ≠ q.1)
 t : ∀ p ∈ L, p.1 ≠ pb ∧ p.1 ≠ a
 l : w.heap.size ≤ pb
 w : ∀ p ∈ L, w.heap.size ≤ p.1
section
variable {w w0 w1 w2 : World} {a pb b : Nat} {M M2 : Mem} {L : List (Nat × Obj)} {T s' : St} {o o' : Obj}
theorem Kq.of (h : Kn w a pb M L w1) : Kq w a pb M L w1 := ⟨h.m, h.u, h.v, h.s.imp (fun h => Nat.ne_of_gt h), fun p hp => (h.t p hp).2, h.l, h.w⟩
theorem Kq.step (h : Kq w a pb M L w1) (hm : Ym w2 a pb M2) (u : Upd [pb] w1 w2) : Kq w a pb M2 L w2 :=
 ⟨hm, h.u.also u (by have := h.l; simp <;> omega), fun p hp => u.get (h.v p hp) (by have := (h.t p hp).1; simpa using this), h.s, h.t, h.l, h.w⟩
theorem Kq.quiet (h : Kq w a pb M L w1) (u : Upd [] w1 w2) : Kq w a pb M L w2 :=
 ⟨h.m.keep u (by simp) (by simp), h.u.also u (by simp), fun p hp => u.get (h.v p hp) (by simp), h.s, h.t, h.l, h.w⟩
theorem Kq.get (h : Kq w a pb M L w1) (n : Nat) (hn : L[n]? = some (b, o)) : w1.heap[b]? = some o := h.v (b, o) (List.mem_of_getElem? hn)
theorem Kq.lts (h : Kq w a pb M L w1) : (∀ p ∈ L, p.1 < w1.heap.size) ∧ a < w1.heap.size ∧ pb < w1.heap.size :=
 ⟨fun p hp => Yi (h.v p hp), by obtain ⟨C, _, hc⟩ := h.m.hd; exact Yi hc, by obtain ⟨C, _, hc⟩ := h.m.pg; exact Yi hc⟩
theorem Kq.put (h : Kq w a pb M L w1) (n : Nat) (hn : L[n]? = some (b, o)) (u : Upd [b] w1 w2) (ho : w2.heap[b]? = some o') : Kq w a pb M (L.set n (b, o')) w2 := by
 have hb := h.t (b, o) (List.mem_of_getElem? hn)
 have hw := h.w (b, o) (List.mem_of_getElem? hn)
 obtain ⟨hl, he⟩ := List.getElem?_eq_some_iff.1 hn
 have hs := List.pairwise_iff_getElem.1 h.s
 have hc : ∀ p, p ∈ L.set n (b, o') → p = (b, o') ∨ (p ∈ L ∧ p.1 ≠ b) := by
  intro p hp
  obtain ⟨j, hj⟩ := List.mem_iff_getElem?.1 hp
  rw [List.getElem?_set] at hj
  by_cases e : n = j
  ·subst e
   simp only [if_true, hl] at hj
   exact .inl (Option.some.inj hj).symm
  ·simp only [e, if_false] at hj
   obtain ⟨hl2, he2⟩ := List.getElem?_eq_some_iff.1 hj
   refine .inr ⟨List.mem_of_getElem? hj, fun hh => ?_⟩
   rcases Nat.lt_or_gt_of_ne e with h1 | h1
   ·have := hs n j hl hl2 h1; rw [he, he2] at this; exact this hh.symm
   ·have := hs j n hl2 hl h1; rw [he, he2] at this; exact this hh
 refine ⟨h.m.keep u (by simpa using fun e => hb.2 e.symm) (by simpa using fun e => hb.1 e.symm), h.u.also u (fun x hx => .inr (by rw [List.mem_singleton.1 hx]; exact hw)), fun p hp => ?_, ?_, fun p hp => ?_, h.l, fun p hp => ?_⟩
 ·rcases hc p hp with rfl | ⟨h1, h2⟩
  ·exact ho
  ·exact u.get (h.v p h1) (by simpa using h2)
 ·refine List.pairwise_iff_getElem.2 fun i j hi hj hij => ?_
  rw [List.length_set] at hi hj
  have h1 : ∀ q (hq : q < L.length) (hq2 : q < (L.set n (b, o')).length), ((L.set n (b, o'))[q]).1 = (L[q]).1 := by
   intro q hq hq2
   rw [List.getElem_set]
   split
   ·rename_i e; subst e; rw [he]
   ·rfl
  rw [h1 i hi (by rw [List.length_set]; exact hi), h1 j hj (by rw [List.length_set]; exact hj)]
  exact hs i j hi hj hij
 ·rcases hc p hp with rfl | ⟨h1, h2⟩
  ·exact hb
  ·exact h.t p h1
 ·rcases hc p hp with rfl | ⟨h1, h2⟩
  ·exact hw
  ·exact h.w p h1
theorem Kq.add (h : Kq w a pb M L w1) (hb : w.heap.size ≤ b) (hn : (∀ p ∈ L, p.1 ≠ b) ∧ b ≠ pb ∧ b ≠ a) (ho : w1.heap[b]? = some o) : Kq w a pb M ((b, o) :: L) w1 := by
 refine ⟨h.m, h.u, fun p hp => ?_, List.pairwise_cons.2 ⟨fun q hq e => hn.1 q hq e.symm, h.s⟩, fun p hp => ?_, h.l, fun p hp => ?_⟩
 ·rcases List.mem_cons.1 hp with rfl | hp
  ·exact ho
  ·exact h.v p hp
 ·rcases List.mem_cons.1 hp with rfl | hp
  ·exact ⟨hn.2.1, hn.2.2⟩
  ·exact h.t p hp
 ·rcases List.mem_cons.1 hp with rfl | hp
  ·exact hb
  ·exact h.w p hp
theorem Kq.putR (h : Kq w a pb M L w1) (n : Nat) (hn : L[n]? = some (b, .cells T.cells 28 (0, 0))) (k : Nat) (hk : k < 8) (v : Int) : Kq w a pb M (L.set n (b, .cells (T.setR k v).cells 28 (0, 0))) (w1.setCell ⟨b, k, none⟩ (.int .u32 v)) :=
 h.put n hn ((Upd.refl [b] w1).setCell (p := ⟨b, k, none⟩) (.inl (by simp)) _) (by rw [← St.cells_setR T k v hk]; exact Yg (h.get n hn) k _)
end
section
variable {w w1 w2 : World} {a pb g : Nat} {M : Mem} {L : List (Nat × Obj)} {T : St} {F : Flt}
theorem Kq.upd (h : Kq w a pb M L w1) (u : Upd [g] w1 w2) (hg : w.heap.size ≤ g) (hn : (∀ p ∈ L, p.1 ≠ g) ∧ g ≠ pb ∧ g ≠ a) : Kq w a pb M L w2 :=
 ⟨h.m.keep u (by simpa using fun e => hn.2.2 e.symm) (by simpa using fun e => hn.2.1 e.symm), h.u.also u (fun x hx => .inr (by rw [List.mem_singleton.1 hx]; exact hg)), fun p hp => u.get (h.v p hp) (by simpa using hn.1 p hp), h.s, h.t, h.l, h.w⟩
theorem Kq.two (h : Kq w a pb M L w1) (h2 : w2.heap[w1.heap.size]? = some (.cells T.cells 28 (0, 0)) ∧ w2.heap[w1.heap.size + 1]? = some (.cells #[.int .i64 0, .int .u32 0, .int .u32 0, .int .i64 0] 35 (0, 0)) ∧ Upd [] w1 w2) :
  Kq w a pb M ((w1.heap.size + 1, .cells (Yac F) 35 (0, 0)) :: (w1.heap.size, .cells T.cells 28 (0, 0)) :: L) ((((w2.setCell ⟨w1.heap.size + 1, 0, none⟩ (.int .i64 F.k)).setCell ⟨w1.heap.size + 1, 1, none⟩ (.int .u32 F.pc)).setCell ⟨w1.heap.size + 1, 2, none⟩ (.int .u32 F.a)).setCell ⟨w1.heap.size + 1, 3, none⟩ (.int .i64 F.wt)) := by
 have hl := h.lts
 have hu := h.u.size
 have u4 := Yas (S := [w1.heap.size + 1]) (b := w1.heap.size + 1) (Upd.refl _ w2) (.inl (by simp)) (.int .i64 F.k) (.int .u32 F.pc) (.int .u32 F.a) (.int .i64 F.wt)
 have hf := Ycr h2.2.1 (.int .i64 F.k) (.int .u32 F.pc) (.int .u32 F.a) (.int .i64 F.wt)
 have h3 := (h.quiet h2.2.2).add (b := w1.heap.size) hu ⟨fun p hp => by have := hl.1 p hp; omega, by omega, by omega⟩ h2.1
 have hn : ∀ p ∈ ((w1.heap.size, Obj.cells T.cells 28 (0, 0)) :: L), p.1 ≠ w1.heap.size + 1 := by
  intro p hp
  rcases List.mem_cons.1 hp with rfl | hp
  ·dsimp only; omega
  ·have := hl.1 p hp; omega
 exact (h3.upd u4 (by omega) ⟨hn, by omega, by omega⟩).add (by omega) ⟨hn, by omega, by omega⟩ hf
end
structure Kd (w : World) (a pb : Nat) (M M2 : Mem) (L : List (Nat × Obj)) (n0 : Nat) (S : St) (F : Flt) (c e f p q : Nat) (dn : Nat → Bool) (r : Nat → Value) (w1 : World) : Prop where
 k : Kq w a pb (cond (dn c) M2 M) L w1
 b : n0 ≤ w1.heap.size
 ln : (∀ p ∈ L, p.1 < n0) ∧ a < n0 ∧ pb < n0 ∧ w.heap.size ≤ n0
 x : dn e = true → ∃ g, r e = .pointer (some ⟨g, 0, none⟩) ∧ n0 ≤ g ∧ w1.heap[g]? = some (.cells (cond (dn p) S.cells St.zero.cells) 28 (0, 0))
 y : dn f = true → ∃ g, r f = .pointer (some ⟨g, 0, none⟩) ∧ n0 ≤ g ∧ w1.heap[g]? = some (.cells (cond (dn q) (Yac F) (Yac Flt.zero)) 35 (0, 0))
 xo : dn p = true → dn e = true
 yo : dn q = true → dn f = true
theorem Yep : (28 : TypeId) ≠ 35 := by decide
theorem wr_st (c : Array Value) (S : St) (hc : c.size = 17) : wr c 0 S.cells.toList = S.cells := Yk4 c S hc
section
variable {w w1 w2 : World} {a pb n0 : Nat} {M M2 : Mem} {L : List (Nat × Obj)} {S : St} {F : Flt} {c e f p q : Nat} {dn : Nat → Bool} {r : Nat → Value}
theorem Kd.start (h : Kq w a pb M L w1) (M2 : Mem) (S : St) (F : Flt) (c e f p q : Nat) (r : Nat → Value) : Kd w a pb M M2 L w1.heap.size S F c e f p q (fun _ => false) r w1.drew :=
 ⟨h.quiet (Upd.refl [] w1).drew, ((Upd.refl [] w1).drew).size, ⟨h.lts.1, h.lts.2.1, h.lts.2.2, h.u.size⟩, fun h => (by cases h), fun h => (by cases h), fun h => (by cases h), fun h => (by cases h)⟩
theorem Kd.quiet (h : Kd w a pb M M2 L n0 S F c e f p q dn r w1) (u : Upd [] w1 w2) (j : Nat) (h1 : c ≠ j) (h2 : e ≠ j) (h3 : f ≠ j) (h4 : p ≠ j) (h5 : q ≠ j) : Kd w a pb M M2 L n0 S F c e f p q (Yad dn j) r w2 := by
 refine ⟨by rw [Yn h1]; exact h.k.quiet u, Nat.le_trans h.b u.size, h.ln, fun hx => ?_, fun hx => ?_, fun hx => ?_, fun hx => ?_⟩
 ·rw [Yn h2] at hx; rw [Yn h4]; obtain ⟨g, e1, e2, e3⟩ := h.x hx; exact ⟨g, e1, e2, u.get e3 (by simp)⟩
 ·rw [Yn h3] at hx; rw [Yn h5]; obtain ⟨g, e1, e2, e3⟩ := h.y hx; exact ⟨g, e1, e2, u.get e3 (by simp)⟩
 ·rw [Yn h4] at hx; rw [Yn h2]; exact h.xo hx
 ·rw [Yn h5] at hx; rw [Yn h3]; exact h.yo hx
theorem Kd.same (h : Kd w a pb M M2 L n0 S F c e f p q dn r w1) (j : Nat) (h1 : c ≠ j) (h2 : e ≠ j) (h3 : f ≠ j) (h4 : p ≠ j) (h5 : q ≠ j) : Kd w a pb M M2 L n0 S F c e f p q (Yad dn j) r w1 := h.quiet (Upd.refl [] w1) j h1 h2 h3 h4 h5
theorem Kd.call (h : Kd w a pb M M2 L n0 S F c e f p q dn r w1) (hm : Ym w2 a pb M2) (u : Upd [pb] w1 w2) (h2 : e ≠ c) (h3 : f ≠ c) (h4 : p ≠ c) (h5 : q ≠ c) : Kd w a pb M M2 L n0 S F c e f p q (Yad dn c) r w2 := by
 have hl := h.ln
 refine ⟨by rw [Yck]; exact h.k.step hm u, Nat.le_trans h.b u.size, h.ln, fun hx => ?_, fun hx => ?_, fun hx => ?_, fun hx => ?_⟩
 ·rw [Yn h2] at hx; rw [Yn h4]; obtain ⟨g, e1, e2, e3⟩ := h.x hx; exact ⟨g, e1, e2, u.get e3 (by simp; omega)⟩
 ·rw [Yn h3] at hx; rw [Yn h5]; obtain ⟨g, e1, e2, e3⟩ := h.y hx; exact ⟨g, e1, e2, u.get e3 (by simp; omega)⟩
 ·rw [Yn h4] at hx; rw [Yn h2]; exact h.xo hx
 ·rw [Yn h5] at hx; rw [Yn h3]; exact h.yo hx
theorem Kd.layS (h : Kd w a pb M M2 L n0 S F c e f p q dn r w1) (hd : dn e = false) (h1 : c ≠ e) (h3 : f ≠ e) (h4 : p ≠ e) (h5 : q ≠ e) : Kd w a pb M M2 L n0 S F c e f p q (Yad dn e) (Yco r e (.pointer (some ⟨w1.heap.size, 0, none⟩))) (w1.alloc (.cells St.zero.cells 28)) := by
 have hp : dn p = false := by
  cases hh : dn p with
  |false => rfl
  |true => rw [h.xo hh] at hd; cases hd
 have u := (Upd.refl [] w1).alloc (.cells St.zero.cells 28)
 refine ⟨by rw [Yn h1]; exact h.k.quiet u, Nat.le_trans h.b u.size, h.ln, fun _ => ⟨_, Yf2, h.b, ?_⟩, fun hx => ?_, fun _ => Yck, fun hx => ?_⟩
 ·rw [Yn h4, hp]; exact heap_alloc_new _ _
 ·rw [Yn h3] at hx; rw [Yn h5]; obtain ⟨g, e1, e2, e3⟩ := h.y hx; exact ⟨g, by rw [vq_ne h3]; exact e1, e2, u.get e3 (by simp)⟩
 ·rw [Yn h5] at hx; rw [Yn h3]; exact h.yo hx
theorem Kd.layF (h : Kd w a pb M M2 L n0 S F c e f p q dn r w1) (hd : dn f = false) (h1 : c ≠ f) (h3 : e ≠ f) (h4 : p ≠ f) (h5 : q ≠ f) : Kd w a pb M M2 L n0 S F c e f p q (Yad dn f) (Yco r f (.pointer (some ⟨w1.heap.size, 0, none⟩))) (w1.alloc (.cells (Yac Flt.zero) 35)) := by
 have hq : dn q = false := by
  cases hh : dn q with
  |false => rfl
  |true => rw [h.yo hh] at hd; cases hd
 have u := (Upd.refl [] w1).alloc (.cells (Yac Flt.zero) 35)
 refine ⟨by rw [Yn h1]; exact h.k.quiet u, Nat.le_trans h.b u.size, h.ln, fun hx => ?_, fun _ => ⟨_, Yf2, h.b, ?_⟩, fun hx => ?_, fun _ => Yck⟩
 ·rw [Yn h3] at hx; rw [Yn h4]; obtain ⟨g, e1, e2, e3⟩ := h.x hx; exact ⟨g, by rw [vq_ne h3]; exact e1, e2, u.get e3 (by simp)⟩
 ·rw [Yn h5, hq]; exact heap_alloc_new _ _
 ·rw [Yn h4] at hx; rw [Yn h3]; exact h.xo hx
theorem Kd.keepL (h : Kd w a pb M M2 L n0 S F c e f p q dn r w1) {g : Nat} (hg : n0 ≤ g) (u : Upd [g] w1 w2) (m : Mem) (hm : Ym w1 a pb m) : Kq w a pb m L w2 := by
 have hl := h.ln
 exact ⟨hm.keep u (by simp; omega) (by simp; omega), h.k.u.also u (fun x hx => .inr (by rw [List.mem_singleton.1 hx]; omega)), fun p hp => u.get (h.k.v p hp) (by have := hl.1 p hp; simp; omega), h.k.s, h.k.t, h.k.l, h.k.w⟩
theorem Kd.putS (h : Kd w a pb M M2 L n0 S F c e f p q dn r w1) (hd : dn e = true) {g : Nat} (e1 : r e = .pointer (some ⟨g, 0, none⟩)) (h1 : c ≠ p) (h2 : e ≠ p) (h3 : f ≠ p) (h5 : q ≠ p) : Kd w a pb M M2 L n0 S F c e f p q (Yad dn p) r (w1.setCells g 0 S.cells.toList) := by
 obtain ⟨g', e1', e2, e3⟩ := h.x hd
 obtain rfl : g' = g := by rw [e1] at e1'; injection e1' with e; injection e with e; injection e with e; exact e.symm
 have u := (Upd.refl [g'] w1).setCells (q := g') (.inl (by simp)) S.cells.toList 0
 refine ⟨by rw [Yn h1]; exact h.keepL e2 u _ h.k.m, Nat.le_trans h.b u.size, h.ln, fun _ => ⟨g', e1, e2, ?_⟩, fun hx => ?_, fun _ => by rw [Yn h2]; exact hd, fun hx => ?_⟩
 ·rw [Yck]
  show _ = some (Obj.cells S.cells 28 (0, 0))
  rw [Yaf _ _ _ _ e3, wr_st _ S (by cases dn p <;> rfl)]
 ·rw [Yn h3] at hx; rw [Yn h5]
  obtain ⟨k, k1, k2, k3⟩ := h.y hx
  refine ⟨k, k1, k2, u.get k3 ?_⟩
  simp only [List.mem_singleton]
  rintro rfl
  rw [e3] at k3
  injection k3 with k3; injection k3 with _ k3 _; exact Yep k3
 ·rw [Yn h5] at hx; rw [Yn h3]; exact h.yo hx
theorem Kd.putF (h : Kd w a pb M M2 L n0 S F c e f p q dn r w1) (hd : dn f = true) {g : Nat} (e1 : r f = .pointer (some ⟨g, 0, none⟩)) (h1 : c ≠ q) (h2 : e ≠ q) (h3 : f ≠ q) (h5 : p ≠ q) : Kd w a pb M M2 L n0 S F c e f p q (Yad dn q) r (w1.setCells g 0 (Yac F).toList) := by
 obtain ⟨g', e1', e2, e3⟩ := h.y hd
 obtain rfl : g' = g := by rw [e1] at e1'; injection e1' with e; injection e with e; injection e with e; exact e.symm
 have u := (Upd.refl [g'] w1).setCells (q := g') (.inl (by simp)) (Yac F).toList 0
 refine ⟨by rw [Yn h1]; exact h.keepL e2 u _ h.k.m, Nat.le_trans h.b u.size, h.ln, fun hx => ?_, fun _ => ⟨g', e1, e2, ?_⟩, fun hx => ?_, fun _ => by rw [Yn h3]; exact hd⟩
 ·rw [Yn h2] at hx; rw [Yn h5]
  obtain ⟨k, k1, k2, k3⟩ := h.x hx
  refine ⟨k, k1, k2, u.get k3 ?_⟩
  simp only [List.mem_singleton]
  rintro rfl
  rw [e3] at k3
  injection k3 with k3; injection k3 with _ k3 _; exact Yep k3.symm
 ·rw [Yck]
  show _ = some (Obj.cells (Yac F) 35 (0, 0))
  rw [Yaf _ _ _ _ e3]
  cases dn q <;> rfl
 ·rw [Yn h5] at hx; rw [Yn h2]; exact h.xo hx
theorem Kd.fin (h : Kd w a pb M M2 L n0 S F c e f p q dn r w1) (hc : dn c = true) (he : dn e = true) (hf : dn f = true) (hp : dn p = true) (hq : dn q = true) :
  ∃ g1 g2, r e = .pointer (some ⟨g1, 0, none⟩) ∧ r f = .pointer (some ⟨g2, 0, none⟩) ∧ Kq w a pb M2 ((g2, .cells (Yac F) 35 (0, 0)) :: (g1, .cells S.cells 28 (0, 0)) :: L) w1 := by
 obtain ⟨g1, a1, a2, a3⟩ := h.x he
 obtain ⟨g2, b1, b2, b3⟩ := h.y hf
 have hl := h.ln
 rw [hp] at a3
 rw [hq] at b3
 have hk := h.k
 rw [hc] at hk
 have h1 := hk.add (b := g1) (by omega) ⟨fun p hp => by have := hl.1 p hp; omega, by omega, by omega⟩ a3
 refine ⟨g1, g2, a1, b1, h1.add (b := g2) (by omega) ⟨fun p hp => ?_, by omega, by omega⟩ b3⟩
 rcases List.mem_cons.1 hp with rfl | hp
 ·dsimp only
  rintro rfl
  rw [a3] at b3
  injection b3 with b3; injection b3 with _ b3 _; exact Yep b3
 ·have := hl.1 p hp; omega
end
end
def St.eqB (s t : St) : Bool := (((List.range 8).all fun i => s.R i == t.R i) && ((s.pc == t.pc) && ((((s.cf == t.cf) && ((s.pf == t.pf) && ((s.af == t.af) && ((s.zf == t.zf) && ((s.sf == t.sf) && ((s.of_ == t.of_) && true))))))) && ((s.df == t.df) && ((s.f == t.f) && true)))))
theorem St.eqB_self (s : St) : s.eqB s = true := by simp [St.eqB]
theorem St.eqB_iff (s t : St) : s.eqB t = true ↔ (∀ i, i < 8 → s.R i = t.R i) ∧ s.pc = t.pc ∧ s.cf = t.cf ∧ s.pf = t.pf ∧ s.af = t.af ∧ s.zf = t.zf ∧ s.sf = t.sf ∧ s.of_ = t.of_ ∧ s.df = t.df ∧ s.f = t.f := by
 simp only [St.eqB, Bool.and_eq_true, List.all_eq_true, List.mem_range, beq_iff_eq, and_true]
 constructor
 ·rintro ⟨h1, h2, ⟨h3, h4, h5, h6, h7, h8⟩, h9, h10⟩; exact ⟨h1, h2, h3, h4, h5, h6, h7, h8, h9, h10⟩
 ·rintro ⟨h1, h2, h3, h4, h5, h6, h7, h8, h9, h10⟩; exact ⟨h1, h2, ⟨h3, h4, h5, h6, h7, h8⟩, h9, h10⟩
def Yhi (s : St) : Array Value := #[.bool s.cf, .bool s.pf, .bool s.af, .bool s.zf, .bool s.sf, .bool s.of_]
theorem Ye9 (s t : St) (w : World) (d : Nat) : (Op.equalIn (d + 1 + 1) 25 (.agg (Yhi s)) (.agg (Yhi t))).run Tryz.prog w = .ok ((s.cf == t.cf) && ((s.pf == t.pf) && ((s.af == t.af) && ((s.zf == t.zf) && ((s.sf == t.sf) && ((s.of_ == t.of_) && true)))))) w := by
 have hf : Tryz.prog.fieldsOf 25 = #[{ name := "CF", type := 4, offset := 0, embedded := false, tag := "", pkgPath := "", byteOffset := 0 }, { name := "PF", type := 4, offset := 1, embedded := false, tag := "", pkgPath := "", byteOffset := 1 },
  { name := "AF", type := 4, offset := 2, embedded := false, tag := "", pkgPath := "", byteOffset := 2 }, { name := "ZF", type := 4, offset := 3, embedded := false, tag := "", pkgPath := "", byteOffset := 3 },
  { name := "SF", type := 4, offset := 4, embedded := false, tag := "", pkgPath := "", byteOffset := 4 }, { name := "OF", type := 4, offset := 5, embedded := false, tag := "", pkgPath := "", byteOffset := 5 }] := by kernel_rfl
 have hu : Tryz.prog.underlying 25 = some (.struct (Tryz.prog.fieldsOf 25)) := by kernel_rfl
 have hp : Tryz.prog.plainKey 4 = true := by kernel_rfl
 have hb := fun (a b : Bool) => run_equalIn_bool (P := Tryz.prog) w d 4 a b Tryz.underlying4
 rw [run_equalIn_struct w _ 25 _ _ hu (Tryz.stoodInHeld25), hf]
 exact Ybp (by decide) (run_part_plain w hp rfl) (run_part_plain w hp rfl) (hb _ _) (Ybp (by decide) (run_part_plain w hp rfl) (run_part_plain w hp rfl) (hb _ _) (Ybp (by decide) (run_part_plain w hp rfl) (run_part_plain w hp rfl) (hb _ _) (Ybp (by decide) (run_part_plain w hp rfl) (run_part_plain w hp rfl) (hb _ _) (Ybp (by decide) (run_part_plain w hp rfl) (run_part_plain w hp rfl) (hb _ _) (Ybp (by decide) (run_part_plain w hp rfl) (run_part_plain w hp rfl) (hb _ _) Yha)))))
theorem Yhr (s t : St) (w : World) (d : Nat) : (Op.equalIn (d + 1 + 1 + 1) 28 (.agg s.cells) (.agg t.cells)).run Tryz.prog w = .ok (s.eqB t) w := by
 have hf : Tryz.prog.fieldsOf 28 = #[{ name := "R", type := 23, offset := 0, embedded := false, tag := "", pkgPath := "", byteOffset := 0 }, { name := "PC", type := 22, offset := 8, embedded := false, tag := "", pkgPath := "", byteOffset := 32 },
  { name := "Fl", type := 25, offset := 9, embedded := false, tag := "", pkgPath := "", byteOffset := 36 }, { name := "DF", type := 4, offset := 15, embedded := false, tag := "", pkgPath := "", byteOffset := 42 }, { name := "F", type := 26, offset := 16, embedded := false, tag := "", pkgPath := "", byteOffset := 48 }] := by kernel_rfl
 have hu : Tryz.prog.underlying 28 = some (.struct (Tryz.prog.fieldsOf 28)) := by kernel_rfl
 have hpB : Tryz.prog.plainKey 4 = true := by kernel_rfl
 have hp32 : Tryz.prog.plainKey 22 = true := by kernel_rfl
 have hp64 : Tryz.prog.plainKey 26 = true := by kernel_rfl
 have hc : Tryz.prog.cellsOf 22 = 1 := by kernel_rfl
 have hpR := fun xs : Array Value => Yil (P := Tryz.prog) (xs := xs) (t := 23) (i := Tryz.t23) (n := 8) (off := 0) w (Tryz.isAgg23 w) (by kernel_rfl) (by kernel_rfl)
 have hpF := fun xs : Array Value => Yil (P := Tryz.prog) (xs := xs) (t := 25) (i := Tryz.t25) (n := 6) (off := 9) w (Tryz.isAgg25 w) (by kernel_rfl) (by kernel_rfl)
 have eF : ∀ s : St, s.cells.extract 9 (9 + 6) = Yhi s := fun s => by simp [St.cells, Yhi]
 have hR : (Op.equalIn (d + 1 + 1) 23 (.agg (s.cells.extract 0 (0 + 8))) (.agg (t.cells.extract 0 (0 + 8)))).run Tryz.prog w = .ok ((List.range 8).all fun i => s.R i == t.R i) w := by
  rw [run_equalIn_array w (d + 1) (i := Tryz.t22) _ _ Tryz.underlying23 (by kernel_rfl), hc]
  have e : ∀ (s : St) i, i < 8 → (s.cells.extract 0 (0 + 8))[i]? = some (.int .u32 (s.R i)) := fun s i hi => by
   rw [Array.getElem?_extract, if_pos (by rw [St.size]; omega), Nat.zero_add, St.cR s i hi]
  exact Yhy w d Tryz.underlying22 _ _ _ _ _ (fun i hi => ⟨e s i (List.mem_range.1 hi), e t i (List.mem_range.1 hi)⟩)
 have hF := Ye9 s t w d
 rw [← eF s, ← eF t] at hF
 rw [run_equalIn_struct w _ 28 _ _ hu (Tryz.stoodInHeld28), hf]
 exact Ybp (by decide) (hpR _) (hpR _) hR (Ybp (by decide) (run_part_plain w hp32 rfl) (run_part_plain w hp32 rfl) (run_equalIn_int w _ 22 .u32 .u32 _ _ Tryz.underlying22)
  (Ybp (by decide) (hpF _) (hpF _) hF (Ybp (by decide) (run_part_plain w hpB rfl) (run_part_plain w hpB rfl) (run_equalIn_bool w _ 4 _ _ Tryz.underlying4)
  (Ybp (by decide) (run_part_plain w hp64 rfl) (run_part_plain w hp64 rfl) (run_equalIn_int w _ 26 .u64 .u64 _ _ Tryz.underlying26) Yha))))
theorem Yju (s t : St) (w : World) : (binOp .eql 28 (.agg s.cells) (.agg t.cells)).run Tryz.prog w = .ok (.bool (s.eqB t)) w := by
 have h := Yhr s t w 9997
 rw [run_eql_struct]
 rw [show (10000 : Nat) = 9997 + 1 + 1 + 1 from rfl, h, Result.andThen_ok]
section
theorem Ygi (n : Int) (w : World) : Calls Tryz.prog 19 #[.int .i64 n] w fun e w' => e = .returned (.agg #[.int .i64 1, .int .i64 n, .int .u32 0, .int .i64 0, .int .i64 0, .int .u32 0]) ∧ Upd [] w w' := by
 go_enter Tryz.func19, Tryz.ntmps19
 go_wp2_with fail
 exact bodyPost_ret (Yf rfl (Ybd 2 39 w.heap.size _ _ rfl (heap_alloc_new w _) Tryz.underlying39 rfl (by kernel_rfl))) rfl ⟨rfl, (Upd.refl [] w).alloc _⟩
theorem regO_ok' (r : Int) : (⟨1, r, 0, 0, 0, 0⟩ : Opd).Ok := ⟨⟨show (0 : Int) ≤ 0 by decide, show (0 : Int) < 4294967296 by decide⟩, ⟨show (0 : Int) ≤ 0 by decide, show (0 : Int) < 4294967296 by decide⟩⟩
theorem noneO : Opd.none.Ok := ⟨⟨by decide, by decide⟩, ⟨by decide, by decide⟩⟩
section
variable {w : World} {a pb : Nat} {M : Mem} {T : St} {c d : Int}
end
theorem Yma (x0 x1 x2 x3 x4 x5 : Bool) (w : World) : (binOp .eql 25 (.agg #[.bool x0, .bool x1, .bool x2, .bool x3, .bool x4, .bool x5]) (.agg #[.bool x0, .bool x1, .bool x2, .bool x3, .bool x4, .bool x5])).run Tryz.prog w = .ok (.bool true) w := by
 have h := Ye9 ⟨fun _ => 0, 0, x0, x1, x2, x3, x4, x5, false, 0⟩ ⟨fun _ => 0, 0, x0, x1, x2, x3, x4, x5, false, 0⟩ w 9998
 rw [run_eql_struct]
 rw [show (10000 : Nat) = 9998 + 1 + 1 from rfl]
 have h2 : (Op.equalIn (9998 + 1 + 1) 25 (.agg #[.bool x0, .bool x1, .bool x2, .bool x3, .bool x4, .bool x5]) (.agg #[.bool x0, .bool x1, .bool x2, .bool x3, .bool x4, .bool x5])).run Tryz.prog w = .ok true w := by
  refine Eq.trans h ?_
  simp
 rw [h2, Result.andThen_ok]
theorem Yoy (S : St) (w : World) : (binOp .eql 28 (.agg S.cells) (.agg S.cells)).run Tryz.prog w = .ok (.bool true) w := by
 have := Yju S S w
 rw [St.eqB_self] at this
 exact this
end
section
def swT (s : St) (a b : Int) : St := (s.setR 0 a).setR 3 b
def swM (s : St) (a b : Int) : St := ((((swT s a b).goOn 2).setR 0 (Yd3 16 a b)).setR 2 (Ydx 16 a b)).setFl (Yb6 16 a b s.fl)
def swN (s : St) (a b x y : Int) : St := ((swM s a b).setR 0 x).setR 2 y
def swV (s : St) (a b x y q r : Int) : St := (((swN s a b x y).goOn 2).setR 0 q).setR 2 r
def swC (s : St) (a b x y q r : Int) : St := ((swV s a b x y q r).goOn 1).setR 2 (Ye5 q)
theorem i3_ok (op len : Int) : (⟨op, 0, ⟨1, 3, 0, 0, 0, 0⟩, Opd.none, false, len⟩ : Ins).Ok := ⟨regO_ok' 3, noneO⟩
section
variable {w : World} {p pb : Nat} {M : Mem} {s : St} {a b x y q r : Int}
theorem swT_ok (hs : s.Ok) (ha : 0 ≤ a ∧ a < 4294967296) (hb : 0 ≤ b ∧ b < 4294967296) : (swT s a b).Ok := St.setR_ok (St.setR_ok hs 0 ha.1 ha.2) 3 hb.1 hb.2
theorem swM_ok (hs : s.Ok) (ha : 0 ≤ a ∧ a < 4294967296) (hb : 0 ≤ b ∧ b < 4294967296) : (swM s a b).Ok := by
 have h := St.setR_ok (St.setR_ok (St.goOn_ok (swT_ok hs ha hb) 2) 0 (Ygf 16 a b).1 (Ygf 16 a b).2) 2 (Ygk 16 a b).1 (Ygk 16 a b).2
 exact ⟨h.R, h.pc, h.f⟩
theorem swN_ok (hs : s.Ok) (ha : 0 ≤ a ∧ a < 4294967296) (hb : 0 ≤ b ∧ b < 4294967296) (hx : 0 ≤ x ∧ x < 4294967296) (hy : 0 ≤ y ∧ y < 4294967296) : (swN s a b x y).Ok :=
 St.setR_ok (St.setR_ok (swM_ok hs ha hb) 0 hx.1 hx.2) 2 hy.1 hy.2
theorem swV_ok (hs : s.Ok) (ha : 0 ≤ a ∧ a < 4294967296) (hb : 0 ≤ b ∧ b < 4294967296) (hx : 0 ≤ x ∧ x < 4294967296) (hy : 0 ≤ y ∧ y < 4294967296) (hq : 0 ≤ q ∧ q < 4294967296) (hr : 0 ≤ r ∧ r < 4294967296) : (swV s a b x y q r).Ok :=
 St.setR_ok (St.setR_ok (St.goOn_ok (swN_ok hs ha hb hx hy) 2) 0 hq.1 hq.2) 2 hr.1 hr.2
theorem sw_mul (hM : Ym w p pb M) (hs : s.Ok) (ha : 0 ≤ a ∧ a < 4294967296) (hb : 0 ≤ b ∧ b < 4294967296) :
  Calls Tryz.prog 15 #[.pointer (some ⟨p, 0, none⟩), .agg (St.cells (swT s a b)), .agg (Ins.cells ⟨16, 0, ⟨1, 3, 0, 0, 0, 0⟩, Opd.none, false, 2⟩)] w fun e w' =>
   e = .returned (.tuple #[.agg (St.cells (swM s a b)), Flt.zero.val, .bool true]) ∧ Ym w' p pb M ∧ Upd [pb] w w' := by
 refine Do_of p pb (swT s a b) _ _ _ _ _ w hM (swT_ok hs ha hb) (i3_ok 16 2) (fun d w1 h1 => Yox d p pb _ _ _ w1 h1 rfl) ?_
 rfl
theorem sw_no (hM : Ym w p pb M) (hs : s.Ok) (ha : 0 ≤ a ∧ a < 4294967296) :
  Calls Tryz.prog 15 #[.pointer (some ⟨p, 0, none⟩), .agg (St.cells (swM s a 0)), .agg (Ins.cells ⟨19, 0, ⟨1, 3, 0, 0, 0, 0⟩, Opd.none, false, 2⟩)] w fun e w' =>
   e = .returned (.tuple #[.agg (St.cells (swM s a 0)), (⟨2, (swM s a 0).pc, 0, 0⟩ : Flt).val, .bool false]) ∧ Ym w' p pb M ∧ Upd [pb] w w' := by
 refine Do_not p pb (swM s a 0) _ _ _ ⟨2, 0, 0, 0⟩ _ w hM (swM_ok hs ha (by decide)) (i3_ok 19 2) (fun d w1 h1 => Yjl d p pb _ _ _ w1 h1 rfl) ?_
 rfl
theorem sw_div (hM : Ym w p pb M) (hs : s.Ok) (ha : 0 ≤ a ∧ a < 4294967296) (hb : 0 < b ∧ b < 4294967296) (hr : 0 ≤ r ∧ r < b) (hx : (a * b + r) % 4294967296 = x) (hy : (a * b + r) / 4294967296 = y) :
  Calls Tryz.prog 15 #[.pointer (some ⟨p, 0, none⟩), .agg (St.cells (swN s a b x y)), .agg (Ins.cells ⟨19, 0, ⟨1, 3, 0, 0, 0, 0⟩, Opd.none, false, 2⟩)] w fun e w' =>
   e = .returned (.tuple #[.agg (St.cells (swV s a b x y a r)), Flt.zero.val, .bool true]) ∧ Ym w' p pb M ∧ Upd [pb] w w' := by
 have hP : a * b ≤ 4294967295 * b := Int.mul_le_mul_of_nonneg_right (by omega) (by omega)
 have hP0 : 0 ≤ a * b := Int.mul_nonneg ha.1 (by omega)
 have hxr : 0 ≤ x ∧ x < 4294967296 := by omega
 have hyr : 0 ≤ y ∧ y < 4294967296 := by omega
 have hN : y * 4294967296 + x = a * b + r := by omega
 have e1 : (y * 4294967296 + x) / b = a := by
  rw [hN, Int.add_comm, Int.add_mul_ediv_right _ _ (by omega), Int.ediv_eq_zero_of_lt hr.1 hr.2, Int.zero_add]
 have e2 : (y * 4294967296 + x) % b = r := by
  rw [hN, Int.add_comm, Int.add_mul_emod_self_right, Int.emod_eq_of_lt hr.1 hr.2]
 have hne : ¬ b = 0 := by omega
 refine Do_of p pb (swN s a b x y) _ _ _ _ _ w hM (swN_ok hs ha (by omega) hxr hyr) (i3_ok 19 2) (fun d w1 h1 => Yjl d p pb _ _ _ w1 h1 rfl) ?_
 have k1 : Ydg 19 x y b = true := by rw [Ydg, if_neg hne, if_neg (by decide), e1]; simp; omega
 have k2 : Yc3 19 x y b = a := by rw [Yc3, if_neg hne, if_neg (by decide), e1, if_pos (by omega)]
 have k3 : Yc4 19 x y b = r := by rw [Yc4, if_neg hne, if_neg (by decide), e1, if_pos (by omega), e2]
 show (if (true : Bool) = true then (if Ydg 19 x y b = true then okO ((((swN s a b x y).goOn 2).setR 0 (Yc3 19 x y b)).setR 2 (Yc4 19 x y b)) M else badO ⟨2, 0, 0, 0⟩ M) else _) = _
 rw [if_pos rfl, if_pos k1, k2, k3]
 rfl
theorem sw_cdq (hM : Ym w p pb M) (hV : (swV s a b x y q r).Ok) :
  Calls Tryz.prog 15 #[.pointer (some ⟨p, 0, none⟩), .agg (St.cells (swV s a b x y q r)), .agg (Ins.cells ⟨38, 0, Opd.none, Opd.none, false, 1⟩)] w fun e w' =>
   e = .returned (.tuple #[.agg (St.cells (swC s a b x y q r)), Flt.zero.val, .bool true]) ∧ Ym w' p pb M ∧ Upd [pb] w w' := by
 refine Do_of p pb (swV s a b x y q r) _ _ _ _ _ w hM hV ⟨noneO, noneO⟩ (fun d w1 h1 => cdq_all d p pb _ _ _ w1 h1 rfl) ?_
 rfl
end
end
end Go.Proofs.YthakgjpejhjaoaaGreat
