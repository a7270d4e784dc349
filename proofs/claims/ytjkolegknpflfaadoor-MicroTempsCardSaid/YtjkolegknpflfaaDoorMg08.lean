/-
  Parts of the proof (their names shortened by a program). No condition.
-/
import Derived.Test.YtjkolegknpflfaaDoorMg01
import Derived.Test.YtjkolegknpflfaaDoorMg07
import Derived.Deep.Cut
import Derived.ChangeSlices
import Derived.Test.YtjkolegknpflfaaDoorMg06
namespace Go.Proofs.YtjkolegknpflfaaDoor
open Go Go.RowKit
set_option linter.unusedVariables false
set_option linter.unusedSimpArgs false
set_option maxRecDepth 100000
set_option maxHeartbeats 16000000
section
structure Kq (w : World) (a pb : Nat) (M : Mem) (L : List (Nat × Obj)) (w1 : World) : Prop where
 m : Yf w1 a pb M
 u : Upd [] w w1
 v : ∀ p ∈ L, w1.heap[p.1]? = some p.2
 s : L.Pairwise (fun p q => p.1 ≠ q.1)
 t : ∀ p ∈ L, p.1 ≠ pb ∧ p.1 ≠ a
 l : w.heap.size ≤ pb
 w : ∀ p ∈ L, w.heap.size ≤ p.1
section
variable {w w0 w1 w2 : World} {a pb b : Nat} {M M2 : Mem} {L : List (Nat × Obj)} {T s' : St} {o o' : Obj}
theorem Kq.of (h : Kn w a pb M L w1) : Kq w a pb M L w1 := ⟨h.m, h.u, h.v, h.s.imp (fun h => Nat.ne_of_gt h), fun p hp => (h.t p hp).2, h.l, h.w⟩
theorem Kq.step (h : Kq w a pb M L w1) (hm : Yf w2 a pb M2) (u : Upd [pb] w1 w2) : Kq w a pb M2 L w2 :=
 ⟨hm, h.u.also u (by have := h.l; simp <;> omega), fun p hp => u.get (h.v p hp) (by have := (h.t p hp).1; simpa using this), h.s, h.t, h.l, h.w⟩
theorem Kq.quiet (h : Kq w a pb M L w1) (u : Upd [] w1 w2) : Kq w a pb M L w2 :=
 ⟨h.m.keep u (by simp) (by simp), h.u.also u (by simp), fun p hp => u.get (h.v p hp) (by simp), h.s, h.t, h.l, h.w⟩
theorem Kq.get (h : Kq w a pb M L w1) (n : Nat) (hn : L[n]? = some (b, o)) : w1.heap[b]? = some o := h.v (b, o) (List.mem_of_getElem? hn)
theorem Kq.lts (h : Kq w a pb M L w1) : (∀ p ∈ L, p.1 < w1.heap.size) ∧ a < w1.heap.size ∧ pb < w1.heap.size :=
 ⟨fun p hp => Ye (h.v p hp), by obtain ⟨C, _, hc⟩ := h.m.hd; exact Ye hc, by obtain ⟨C, _, hc⟩ := h.m.pg; exact Ye hc⟩
theorem Kq.put (h : Kq w a pb M L w1) (n : Nat) (hn : L[n]? = some (b, o)) (u : Upd [b] w1 w2) (ho : w2.heap[b]? = some o') : Kq w a pb M (L.set n (b, o')) w2 := by
 have hb := h.t (b, o) (List.mem_of_getElem? hn)
 have hw := h.w (b, o) (List.mem_of_getElem? hn)
 obtain ⟨hl, he⟩ := List.getElem?_eq_some_iff.1 hn
 have hs := List.pairwise_iff_getElem.1 h.s
 have hc : ∀ p, p ∈ L.set n (b, o') → p = (b, o') ∨ (p ∈ L ∧ p.1 ≠ b) := by
  intro p hp
  obtain ⟨j, hj⟩ := List.mem_iff_getElem?.1 hp
  rw [List.getElem?_set] at hj
  by_cases e : n = j
  ·subst e
   simp only [if_true, hl] at hj
   exact .inl (Option.some.inj hj).symm
  ·simp only [e, if_false] at hj
   obtain ⟨hl2, he2⟩ := List.getElem?_eq_some_iff.1 hj
   refine .inr ⟨List.mem_of_getElem? hj, fun hh => ?_⟩
   rcases Nat.lt_or_gt_of_ne e with h1 | h1
   ·have := hs n j hl hl2 h1; rw [he, he2] at this; exact this hh.symm
   ·have := hs j n hl2 hl h1; rw [he, he2] at this; exact this hh
 refine ⟨h.m.keep u (by simpa using fun e => hb.2 e.symm) (by simpa using fun e => hb.1 e.symm), h.u.also u (fun x hx => .inr (by rw [List.mem_singleton.1 hx]; exact hw)), fun p hp => ?_, ?_, fun p hp => ?_, h.l, fun p hp => ?_⟩
 ·rcases hc p hp with rfl | ⟨h1, h2⟩
  ·exact ho
  ·exact u.get (h.v p h1) (by simpa using h2)
 ·refine List.pairwise_iff_getElem.2 fun i j hi hj hij => ?_
  rw [List.length_set] at hi hj
  have h1 : ∀ q (hq : q < L.length) (hq2 : q < (L.set n (b, o')).length), ((L.set n (b, o'))[q]).1 = (L[q]).1 := by
   intro q hq hq2
   rw [List.getElem_set]
   split
   ·rename_i e; subst e; rw [he]
   ·rfl
  rw [h1 i hi (by rw [List.length_set]; exact hi), h1 j hj (by rw [List.length_set]; exact hj)]
  exact hs i j hi hj hij
 ·rcases hc p hp with rfl | ⟨h1, h2⟩
  ·exact hb
  ·exact h.t p h1
 ·rcases hc p hp with rfl | ⟨h1, h2⟩
  ·exact hw
  ·exact h.w p h1
theorem Kq.add (h : Kq w a pb M L w1) (hb : w.heap.size ≤ b) (hn : (∀ p ∈ L, p.1 ≠ b) ∧ b ≠ pb ∧ b ≠ a) (ho : w1.heap[b]? = some o) : Kq w a pb M ((b, o) :: L) w1 := by
 refine ⟨h.m, h.u, fun p hp => ?_, List.pairwise_cons.2 ⟨fun q hq e => hn.1 q hq e.symm, h.s⟩, fun p hp => ?_, h.l, fun p hp => ?_⟩
 ·rcases List.mem_cons.1 hp with rfl | hp
  ·exact ho
  ·exact h.v p hp
 ·rcases List.mem_cons.1 hp with rfl | hp
  ·exact ⟨hn.2.1, hn.2.2⟩
  ·exact h.t p hp
 ·rcases List.mem_cons.1 hp with rfl | hp
  ·exact hb
  ·exact h.w p hp
end
section
variable {w w1 w2 : World} {a pb g : Nat} {M : Mem} {L : List (Nat × Obj)} {T : St} {F : Flt}
theorem Kq.upd (h : Kq w a pb M L w1) (u : Upd [g] w1 w2) (hg : w.heap.size ≤ g) (hn : (∀ p ∈ L, p.1 ≠ g) ∧ g ≠ pb ∧ g ≠ a) : Kq w a pb M L w2 :=
 ⟨h.m.keep u (by simpa using fun e => hn.2.2 e.symm) (by simpa using fun e => hn.2.1 e.symm), h.u.also u (fun x hx => .inr (by rw [List.mem_singleton.1 hx]; exact hg)), fun p hp => u.get (h.v p hp) (by simpa using hn.1 p hp), h.s, h.t, h.l, h.w⟩
theorem Kq.two (h : Kq w a pb M L w1) (h2 : w2.heap[w1.heap.size]? = some (.cells T.cells 28 (0, 0)) ∧ w2.heap[w1.heap.size + 1]? = some (.cells #[.int .i64 0, .int .u32 0, .int .u32 0, .int .i64 0] 37 (0, 0)) ∧ Upd [] w1 w2) :
  Kq w a pb M ((w1.heap.size + 1, .cells (Ym F) 37 (0, 0)) :: (w1.heap.size, .cells T.cells 28 (0, 0)) :: L) ((((w2.setCell ⟨w1.heap.size + 1, 0, none⟩ (.int .i64 F.k)).setCell ⟨w1.heap.size + 1, 1, none⟩ (.int .u32 F.pc)).setCell ⟨w1.heap.size + 1, 2, none⟩ (.int .u32 F.a)).setCell ⟨w1.heap.size + 1, 3, none⟩ (.int .i64 F.wt)) := by
 have hl := h.lts
 have hu := h.u.size
 have u4 := Ybs (S := [w1.heap.size + 1]) (b := w1.heap.size + 1) (Upd.refl _ w2) (.inl (by simp)) (.int .i64 F.k) (.int .u32 F.pc) (.int .u32 F.a) (.int .i64 F.wt)
 have hf := Yep h2.2.1 (.int .i64 F.k) (.int .u32 F.pc) (.int .u32 F.a) (.int .i64 F.wt)
 have h3 := (h.quiet h2.2.2).add (b := w1.heap.size) hu ⟨fun p hp => by have := hl.1 p hp; omega, by omega, by omega⟩ h2.1
 have hn : ∀ p ∈ ((w1.heap.size, Obj.cells T.cells 28 (0, 0)) :: L), p.1 ≠ w1.heap.size + 1 := by
  intro p hp
  rcases List.mem_cons.1 hp with rfl | hp
  ·dsimp only; omega
  ·have := hl.1 p hp; omega
 exact (h3.upd u4 (by omega) ⟨hn, by omega, by omega⟩).add (by omega) ⟨hn, by omega, by omega⟩ hf
end
structure Kd (w : World) (a pb : Nat) (M M2 : Mem) (L : List (Nat × Obj)) (n0 : Nat) (S : St) (F : Flt) (c e f p q : Nat) (dn : Nat → Bool) (r : Nat → Value) (w1 : World) : Prop where
 k : Kq w a pb (cond (dn c) M2 M) L w1
 b : n0 ≤ w1.heap.size
 ln : (∀ p ∈ L, p.1 < n0) ∧ a < n0 ∧ pb < n0 ∧ w.heap.size ≤ n0
 x : dn e = true → ∃ g, r e = .pointer (some ⟨g, 0, none⟩) ∧ n0 ≤ g ∧ w1.heap[g]? = some (.cells (cond (dn p) S.cells St.zero.cells) 28 (0, 0))
 y : dn f = true → ∃ g, r f = .pointer (some ⟨g, 0, none⟩) ∧ n0 ≤ g ∧ w1.heap[g]? = some (.cells (cond (dn q) (Ym F) (Ym Flt.zero)) 37 (0, 0))
 xo : dn p = true → dn e = true
 yo : dn q = true → dn f = true
theorem Ydx : (28 : TypeId) ≠ 37 := by decide
section
variable {w w1 w2 : World} {a pb n0 : Nat} {M M2 : Mem} {L : List (Nat × Obj)} {S : St} {F : Flt} {c e f p q : Nat} {dn : Nat → Bool} {r : Nat → Value}
theorem Kd.start (h : Kq w a pb M L w1) (M2 : Mem) (S : St) (F : Flt) (c e f p q : Nat) (r : Nat → Value) : Kd w a pb M M2 L w1.heap.size S F c e f p q (fun _ => false) r w1.drew :=
 ⟨h.quiet (Upd.refl [] w1).drew, ((Upd.refl [] w1).drew).size, ⟨h.lts.1, h.lts.2.1, h.lts.2.2, h.u.size⟩, fun h => (by cases h), fun h => (by cases h), fun h => (by cases h), fun h => (by cases h)⟩
theorem Kd.quiet (h : Kd w a pb M M2 L n0 S F c e f p q dn r w1) (u : Upd [] w1 w2) (j : Nat) (h1 : c ≠ j) (h2 : e ≠ j) (h3 : f ≠ j) (h4 : p ≠ j) (h5 : q ≠ j) : Kd w a pb M M2 L n0 S F c e f p q (Yq dn j) r w2 := by
 refine ⟨by rw [Yz h1]; exact h.k.quiet u, Nat.le_trans h.b u.size, h.ln, fun hx => ?_, fun hx => ?_, fun hx => ?_, fun hx => ?_⟩
 ·rw [Yz h2] at hx; rw [Yz h4]; obtain ⟨g, e1, e2, e3⟩ := h.x hx; exact ⟨g, e1, e2, u.get e3 (by simp)⟩
 ·rw [Yz h3] at hx; rw [Yz h5]; obtain ⟨g, e1, e2, e3⟩ := h.y hx; exact ⟨g, e1, e2, u.get e3 (by simp)⟩
 ·rw [Yz h4] at hx; rw [Yz h2]; exact h.xo hx
 ·rw [Yz h5] at hx; rw [Yz h3]; exact h.yo hx
theorem Kd.same (h : Kd w a pb M M2 L n0 S F c e f p q dn r w1) (j : Nat) (h1 : c ≠ j) (h2 : e ≠ j) (h3 : f ≠ j) (h4 : p ≠ j) (h5 : q ≠ j) : Kd w a pb M M2 L n0 S F c e f p q (Yq dn j) r w1 := h.quiet (Upd.refl [] w1) j h1 h2 h3 h4 h5
theorem Kd.call (h : Kd w a pb M M2 L n0 S F c e f p q dn r w1) (hm : Yf w2 a pb M2) (u : Upd [pb] w1 w2) (h2 : e ≠ c) (h3 : f ≠ c) (h4 : p ≠ c) (h5 : q ≠ c) : Kd w a pb M M2 L n0 S F c e f p q (Yq dn c) r w2 := by
 have hl := h.ln
 refine ⟨by rw [bq_eq]; exact h.k.step hm u, Nat.le_trans h.b u.size, h.ln, fun hx => ?_, fun hx => ?_, fun hx => ?_, fun hx => ?_⟩
 ·rw [Yz h2] at hx; rw [Yz h4]; obtain ⟨g, e1, e2, e3⟩ := h.x hx; exact ⟨g, e1, e2, u.get e3 (by simp; omega)⟩
 ·rw [Yz h3] at hx; rw [Yz h5]; obtain ⟨g, e1, e2, e3⟩ := h.y hx; exact ⟨g, e1, e2, u.get e3 (by simp; omega)⟩
 ·rw [Yz h4] at hx; rw [Yz h2]; exact h.xo hx
 ·rw [Yz h5] at hx; rw [Yz h3]; exact h.yo hx
theorem Kd.fin (h : Kd w a pb M M2 L n0 S F c e f p q dn r w1) (hc : dn c = true) (he : dn e = true) (hf : dn f = true) (hp : dn p = true) (hq : dn q = true) :
  ∃ g1 g2, r e = .pointer (some ⟨g1, 0, none⟩) ∧ r f = .pointer (some ⟨g2, 0, none⟩) ∧ Kq w a pb M2 ((g2, .cells (Ym F) 37 (0, 0)) :: (g1, .cells S.cells 28 (0, 0)) :: L) w1 := by
 obtain ⟨g1, a1, a2, a3⟩ := h.x he
 obtain ⟨g2, b1, b2, b3⟩ := h.y hf
 have hl := h.ln
 rw [hp] at a3
 rw [hq] at b3
 have hk := h.k
 rw [hc] at hk
 have h1 := hk.add (b := g1) (by omega) ⟨fun p hp => by have := hl.1 p hp; omega, by omega, by omega⟩ a3
 refine ⟨g1, g2, a1, b1, h1.add (b := g2) (by omega) ⟨fun p hp => ?_, by omega, by omega⟩ b3⟩
 rcases List.mem_cons.1 hp with rfl | hp
 ·dsimp only
  rintro rfl
  rw [a3] at b3
  injection b3 with b3; injection b3 with _ b3 _; exact Ydx b3
 ·have := hl.1 p hp; omega
end
end
def D0 : Mi → Rn → MO := fun _ r => ⟨0, r, Flt.zero⟩
theorem D0_3 (x : Mi) (r : Rn) : (D0 x r).k = 0 ∨ (D0 x r).k = 1 ∨ (D0 x r).k = 2 := .inl rfl
def kL4 : List Mi := [⟨16, 0, 0, 0, 0, 5, false⟩, ⟨1, 1, 0, 0, 0, 7, false⟩, ⟨3, 0, 1, 0, 0, 2, false⟩, ⟨14, 0, 1, 0, 0, 0, false⟩]
def kL3 : List Mi := [⟨16, 0, 0, 0, 0, 5, false⟩, ⟨1, 1, 0, 0, 0, 7, false⟩, ⟨3, 0, 1, 0, 0, 2, false⟩]
def kLd : Mi := ⟨4, 0, 1, 0, 0, 0, false⟩
theorem kL4_ok : ∀ x ∈ kL4, x.Ok := by
 intro x hx
 simp only [kL4, List.mem_cons, List.not_mem_nil, or_false] at hx
 rcases hx with rfl | rfl | rfl | rfl <;> exact ⟨by decide⟩
theorem kL3_ok : ∀ x ∈ kL3 ++ [kLd], x.Ok := by
 intro x hx
 simp only [kL3, kLd, List.cons_append, List.nil_append, List.mem_cons, List.not_mem_nil, or_false] at hx
 rcases hx with rfl | rfl | rfl | rfl <;> exact ⟨by decide⟩
theorem kL4_as : ∀ x ∈ kL4, Ybh (Yv D0) x := by
 intro x hx
 simp only [kL4, List.mem_cons, List.not_mem_nil, or_false] at hx
 rcases hx with rfl | rfl | rfl | rfl
 ·exact Yeo rfl (by decide +kernel) ⟨by decide⟩
 ·exact Ydd rfl (by decide +kernel) ⟨by decide⟩
 ·exact Ycu rfl (by decide +kernel) ⟨by decide⟩
 ·exact as_goto rfl (by decide +kernel) ⟨by decide⟩
theorem kL3_as : ∀ x ∈ kL3 ++ [kLd], Ybh (Yv D0) x := by
 intro x hx
 simp only [kL3, kLd, List.cons_append, List.nil_append, List.mem_cons, List.not_mem_nil, or_false] at hx
 rcases hx with rfl | rfl | rfl | rfl
 ·exact Yeo rfl (by decide +kernel) ⟨by decide⟩
 ·exact Ydd rfl (by decide +kernel) ⟨by decide⟩
 ·exact Ycu rfl (by decide +kernel) ⟨by decide⟩
 ·exact as_load rfl (by decide +kernel) ⟨by decide⟩
def kO1 : MO := Yar (Yv D0) kL4 (rn0 St.zero)
def kO2 : MO := Yar (Yv D0) (kL3 ++ [kLd]) (rn0 St.zero)
theorem kO1_k : outK kO1 = true ∧ outQ kO1 = false ∧ (outS kO1).R 2 = 7 ∧ (outS kO1).pc = 7 := by decide +kernel
theorem kO2_k : outK kO2 = false ∧ outQ kO2 = false ∧ (outS kO2).R 2 = 0 ∧ (outS kO2).pc = 5 := by decide +kernel
theorem kO1_f : outF kO1 = Flt.zero := by kernel_rfl
theorem kO2_f : outF kO2 = ⟨1, 5, 7, 1⟩ := by kernel_rfl
theorem Kn.quiet' {w w1 w2 : World} {a pb : Nat} {M : Mem} {L : List (Nat × Obj)} (h : Kn w a pb M L w1) (u : Upd [] w1 w2) : Kn w a pb M L w2 := h.step (h.m.keep u (by simp) (by simp)) (u.mono (by simp))
theorem Yb8 (w : World) : Calls Tryd.prog 7 #[] w fun e w' => e = .returned (.bool true) ∧ Upd [] w w' := by
 obtain ⟨S1, hS1⟩ : ∃ S, outS kO1 = S := ⟨_, rfl⟩
 obtain ⟨S2, hS2⟩ : ∃ S, outS kO2 = S := ⟨_, rfl⟩
 have a1 := kO1_k
 have a2 := kO2_k
 rw [hS1] at a1
 rw [hS2] at a2
 have c12 : S1.cells[2]? = some (.int .u32 7) := by rw [St.cR _ 2 (by decide), a1.2.2.1]
 have c18 : S1.cells[8]? = some (.int .u32 7) := by rw [show S1.cells[8]? = some (.int .u32 S1.pc) from rfl, a1.2.2.2]
 have c22 : S2.cells[2]? = some (.int .u32 0) := by rw [St.cR _ 2 (by decide), a2.2.2.1]
 have c28 : S2.cells[8]? = some (.int .u32 5) := by rw [show S2.cells[8]? = some (.int .u32 S2.pc) from rfl, a2.2.2.2]
 have HK := Yh_ (And.intro hS1 (And.intro hS2 (And.intro a1 a2)))
 clear hS1 hS2 a1 a2
 have heqF : ∀ w, (binOp .eql 37 (.agg #[.int .i64 1, .int .u32 5, .int .u32 7, .int .i64 1]) (.agg #[.int .i64 1, .int .u32 5, .int .u32 7, .int .i64 1])).run Tryd.prog w = .ok (.bool true) w := fun w => by kernel_rfl
 have tok1 : True := trivial
 go_enter Tryd.func7, Tryd.ntmps7
 go_upto_region 2 with (go_at_call 9; refine (Ye6 _).mono ?_; rintro e w1 ⟨ma, pb, rfl, ha, hp, hM1, hu1⟩; have K0 := Yh_ (show Kn w ma pb Mem.zero [] w1 from Kn.start0 (Upd.refl [] w) ha hp hM1 hu1); clear ha hp hM1 hu1)
 go_upto_region 3 with fail
 have hm := heap_alloc_new w1 (.cells (Yn kL4).toArray 35)
 have hk := K0.out.add ((Upd.refl [] w1).alloc (.cells (Yn kL4).toArray 35)) (Nat.le_refl _) hm
 change Code.wp _ _ _ _ (w1.alloc (.cells (Yn kL4).toArray 35))
 generalize w1.alloc (.cells (Yn kL4).toArray 35) = w2 at *
 generalize w1.heap.size = g1 at *
 have K1 := Yh_ hk
 clear hm hk K0
 go_upto_region 4 with (first
  |(have _t := K1; clear _t; go_at_call 10; refine (Ydw (Yv D0) ma pb g1 St.zero _ kL4 _ K1.out.m St.zero_ok (Ya4 (K1.out.get 0 rfl)) kL4_ok (by unfold maxLen; decide) kL4_as (Yd1 D0_3) (K1.out.t _ (List.mem_singleton.2 rfl)).2.1 (by decide +kernel)).mono ?_; rintro e w3 ⟨rfl, hm, hu⟩; rw [show Yar (Yv D0) kL4 (rn0 St.zero) = kO1 from rfl, HK.out.1, kO1_f, HK.out.2.2.1.1, HK.out.2.2.1.2.1, show Flt.zero.val = .agg #[.int .i64 0, .int .u32 0, .int .u32 0, .int .i64 0] from rfl]; have K2 := Yh_ (K1.out.step hm hu); clear hm hu K1)
  |(have _t := K2; clear _t; refine Ya2 28 rfl ?_; refine Yad S1 w3.heap.size rfl _ _ rfl rfl rfl (heap_alloc2_old w3 _ _) rfl ?_; intro w4 hw; have hk := K2.out.two (F := Flt.zero) (Ya8 hw); have c37 := Ya (Ya8 hw).2.1; have f37 := Yj (Ya8 hw).2.1; have K3 := Yh_ hk; clear hk K2 hw))
 have K4 := Yh_ (show Kn w ma pb Mem.zero [(w3.heap.size + 1, .cells (Ym Flt.zero) 37 (0, 0)), (w3.heap.size, .cells S1.cells 28 (0, 0)), (g1, .cells (Yn kL4).toArray 35 (0, 0))] ((((w4.setCell ⟨w3.heap.size + 1, 0, none⟩ (.int .i64 0)).setCell ⟨w3.heap.size + 1, 1, none⟩ (.int .u32 0)).setCell ⟨w3.heap.size + 1, 2, none⟩ (.int .u32 0)).setCell ⟨w3.heap.size + 1, 3, none⟩ (.int .i64 0)) from K3.out)
 clear K3 c37 f37
 generalize (((w4.setCell ⟨w3.heap.size + 1, 0, none⟩ (.int .i64 0)).setCell ⟨w3.heap.size + 1, 1, none⟩ (.int .u32 0)).setCell ⟨w3.heap.size + 1, 2, none⟩ (.int .u32 0)).setCell ⟨w3.heap.size + 1, 3, none⟩ (.int .i64 0) = w5 at *
 generalize w3.heap.size = g3 at *
 have tkA : True := trivial
 have tkB : True := trivial
 go_upto_region 5 with (first
  |(have _t := tkA; clear _t; at_builtin; refine Yal rfl _ _ rfl w5.heap.size (.slice none 0 0) [] rfl (Ydm _ _) _ kL3 g1 rfl ((Ya4 (c := 4) (K4.out.get 2 rfl)).cut 3 (by decide)) (by decide) (Nat.le_refl _) ?_; intro v6 w6 hg6; have G6 := Yh_ hg6; clear hg6 tkA)
  |(have _t := tkB; have _t2 := G6; clear _t _t2; at_builtin; go_loud (refine Yal rfl _ _ rfl w5.heap.size v6 kL3 rfl (G6.out.o.old ((Upd.refl [] w6).alloc _) (by simp)) _ [kLd] w6.heap.size rfl (Ya4 (l := [kLd]) (c := 1) (T := 35) (f := (0, 0)) (heap_alloc_new w6 (.cells (Yn [kLd]).toArray 35))) (by decide) (Nat.le_trans G6.out.u.size (by simp)) ?_); intro v7 w7 hg7; have hb7 := G6.out.o.block; have hu7 : Upd [] w5 w7 := (G6.out.u.alloc (.cells (Yn [kLd]).toArray 35)).new hg7.u (fun x hx => (hb7 x (by simpa using hx)).1); have G7 := Yh_ (And.intro hg7.o (And.intro (K4.out.quiet' hu7) K4.out.m.pl)); clear hb7 hu7 hg7 tkB G6 K4)
  |(have _t := G7; clear _t; go_at_call 10; obtain ⟨g7, hs7, _, hs8⟩ := G7.out.1.sl; have HS7 := Yh_ (And.intro hs7 (hs8 (by decide))); clear hs7 hs8; refine (Ydw (Yv D0) ma pb g7 St.zero v7 (kL3 ++ [kLd]) _ G7.out.2.1.m St.zero_ok HS7.out.1 kL3_ok (by unfold maxLen; decide) kL3_as (Yd1 D0_3) (by have := HS7.out.2; have := G7.out.2.2; omega) (by decide +kernel)).mono ?_; rintro e w8 ⟨rfl, hm, hu⟩; rw [show Yar (Yv D0) (kL3 ++ [kLd]) (rn0 St.zero) = kO2 from rfl, HK.out.2.1, kO2_f, HK.out.2.2.2.1, HK.out.2.2.2.2.1, show (⟨1, 5, 7, 1⟩ : Flt).val = .agg #[.int .i64 1, .int .u32 5, .int .u32 7, .int .i64 1] from rfl]; have K8 := Yh_ (G7.out.2.1.step hm hu); clear hm hu G7 HS7)
  |(have _t := K8; clear _t; refine Ya2 28 rfl ?_; refine Yad S2 w8.heap.size rfl _ _ rfl rfl rfl (heap_alloc2_old w8 _ _) rfl ?_; intro w9 hw; have hk := K8.out.two (F := ⟨1, 5, 7, 1⟩) (Ya8 hw); have c37 := Ya (Ya8 hw).2.1; have f37 := Yj (Ya8 hw).2.1; have K9 := Yh_ hk; clear hk K8 hw))
 have K10 := Yh_ (show Kn w ma pb Mem.zero [(w8.heap.size + 1, .cells (Ym ⟨1, 5, 7, 1⟩) 37 (0, 0)), (w8.heap.size, .cells S2.cells 28 (0, 0)), (g3 + 1, .cells (Ym Flt.zero) 37 (0, 0)), (g3, .cells S1.cells 28 (0, 0)), (g1, .cells (Yn kL4).toArray 35 (0, 0))] ((((w9.setCell ⟨w8.heap.size + 1, 0, none⟩ (.int .i64 1)).setCell ⟨w8.heap.size + 1, 1, none⟩ (.int .u32 5)).setCell ⟨w8.heap.size + 1, 2, none⟩ (.int .u32 7)).setCell ⟨w8.heap.size + 1, 3, none⟩ (.int .i64 1)) from K9.out)
 clear K9 c37 f37
 generalize ((((w9.setCell ⟨w8.heap.size + 1, 0, none⟩ (.int .i64 1)).setCell ⟨w8.heap.size + 1, 1, none⟩ (.int .u32 5)).setCell ⟨w8.heap.size + 1, 2, none⟩ (.int .u32 7)).setCell ⟨w8.heap.size + 1, 3, none⟩ (.int .i64 1)) = w10 at *
 generalize w8.heap.size = g8 at *
 have tkC : True := trivial
 have tkD : True := trivial
 have tkE : True := trivial
 go_wp2_with (first
  |(have _t := tkC; clear _t; go_at_call 8; refine (Yer _ kL4 g1 _ (Ya4 (c := 4) (K10.out.get 4 rfl)) kL4_ok (by unfold maxLen; decide)).mono ?_; rintro e w11 ⟨rfl, hu⟩; rw [show isL kL4 = true by decide +kernel]; have K11 := Yh_ (K10.out.quiet' hu); clear hu K10 tkC)
  |(have _t := tkD; have _t2 := K11; clear _t _t2; go_at_call 8; refine (Yer _ [Mi.zero] w11.heap.size _ (Ya4 (l := [Mi.zero]) (c := 1) (T := 35) (f := (0, 0)) (heap_alloc_new w11 (.cells (Yn [Mi.zero]).toArray 35))) (by intro x hx; rw [List.mem_singleton.1 hx]; exact ⟨by decide⟩) (by unfold maxLen; decide)).mono ?_; rintro e w12 ⟨rfl, hu⟩; rw [show isL [Mi.zero] = false by decide +kernel]; have K12 := Yh_ (K11.out.quiet' (((Upd.refl [] w11).alloc (.cells (Yn [Mi.zero]).toArray 35)).also hu (by simp))); clear hu K11 tkD; have d1 : ∀ o, w12.cell? ⟨g8 + 1, o, none⟩ = #[.int .i64 1, .int .u32 5, .int .u32 7, .int .i64 1][o]? := Ya (K12.out.get 0 rfl); have d2 := Ya (K12.out.get 1 rfl); have d3 := Ya (K12.out.get 3 rfl); have d4 : ∀ o, w12.cell? ⟨g1, o, none⟩ = #[.int .i64 16, .int .i64 0, .int .i64 0, .int .i64 0, .int .i64 0, .int .u32 5, .bool false, .int .i64 1, .int .i64 1, .int .i64 0, .int .i64 0, .int .i64 0, .int .u32 7, .bool false, .int .i64 3, .int .i64 0, .int .i64 1, .int .i64 0, .int .i64 0, .int .u32 2, .bool false, .int .i64 14, .int .i64 0, .int .i64 1, .int .i64 0, .int .i64 0, .int .u32 0, .bool false][o]? := Ya (K12.out.get 4 rfl))
  |(have _t := tkE; have _t2 := K12; clear _t _t2; go_at_call 11; refine (Text_one _).mono ?_; rintro e w13 ⟨rfl, hu⟩; have K13 := Yh_ (K12.out.quiet' hu); clear hu K12 tkE d1 d2 d3 d4))
 go_ret
 exact ⟨rfl, K13.out.u⟩
theorem Yb4 (f : Mi → Rn → MO) (l m : List Mi) (r : Rn) (h : (Yar f l r).k = 0) : Yar f (l ++ m) r = Yar f m (Yar f l r).r := by
 induction l generalizing r with
 |nil => rfl
 |cons x l ih =>
  simp only [Yar, List.cons_append] at h ⊢
  by_cases hx : (f x r).k = 0
  ·rw [if_pos hx] at h ⊢
   rw [if_pos hx]
   exact ih _ h
  ·rw [if_neg hx] at h; exact absurd h hx
def tmC (b v : Int) : Mi := ⟨1, b % 64, 0, 0, 0, v, false⟩
def tmS (t i : Int) : Mi := ⟨3, 0, t + i, 0, 0, i, false⟩
def tmL (L V : List Int) (q : Nat) : List Mi := (List.range q).map fun i => tmC (L.getD i 0) (V.getD i 0)
def tmW (L V : List Int) : Nat → Nat → Int
 |0, _ => 0
 |q + 1, j => if j = (L.getD q 0 % 64).toNat then V.getD q 0 else tmW L V q j
def tmR (t : Int) (i : Nat) : List Mi := (List.range i).map fun (j : Nat) => tmS t (j : Int)
theorem Yes (L V : List Int) (q : Nat) : tmL L V (q + 1) = tmL L V q ++ [tmC (L.getD q 0) (V.getD q 0)] := by simp [tmL, List.range_succ]
theorem Yem (t : Int) (i : Nat) : tmR t (i + 1) = tmR t i ++ [tmS t i] := by simp [tmR, List.range_succ]
theorem Yd3 (L V : List Int) (q : Nat) : (tmL L V q).length = q := by simp [tmL]
theorem Ye7 (t : Int) (i : Nat) : (tmR t i).length = i := by simp [tmR]
theorem Yd5 (D : Mi → Rn → MO) (L V : List Int) (q : Nat) : Yar (Yv D) (tmL L V q) (rn0 St.zero) = ⟨0, ⟨St.zero, St.zero, tmW L V q⟩, Flt.zero⟩ := by
 induction q with
 |zero => rfl
 |succ q ih =>
  rw [Yes, Yb4 _ _ _ _ (by rw [ih]), ih]
  rfl
theorem tm_regs (D : Mi → Rn → MO) (T : Nat → Int) (t : Int) (i : Nat) (hi : i ≤ 8) : ∃ s, Yar (Yv D) (tmR t i) ⟨St.zero, St.zero, T⟩ = ⟨0, ⟨s, St.zero, T⟩, Flt.zero⟩ ∧ ∀ j, j < i → s.R j = T (t + (j : Int)).toNat := by
 induction i with
 |zero => exact ⟨St.zero, rfl, fun j hj => by omega⟩
 |succ i ih =>
  obtain ⟨s, h1, h2⟩ := ih (by omega)
  refine ⟨s.setR i (T (t + (i : Int)).toNat), ?_, fun j hj => ?_⟩
  ·rw [Yem, Yb4 _ _ _ _ (by rw [h1]), h1]
   rfl
  ·unfold St.setR
   dsimp only
   by_cases e : j = i
   ·rw [if_pos e, e]
   ·rw [if_neg e]; exact h2 j (by omega)
theorem tm_run (D : Mi → Rn → MO) (L V : List Int) (q : Nat) (t : Int) : ∃ s, Yar (Yv D) (tmL L V q ++ tmR t 8) (rn0 St.zero) = ⟨0, ⟨s, St.zero, tmW L V q⟩, Flt.zero⟩ ∧ ∀ j, j < 8 → s.R j = tmW L V q (t + (j : Int)).toNat := by
 obtain ⟨s, h1, h2⟩ := tm_regs D (tmW L V q) t 8 (Nat.le_refl _)
 refine ⟨s, ?_, h2⟩
 rw [Yb4 _ _ _ _ (by rw [Yd5]), Yd5]
 exact h1
theorem tm_inT {t : Int} (h : 0 ≤ t ∧ t < 64) : inT t = true := by simp [inT]; omega
theorem tmC_ok (b v : Int) (hb : 0 ≤ b) (hv : 0 ≤ v ∧ v < 4294967296) : (tmC b v).Ok ∧ (tmC b v).is = true := by
 refine ⟨⟨hv⟩, ?_⟩
 unfold Mi.is Mi.tOk tmC
 dsimp only
 rw [tm_inT (by omega : 0 ≤ b % 64 ∧ b % 64 < 64)]
 rfl
theorem tmS_ok (t i : Int) (ht : 0 ≤ t + i ∧ t + i < 64) (hi : 0 ≤ i ∧ i < 8) : (tmS t i).Ok ∧ (tmS t i).is = true := by
 refine ⟨⟨by show 0 ≤ i ∧ i < 4294967296; omega⟩, ?_⟩
 unfold Mi.is Mi.tOk tmS
 dsimp only
 rw [tm_inT ht]
 show (true && btw i 0 7) = true
 simp [btw]; omega
theorem tm_all (L V : List Int) (q : Nat) (t : Int) (hL : ∀ i, 0 ≤ L.getD i 0) (hV : ∀ i, 0 ≤ V.getD i 0 ∧ V.getD i 0 < 4294967296) (ht : 0 ≤ t ∧ t ≤ 56) :
  (∀ x ∈ tmL L V q ++ tmR t 8, x.Ok ∧ x.is = true) ∧ ∀ x ∈ tmL L V q ++ tmR t 8, Ybh (Yv D0) x := by
 have h : ∀ x ∈ tmL L V q ++ tmR t 8, (x.Ok ∧ x.is = true) ∧ (x.k = 1 ∨ x.k = 3) := by
  intro x hx
  rw [List.mem_append] at hx
  rcases hx with hx | hx
  ·obtain ⟨i, _, rfl⟩ := List.mem_map.1 hx
   exact ⟨tmC_ok _ _ (hL i) (hV i), .inl rfl⟩
  ·obtain ⟨i, hi, rfl⟩ := List.mem_map.1 hx
   rw [List.mem_range] at hi
   exact ⟨tmS_ok _ _ (by omega) (by omega), .inr rfl⟩
 exact ⟨fun x hx => (h x hx).1, fun x hx => by
  obtain ⟨⟨h1, h2⟩, h3 | h3⟩ := h x hx
  ·exact Ydd h3 h2 h1
  ·exact Ycu h3 h2 h1⟩
theorem tm_isL {l : List Mi} (h : ∀ x ∈ l, x.Ok ∧ x.is = true) (hn : l.length ≤ 200) : isL l = true := by
 unfold isL
 rw [decide_eq_true hn, Bool.and_true, List.all_eq_true]
 exact fun x hx => (h x hx).2
section
open Go.WideShapes Go.ChangeShapes
def Rp (w : World) (v : Value) (l : List Int) (g : Nat) : Prop :=
 (v = .slice none 0 0 ∧ l = []) ∨ ∃ o c C T f, v = .slice (some ⟨g, o, none⟩) l.length c ∧ l.length ≤ c ∧ w.heap[g]? = some (.cells C T f) ∧ ∀ i, i < l.length → C[o + i]? = some (.int .u32 (l.getD i 0))
theorem Rp.form {w : World} {v : Value} {l : List Int} {g : Nat} (h : Rp w v l g) : ∃ b c, v = .slice b l.length c := by
 rcases h with ⟨h1, h2⟩ | ⟨o, c, _, _, _, h1, _⟩
 ·exact ⟨none, 0, by rw [h1, h2]; rfl⟩
 ·exact ⟨_, _, h1⟩
theorem Rp.keep {w w' : World} {v : Value} {l : List Int} {g : Nat} {S : List Nat} (h : Rp w v l g) (u : Upd S w w') (hg : g ∉ S) : Rp w' v l g := by
 rcases h with h | ⟨o, c, C, T, f, h1, h2, h3, h4⟩
 ·exact .inl h
 ·exact .inr ⟨o, c, C, T, f, h1, h2, u.get h3 hg, h4⟩
theorem Rp.old {w w' : World} {v : Value} {l : List Int} {g : Nat} (h : Rp w v l g) (u : Upd [] w w') : Rp w' v l g := h.keep u (by simp)
theorem Rp.cell {w : World} {b : Option Addr} {n c : Nat} {l : List Int} {g : Nat} (h : Rp w (.slice b n c) l g) (hl : 0 < l.length) : ∃ o, b = some ⟨g, o, none⟩ ∧ n = l.length ∧ ∀ i, i < l.length → w.cell? ⟨g, o + i, none⟩ = some (.int .u32 (l.getD i 0)) := by
 rcases h with ⟨h1, h2⟩ | ⟨o, c', C, T, f, h1, h2, h3, h4⟩
 ·rw [h2] at hl; cases hl
 ·injection h1 with e1 e2 e3
  exact ⟨o, e1, e2, fun i hi => by rw [Ya h3]; exact h4 i hi⟩
theorem wf_word {z : Int} (h : (Lit.int .u32 z).wf = true) : 0 ≤ z ∧ z < 4294967296 := by
 simp [Lit.wf, IntKind.min, IntKind.max, IntKind.signed, IntKind.bits] at h
 omega
theorem Yfq : Tryd.prog.cellsOf 22 = 1 := by kernel_rfl
theorem Ye9 {H : Type} {enc : TypeId × Value → H} {w : World} {t : TypeId} (ht : Tryd.prog.underlying t = some (.slice 22)) {b0 : Nat} {v : Value} {d : DataW H} {p : List MemPlace}
  (hval : Value.okWide Tryd.prog w .any b0 t v) (h : DataW.Trod enc Tryd.prog w 0 (fun _ => true) true t v d p) : ∃ L g, Rp w v L g ∧ (∀ i, 0 ≤ L.getD i 0 ∧ L.getD i 0 < 4294967296) ∧ (v = .slice none 0 0 ∨ g < w.heap.size) ∧ L.length ≤ maxLen := by
 obtain ⟨a1, len, cap, rfl⟩ := okWide_slice ht hval
 obtain ⟨fuel, hf⟩ := h
 rcases open_ints ht Tryd.underlying22 Yfq hf with ⟨hcs, hx⟩ | ⟨a, len', cap', zs, hcs, _, hl, hm, hz, hx, hcell, hwz⟩
 ·simp [Value.cells] at hcs
  obtain ⟨rfl, rfl, rfl⟩ := hcs
  exact ⟨[], 0, .inl ⟨rfl, rfl⟩, fun i => by simp, .inl rfl, Nat.zero_le _⟩
 ·simp [Value.cells] at hcs
  obtain ⟨rfl, rfl, rfl⟩ := hcs
  simp only [if_true] at hz
  simp only [Value.okWide, ht, Cell.okWide, Cell.ok, World.has] at hval
  obtain ⟨_, _, _, hsp, row, cells, hsh, _⟩ := hval
  obtain ⟨ab, ao, spot⟩ := a
  simp only at hsp
  subst hsp
  have hb : ∃ C f, w.heap[ab]? = some (.cells C row f) := by
   unfold World.shape? at hsh
   split at hsh
   ·rename_i c e f hh
    injection hsh with hsh
    injection hsh with h1 _
    subst h1
    exact ⟨c, f, hh⟩
   ·cases hsh
  obtain ⟨C, f, hb⟩ := hb
  have hlen : (zs.take len).length = len := by rw [List.length_take]; omega
  refine ⟨zs.take len, ab, .inr ⟨ao, cap, C, row, f, by rw [hlen], by omega, hb, fun i hi => ?_⟩, fun i => ?_, .inr (Ye hb), by omega⟩
  ·rw [hlen] at hi
   have hc := hcell i (by omega)
   rw [Addr.add_lit, Ya hb] at hc
   rw [hc, List.getD_eq_getElem?_getD, List.getD_eq_getElem?_getD, List.getElem?_take, if_pos hi]
  ·rw [List.getD_eq_getElem?_getD, List.getElem?_take]
   split
   ·by_cases hi : i < zs.length
    ·rw [List.getElem?_eq_getElem hi, Option.getD_some]; exact wf_word (hwz _ (List.getElem_mem hi))
    ·rw [List.getElem?_eq_none (by omega)]; simp
   ·simp
end
section
structure Vs (w : World) (k : Nat) (x : Mi) (dn : Nat → Bool) (r : Nat → Value) (w1 : World) : Prop where
 u : Upd [] w w1
 x : dn k = true → ∃ g, r k = .slice (some ⟨g, 0, none⟩) 1 1 ∧ w.heap.size ≤ g ∧ w1.heap[g]? = some (.cells (Yn [x]).toArray 35 (0, 0))
section
variable {w w1 w2 : World} {k : Nat} {x : Mi} {dn : Nat → Bool} {r : Nat → Value}
theorem Vs.start (w : World) (k : Nat) (x : Mi) (r : Nat → Value) : Vs w k x (fun _ => false) r w.drew := ⟨(Upd.refl [] w).drew, fun h => (by cases h)⟩
theorem Vs.same (h : Vs w k x dn r w1) (j : Nat) (h1 : k ≠ j) : Vs w k x (Yq dn j) r w1 := ⟨h.u, fun hx => by rw [Yz h1] at hx; exact h.x hx⟩
theorem Vs.lay (h : Vs w k x dn r w1) : Vs w k x (Yq dn k) (Ybz r k (.slice (some ⟨w1.heap.size, 0, none⟩) 1 1)) (w1.alloc (.cells (Yn [x]).toArray 35)) :=
 ⟨h.u.alloc _, fun _ => ⟨_, vq_eq, h.u.size, heap_alloc_new _ _⟩⟩
end
theorem rp_len {w : World} {v : Value} {l : List Int} {g : Nat} (h : Rp w v l g) (hl : 0 < l.length) : ∃ o c, v = .slice (some ⟨g, o, none⟩) l.length c ∧ ∀ w', Upd [] w w' → ∀ i, i < l.length → w'.cell? ⟨g, o + i, none⟩ = some (.int .u32 (l.getD i 0)) := by
 rcases h with ⟨h1, h2⟩ | ⟨o, c, C, T, f, h1, h2, h3, h4⟩
 ·rw [h2] at hl; cases hl
 ·exact ⟨o, c, h1, fun w' u i hi => by rw [Ya (u.get h3 (by simp))]; exact h4 i hi⟩
theorem by_len {w : World} {v : Value} {l : List Int} {g : Nat} (h : BySl w v l g) (hl : 0 < l.length) : ∃ o c, v = .slice (some ⟨g, o, none⟩) l.length c ∧ ∀ w', Upd [] w w' → ∀ i, i < l.length → w'.cell? ⟨g, o + i, none⟩ = some (.int .u8 (l.getD i 0)) := by
 rcases h with ⟨h1, h2⟩ | ⟨o, c, C, T, f, h1, h2, h3⟩
 ·rw [h2] at hl; cases hl
 ·exact ⟨o, c, h1, fun w' u i hi => by rw [Ya (u.get h2 (by simp))]; exact h3 i hi⟩
def Yx (T : Nat → Int) : Array Value := (Ycd T).toArray
theorem Yb3 (T : Nat → Int) (j : Nat) (hj : j < 64) : (Yx T)[j]? = some (.int .u32 (T j)) := by
 unfold Yx
 rw [List.getElem?_toArray, Ycd, List.getElem?_map, List.getElem?_range hj]
 rfl
theorem Yfg (T : Nat → Int) (j : Nat) (v : Int) (hj : j < 64) : (Yx T).setIfInBounds j (.int .u32 v) = Yx (fun i => if i = j then v else T i) := by
 apply Array.ext_getElem?
 intro k
 rw [Array.getElem?_setIfInBounds]
 have hs : (Yx T).size = 64 := by simp [Yx, Yci]
 have hs2 : (Yx (fun i => if i = j then v else T i)).size = 64 := by simp [Yx, Yci]
 by_cases hk : k < 64
 ·rw [Yb3 _ k hk, Yb3 _ k hk]
  by_cases e : j = k
  ·rw [if_pos e, hs, if_pos hj]; simp [e]
  ·rw [if_neg e, if_neg (fun h => e h.symm)]
 ·rw [if_neg (by omega), Array.getElem?_eq_none (by omega), Array.getElem?_eq_none (by omega)]
theorem Kn.far {w w1 w2 : World} {a pb B : Nat} {M : Mem} {L : List (Nat × Obj)} {S : List Nat} (h : Kn w a pb M L w1) (u : Upd S w1 w2) (hS : ∀ x ∈ S, B ≤ x) (hB : (∀ p ∈ L, p.1 < B) ∧ a < B ∧ pb < B) (hw : w.heap.size ≤ B) : Kn w a pb M L w2 :=
 ⟨h.m.keep u (fun hh => by have := hS _ hh; omega) (fun hh => by have := hS _ hh; omega), h.u.also u (fun x hx => .inr (Nat.le_trans hw (hS x hx))), fun p hp => u.get (h.v p hp) (fun hh => by have := hS _ hh; have := hB.1 p hp; omega), h.s, fun p hp => ⟨Nat.lt_of_lt_of_le (h.t p hp).1 u.size, (h.t p hp).2⟩, h.l, h.w⟩
theorem Kn.tail2 {w w1 : World} {a pb : Nat} {M : Mem} {L : List (Nat × Obj)} {p1 p2 : Nat × Obj} (h : Kn w a pb M (p1 :: p2 :: L) w1) : Kn w a pb M L w1 :=
 ⟨h.m, h.u, fun p hp => h.v p (by simp [hp]), (List.pairwise_cons.1 (List.pairwise_cons.1 h.s).2).2, fun p hp => h.t p (by simp [hp]), h.l, fun p hp => h.w p (by simp [hp])⟩
theorem Ydq (vl vv : Value) (L V : List Int) (gl gv : Nat) (w : World) (hl : BArg w vl L gl) (hv : Rp w vv V gv) (hV : ∀ i, 0 ≤ V.getD i 0 ∧ V.getD i 0 < 4294967296) (hn : V.length ≤ maxLen) :
  Calls Tryd.prog 5 #[vl, vv] w fun e w' => e = .returned (.bool true) ∧ Upd [] w w' := by
 obtain ⟨bl, cl, rfl⟩ := hl.b.form
 obtain ⟨bv, cv, rfl⟩ := hv.form
 obtain ⟨ln, hln⟩ : ∃ ln : Int, ln = (L.length : Int) := ⟨_, rfl⟩
 obtain ⟨vn, hvn⟩ : ∃ vn : Int, vn = (V.length : Int) := ⟨_, rfl⟩
 have ec : ((L.length : Nat) : Int) = ln := hln.symm
 have ec2 : ((V.length : Nat) : Int) = vn := hvn.symm
 have HA := Yh_ (And.intro hl (And.intro hv (And.intro hV (And.intro hn (And.intro hln hvn)))))
 have tok : True := trivial
 have lenc : ∀ (P : Prop) [Decidable P], True := fun _ _ => trivial
 clear lenc hl hv hV hn hln hvn
 by_cases h60 : 60 < ln
 ·have d0 : decide (60 < ln) = true := by simp [h60]
  clear h60
  go_enter Tryd.func5, Tryd.ntmps5
  go_wp2_with (have _t := tok; clear _t; go_at_call 7; refine (Yb8 _).mono ?_; rintro e w0 ⟨rfl, hu0⟩; have H0 := Yh_ hu0; clear hu0 tok)
  go_ret
  exact ⟨rfl, H0.out⟩
 ·have d0 : decide (60 < ln) = false := by simp [h60]
  by_cases hvl : vn < ln
  ·have d1 : decide (vn < ln) = true := by simp [hvl]
   clear h60 hvl
   go_enter Tryd.func5, Tryd.ntmps5
   go_wp2_with (have _t := tok; clear _t; go_at_call 7; refine (Yb8 _).mono ?_; rintro e w0 ⟨rfl, hu0⟩; have H0 := Yh_ hu0; clear hu0 tok)
   go_ret
   exact ⟨rfl, H0.out⟩
  ·have d1 : decide (vn < ln) = false := by simp [hvl]
   have HN := Yh_ (show ln ≤ 60 ∧ ln ≤ vn by omega)
   clear h60 hvl
   go_enter Tryd.func5, Tryd.ntmps5
   go_upto_region 7 with (first
    |(have _t := tok; clear _t; go_at_call 7; refine (Yb8 _).mono ?_; rintro e w0 ⟨rfl, hu0⟩; clear tok)
    |(have _t := hu0; clear _t; go_at_call 9; refine (Ye6 _).mono ?_; rintro e w1 ⟨ma, pb, rfl, ha, hp, hM1, hu1⟩; have K0 := Yh_ (show Kn w ma pb Mem.zero [] w1 from Kn.start0 hu0 ha hp hM1 hu1); clear hu0 hu1 ha hp hM1))
   have hm := heap_alloc_new w1 (.cells (Yx fun _ => 0) 44)
   have hk := K0.out.add ((Upd.refl [] w1).alloc (.cells (Yx fun _ => 0) 44)) (Nat.le_refl _) hm
   change Code.wp _ _ _ _ (w1.alloc (.cells (Yx fun _ => 0) 44))
   generalize w1.alloc (.cells (Yx fun _ => 0) 44) = w2 at *
   generalize w1.heap.size = g1 at *
   have K1 := Yh_ hk
   have K1B := Yh_ (show ma < w2.heap.size ∧ pb < w2.heap.size ∧ w.heap.size ≤ w2.heap.size from ⟨hk.m.al, hk.m.pl, hk.u.size⟩)
   clear hm hk K0
   go_wp2_with fail
   go_loopw [7, 8] (fun v i wr => ∃ q : Int, i = .int .i64 q ∧ Hid (0 ≤ q ∧ q ≤ ln) ∧ Hid (Yac wr w2.heap.size v (tmL L V q.toNat)) ∧ Hid (Kn w ma pb Mem.zero [(g1, .cells (Yx (tmW L V q.toNat)) 44 (0, 0))] wr ∧ w2.heap.size ≤ wr.heap.size ∧ g1 < w2.heap.size)) (fun _ i _ => (ln - intOf i).toNat)
   case atStart => exact ⟨0, rfl, Yh_ (by have := HA.out.2.2.2.2.1; omega), Yh_ (Ydm _ _), Yh_ ⟨K1.out, Nat.le_refl _, (K1.out.t _ (List.mem_singleton.2 rfl)).1⟩⟩
   case round =>
    clear K1
    obtain ⟨q, rfl, hq, HO, HK⟩ := hrel
    by_cases hlt : q < ln
    ·have dlt : decide (q < ln) = true := by simp [hlt]
     have hq0 := hq.out
     have hl0 := HA.out.2.2.2.2
     have hn0 := HN.out
     obtain ⟨k, hk⟩ : ∃ k : Nat, q = k := ⟨q.toNat, by omega⟩
     obtain ⟨ol, cl', hbl, hcl⟩ := by_len HA.out.1.b (by omega)
     injection hbl with hbl _ _
     subst hbl
     obtain ⟨ov, cv', hbv, hcv⟩ := rp_len HA.out.2.1 (by omega)
     injection hbv with hbv _ _
     subst hbv
     have hqt : q.toNat = k := by omega
     obtain ⟨b, hb⟩ : ∃ b, L.getD k 0 = b := ⟨_, rfl⟩
     obtain ⟨c, hc⟩ : ∃ c, V.getD k 0 = c := ⟨_, rfl⟩
     have hb0 : 0 ≤ b ∧ b ≤ 255 := by rw [← hb]; exact HA.out.1.r k
     have hc0 : 0 ≤ c ∧ c < 4294967296 := by rw [← hc]; exact HA.out.2.2.1 k
     obtain ⟨bm, hbm⟩ : ∃ bm, b % 64 = bm := ⟨_, rfl⟩
     have e3 : b.tmod 64 = bm := by rw [Int.tmod_eq_emod_of_nonneg hb0.1, hbm]
     have bm0 : 0 ≤ bm ∧ bm < 64 := by omega
     have hkl : k < L.length := by omega
     have hkv : k < V.length := by omega
     have HC := Yh_ (show (∀ w', Upd [] w w' → w'.cell? ⟨gl, ol + k, none⟩ = some (.int .u8 b)) ∧ (∀ w', Upd [] w w' → w'.cell? ⟨gv, ov + k, none⟩ = some (.int .u32 c)) from ⟨fun w' u => by rw [hcl w' u k hkl, hb], fun w' u => by rw [hcv w' u k hkv, hc]⟩)
     have bq : 0 ≤ q ∧ q < ln := by omega
     have bv1 : q < vn := by omega
     have HB0 := Yh_ (And.intro hqt (And.intro bq (And.intro (And.intro hb hc) hbm)))
     have HTC := Yh_ (show (⟨1, bm, 0, 0, 0, c, false⟩ : Mi) = tmC (L.getD k 0) (V.getD k 0) by rw [hb, hc, ← hbm]; rfl)
     have HNU := Yh_ (show (tmL L V q.toNat).length + 1 ≤ 10000 ∧ (q + 1).toNat = q.toNat + 1 ∧ (0 ≤ q + 1 ∧ q + 1 ≤ ln) ∧ (ln - (q + 1)).toNat < (ln - q).toNat by rw [Yd3]; omega)
     have HBM := Yh_ (show bm.toNat < 64 ∧ (b % 64).toNat = bm.toNat by omega)
     have HW := Yh_ (show wrap64 bm = bm ∧ wrap64 (q + 1) = q + 1 by unfold wrap64; omega)
     subst hk
     clear hq0 hl0 hn0 hcl hcv hb hc hbm hkl hkv hlt hb0
     have HTW := Yh_ (show tmW L V (k + 1) = fun i => if i = bm.toNat then c else tmW L V k i by
      funext i
      show (if i = (L.getD k 0 % 64).toNat then V.getD k 0 else _) = _
      rw [HB0.out.2.2.1.1, HB0.out.2.2.1.2, HBM.out.2])
     have HO' := Yh_ (show Yac wr w2.heap.size u7 (tmL L V k) from HO.out)
     have HK' := Yh_ (show Kn w ma pb Mem.zero [(g1, .cells (Yx (tmW L V k)) 44 (0, 0))] wr ∧ w2.heap.size ≤ wr.heap.size ∧ g1 < w2.heap.size from HK.out)
     clear HO HK
     have HO := HO'
     have HK := HK'
     clear HO' HK'
     have ew := HW.out.1
     have e1 := HW.out.2
     clear HW
     go_upto_region 11 with fail
     refine Yeh 13 (Vs wr 12 ⟨1, bm, 0, 0, 0, c, false⟩) (fun _ _ => False) (by kernel_rfl) (by decide +kernel) (fun r0 => Vs.start wr 12 ⟨1, bm, 0, 0, 0, c, false⟩ r0) (fun _ _ _ h => h.elim) ?_
     simp only [List.take_succ_cons, List.take_zero, List.drop_succ_cons, List.drop_zero]
     iterate 12
      apply Ybt rfl rfl
      ·intro dn r0 K hd hdep hK w5 hB2
       have hB1 := hB2.u
       have c1 := HC.out.1 w5 (HK.out.1.u.also hB1 (by simp)); have c2 := HC.out.2 w5 (HK.out.1.u.also hB1 (by simp))
       have HB := Yh_ hB2
       clear hB1 hB2 hdep
       go_wp2_with fail
       first
       |exact hK _ (HB.out.same _ (by decide))
       |exact HB.out.same _ (by decide)
      ·exact ⟨_, rfl⟩
     refine Ydn rfl (fun _ => rfl) 48 rfl (by simp [Act.put]) ?_ ?_
     ·intro dn r0 K hd w5 hB2 hK
      have HB := Yh_ hB2
      clear hB2
      simp only [Yg]
      go_wp2_with fail
      first
      |exact hK (.slice (some ⟨w5.heap.size, 0, none⟩) 1 1) _ HB.out.lay
      |exact HB.out.lay
     refine Yd4 (fun _ r0 w6 dn hall hB2 => ?_)
     obtain ⟨g, e2, hgl, hB1⟩ := hB2.x (hall 12 (by decide))
     have hU := hB2.u
     show wpList _ _ _ _ (Act.put (Yg _ _ [] _) (some 48) (r0 12)) _
     rw [e2]
     simp only [Yg]
     have H6 := Yh_ (And.intro hB1 (And.intro hU hgl))
     clear e2 hall hB2 hB1 hU hgl
     go_upto_region 12 with (at_builtin; refine Yal rfl _ _ rfl w2.heap.size u7 (tmL L V k) rfl (HO.out.old H6.out.2.1 (by simp)) _ [⟨1, bm, 0, 0, 0, c, false⟩] g rfl (Ya4 (l := [⟨1, bm, 0, 0, 0, c, false⟩]) (c := 1) H6.out.1) HNU.out.1 (Nat.le_trans HK.out.2.1 H6.out.2.1.size) ?_; intro v7 w7 hg; have hb7 := HO.out.block; have hu7 : Upd [] w2 w2 := Upd.refl _ _; have O7 := Yh_ (show Yac w7 w2.heap.size v7 (tmL L V (k + 1)) by rw [Yes, ← HTC.out]; exact hg.o); have K7 := Yh_ (show Kn w ma pb Mem.zero [(g1, .cells (Yx (tmW L V k)) 44 (0, 0))] w7 ∧ w2.heap.size ≤ w7.heap.size ∧ g1 < w2.heap.size from ⟨(HK.out.1.quiet' H6.out.2.1).far hg.u (fun x hx => (hb7 x (by simpa using hx)).1) ⟨fun p hp => by rw [List.mem_singleton.1 hp]; exact HK.out.2.2, K1B.out.1, K1B.out.2.1⟩ K1B.out.2.2, Nat.le_trans (Nat.le_trans HK.out.2.1 H6.out.2.1.size) hg.u.size, HK.out.2.2⟩); clear hg hb7 hu7 H6 HO)
     refine Ybe 10 (fun w8 => ∃ n, w8 = w7.drewN n) (fun _ _ => False) (by kernel_rfl) (by decide +kernel) ⟨1, rfl⟩ (fun _ _ _ h => h.elim) ?_
     simp only [List.take_succ_cons, List.take_zero, List.drop_succ_cons, List.drop_zero]
     have c1 := HC.out.1 w7 (K7.out.1.u)
     have c2 := HC.out.2 w7 (K7.out.1.u)
     iterate 10
      apply Yag rfl rfl
      ·intro K hK w5 hB1
       obtain ⟨n, rfl⟩ := hB1
       go_wp2_with fail
       first | exact hK _ ⟨n, rfl⟩ | exact ⟨n, rfl⟩
      ·exact ⟨_, rfl⟩
     refine Yav (fun _ w8 hB1 => ?_)
     obtain ⟨nn, rfl⟩ := hB1
     have hk8 := K7.out.1.quiet' (Yu (Upd.refl [] w7) nn)
     have O8 := Yh_ (O7.out.old (Yu (Upd.refl [] w7) nn) (by simp))
     have K8 := Yh_ (And.intro hk8 (And.intro K7.out.2.1 K7.out.2.2))
     have cw := Ya (hk8.get 0 rfl)
     have ca := Yb3 (tmW L V k) bm.toNat HBM.out.1
     have cf := Yj (hk8.get 0 rfl)
     have hK2 := hk8.put 0 rfl ((Upd.refl [g1] (w7.drewN nn)).setCell (p := ⟨g1, bm.toNat, none⟩) (.inl (by simp)) (.int .u32 c)) (Yc (hk8.get 0 rfl) bm.toNat (.int .u32 c))
     rw [Yfg _ _ _ HBM.out.1] at hK2
     have hO2 := O8.out.old (S := [g1]) ((Upd.refl [g1] (w7.drewN nn)).setCell (p := ⟨g1, bm.toNat, none⟩) (.inl (by simp)) (.int .u32 c)) (by simpa using Or.inl K8.out.2.2)
     have hs2 : w2.heap.size ≤ ((w7.drewN nn).setCell ⟨g1, bm.toNat, none⟩ (.int .u32 c)).heap.size := by simpa using K8.out.2.1
     have KE := Yh_ (And.intro hK2 (And.intro hO2 hs2))
     clear hk8 K7 O7 hK2 hO2 hs2 c1 c2
     generalize w7.drewN nn = w8 at *
     go_wp2_with fail
     have K9 := Yh_ (show Kn w ma pb Mem.zero [(g1, .cells (Yx (tmW L V (k + 1))) 44 (0, 0))] (w8.setCell ⟨g1, bm.toNat, none⟩ (.int .u32 c)) ∧ w2.heap.size ≤ (w8.setCell ⟨g1, bm.toNat, none⟩ (.int .u32 c)).heap.size ∧ g1 < w2.heap.size from ⟨HTW.out ▸ KE.out.1, KE.out.2.2, HK.out.2.2⟩)
     clear cw ca cf
     try simp only [e1]
     go_roundw
     case rel => exact ⟨Yh_ HNU.out.2.2.1, Yh_ KE.out.2.1, Yh_ ⟨K9.out.1, by simpa using K9.out.2.1, K9.out.2.2⟩⟩
     case measure => clear e1 ew e3; have := HB0.out.2.1; simp only [intOf]; omega
    ·have hqe : q = ln := by have := hq.out; omega
     subst hqe
     have dlt : decide (q < q) = false := by simp
     have HN2 := Yh_ (show q.toNat ≤ 60 by have := HN.out; omega)
     have HSL0 := HO.out.sl
     obtain ⟨N, hN⟩ : ∃ N, q.toNat = N := ⟨_, rfl⟩
     rw [hN] at HO HK HN2
     clear hlt hN HSL0
     go_wp2_with fail
     go_loopw [9] (fun x wt => ∃ t : Int, x = .int .i64 t ∧ Hid (0 ≤ t ∧ t ≤ 64 ∧ t % 8 = 0) ∧ Hid (Yac wt w2.heap.size u7 (tmL L V N)) ∧ Hid (Kn w ma pb Mem.zero [(g1, .cells (Yx (tmW L V N)) 44 (0, 0))] wt ∧ w2.heap.size ≤ wt.heap.size ∧ g1 < w2.heap.size)) (fun x _ => (64 - intOf x).toNat)
     case atStart => exact ⟨0, rfl, Yh_ (by decide), HO, HK⟩
     case round =>
      clear HO HK
      obtain ⟨t, rfl, ht, HO, HK⟩ := hrel
      generalize wr = wt at *
      by_cases htl : t < 64
      ·have dlt2 : decide (t < 64) = true := by simp [htl]
       have ht0 : 0 ≤ t ∧ t ≤ 56 := by have := ht.out; omega
       have HT := Yh_ (show (0 ≤ t ∧ t ≤ 56) ∧ (0 ≤ t + 8 ∧ t + 8 ≤ 64 ∧ (t + 8) % 8 = 0) ∧ (64 - (t + 8)).toNat < (64 - t).toNat ∧ wrap64 (t + 8) = t + 8 ∧ (tmL L V N ++ tmR t 8).length ≤ 200 ∧ (tmL L V N ++ tmR t 8).length ≤ maxLen ∧ ([] : List Mi).length + (tmL L V N).length ≤ 10000 by rw [List.length_append, Yd3, Ye7]; have := ht.out; have := HN2.out; unfold wrap64 maxLen; simp; omega)
       have HAL := Yh_ (tm_all L V N t (fun i => (HA.out.1.r i).1) HA.out.2.2.1 ht0)
       obtain ⟨S, hS1, hS2⟩ := tm_run D0 L V N t
       have HS := Yh_ (And.intro hS1 hS2)
       obtain ⟨gq, hsl, _, _⟩ := HO.out.sl
       have HSL := Yh_ hsl
       have HB2 := Yh_ (show (∀ p ∈ [(g1, Obj.cells (Yx (tmW L V N)) 44 (0, 0))], p.1 < wt.heap.size) ∧ ma < wt.heap.size ∧ pb < wt.heap.size from ⟨fun p hp => (HK.out.1.t p hp).1, HK.out.1.m.al, HK.out.1.m.pl⟩)
       clear htl ht0 hS1 hS2 hsl
       have tkA : True := trivial
       go_wp2_with (have _t := tkA; clear _t; at_builtin; refine Yal rfl _ _ rfl wt.heap.size (.slice none 0 0) [] rfl (Ydm _ _) _ (tmL L V N) gq rfl HSL.out HT.out.2.2.2.2.2.2 (Nat.le_refl _) ?_; intro v3 w3 hg; have O3 := Yh_ (show Yac w3 wt.heap.size v3 (tmL L V N ++ tmR t 0) by rw [show tmL L V N ++ tmR t 0 = [] ++ tmL L V N by simp [tmR]]; exact hg.o); have U3 := Yh_ (show Upd [] wt w3 from hg.u); clear hg tkA)
       go_loopw [10, 11] (fun v x wi => ∃ i : Int, x = .int .i64 i ∧ Hid (0 ≤ i ∧ i ≤ 8) ∧ Hid (Yac wi wt.heap.size v (tmL L V N ++ tmR t i.toNat)) ∧ Hid (Upd [] wt wi)) (fun _ x _ => (8 - intOf x).toNat)
       case atStart => exact ⟨0, rfl, Yh_ (by decide), O3, U3⟩
       case round =>
        clear O3 U3
        obtain ⟨i, rfl, hi, O4, U4⟩ := hrel
        generalize wr = wi at *
        by_cases hil : i < 8
        ·have dlt3 : decide (i < 8) = true := by simp [hil]
         have HI := Yh_ (show (0 ≤ i ∧ i < 8) ∧ (i + 1).toNat = i.toNat + 1 ∧ (0 ≤ i + 1 ∧ i + 1 ≤ 8) ∧ ((i.toNat : Nat) : Int) = i ∧ (tmL L V N ++ tmR t i.toNat).length + 1 ≤ 10000 by rw [List.length_append, Yd3, Ye7]; have := hi.out; have := HN2.out; omega)
         have HW := Yh_ (show wrap64 (t + i) = t + i ∧ wrap64 (i + 1) = i + 1 ∧ i % 4294967296 = i by have := hi.out; have := HT.out.1; unfold wrap64; omega)
         have f1 := HW.out.1
         have f2 := HW.out.2.1
         have f3 := HW.out.2.2
         have tkB : True := trivial
         clear hil HW
         go_wp2_with (have _t := tkB; clear _t; at_builtin; refine Yal rfl _ _ rfl wt.heap.size u10 (tmL L V N ++ tmR t i.toNat) rfl (O4.out.old ((Upd.refl [] wi).alloc (.cells (Yn [tmS t i]).toArray 35)) (by simp)) _ [tmS t i] wi.heap.size rfl (Ya4 (l := [tmS t i]) (c := 1) (T := 35) (f := (0, 0)) (heap_alloc_new wi (.cells (Yn [tmS t i]).toArray 35))) HI.out.2.2.2.2 (Nat.le_trans U4.out.size (by simp)) ?_; intro v5 w5 hg; have hb := O4.out.block; have U5 := Yh_ ((U4.out.alloc (.cells (Yn [tmS t i]).toArray 35)).new hg.u (fun x hx => (hb x (by simpa using hx)).1)); have O5 := Yh_ (show Yac w5 wt.heap.size v5 (tmL L V N ++ tmR t (i + 1).toNat) by rw [HI.out.2.1, Yem, ← List.append_assoc, HI.out.2.2.2.1]; exact hg.o); clear hg hb tkB O4 U4)
         try simp only [f2]
         clear f1 f2 f3
         go_roundw
         case rel => exact ⟨i + 1, rfl, Yh_ HI.out.2.2.1, O5, U5⟩
         case measure => have := HI.out.1; simp only [intOf]; omega
        ·have hi8 : i = 8 := by have := hi.out; omega
         subst hi8
         have dlt3 : decide ((8 : Int) < 8) = false := by decide
         have O4' := Yh_ (show Yac wi wt.heap.size u10 (tmL L V N ++ tmR t 8) from O4.out)
         have K4 := Yh_ (HK.out.1.quiet' U4.out)
         have HO4 := Yh_ (HO.out.old U4.out (by simp))
         have S4 := Yh_ U4.out.size
         clear hil O4 U4 hi
         go_upto_region 22 with (first
          |(have _t := K4; clear _t; go_at_call 10; obtain ⟨g7, hs7, _, hs8⟩ := O4'.out.sl; have HS7 := Yh_ (And.intro hs7 (hs8 (by unfold tmR; simp))); clear hs7 hs8; refine (Ydw (Yv D0) ma pb g7 St.zero u10 (tmL L V N ++ tmR t 8) _ K4.out.m St.zero_ok HS7.out.1 (fun x hx => (HAL.out.1 x hx).1) HT.out.2.2.2.2.2.1 HAL.out.2 (Yd1 D0_3) (by have h1 := HS7.out.2; have h2 := HB2.out.2.2; exact fun e => absurd (e ▸ h1) (Nat.not_le.2 h2)) (tm_isL HAL.out.1 HT.out.2.2.2.2.1)).mono ?_; rintro e w8 ⟨rfl, hm, hu⟩; rw [HS.out.1, show outS (⟨0, ⟨S, St.zero, tmW L V N⟩, Flt.zero⟩ : MO) = S from rfl, show (outF (⟨0, ⟨S, St.zero, tmW L V N⟩, Flt.zero⟩ : MO)).val = .agg #[.int .i64 0, .int .u32 0, .int .u32 0, .int .i64 0] from rfl, show outK (⟨0, ⟨S, St.zero, tmW L V N⟩, Flt.zero⟩ : MO) = true from rfl, show outQ (⟨0, ⟨S, St.zero, tmW L V N⟩, Flt.zero⟩ : MO) = false from rfl]; have K8 := Yh_ (K4.out.step hm hu); have O8 := Yh_ (HO4.out.keep hu (fun g hg hh => by have h1 := HO.out.block g hg; have h2 := K1B.out.2.1; rw [List.mem_singleton] at hh; rw [hh] at h1; exact absurd h1.1 (Nat.not_le.2 h2))); have S8 := Yh_ (Nat.le_trans S4.out hu.size); clear hm hu K4 HS7 HO4 S4)
          |(have _t := K8; clear _t; refine Ya2 28 rfl ?_; refine Yad S w8.heap.size rfl _ _ rfl rfl rfl (heap_alloc2_old w8 _ _) rfl ?_; intro w9 hw; have hk := K8.out.two (F := Flt.zero) (Ya8 hw); have c37 := Ya (Ya8 hw).2.1; have f37 := Yj (Ya8 hw).2.1; have hu9 := (Ya8 hw).2.2; have K9 := Yh_ hk; have U9 := Yh_ hu9; clear hk K8 hw hu9))
         have hW := Ybs (S := []) (b := w8.heap.size + 1) U9.out (.inr (Nat.le_succ _)) (.int .i64 0) (.int .u32 0) (.int .u32 0) (.int .i64 0)
         have KE := Yh_ (show (Kn w ma pb Mem.zero [(w8.heap.size + 1, .cells (Ym Flt.zero) 37 (0, 0)), (w8.heap.size, .cells S.cells 28 (0, 0)), (g1, .cells (Yx (tmW L V N)) 44 (0, 0))] ((((w9.setCell ⟨w8.heap.size + 1, 0, none⟩ (.int .i64 0)).setCell ⟨w8.heap.size + 1, 1, none⟩ (.int .u32 0)).setCell ⟨w8.heap.size + 1, 2, none⟩ (.int .u32 0)).setCell ⟨w8.heap.size + 1, 3, none⟩ (.int .i64 0))) ∧ Yac ((((w9.setCell ⟨w8.heap.size + 1, 0, none⟩ (.int .i64 0)).setCell ⟨w8.heap.size + 1, 1, none⟩ (.int .u32 0)).setCell ⟨w8.heap.size + 1, 2, none⟩ (.int .u32 0)).setCell ⟨w8.heap.size + 1, 3, none⟩ (.int .i64 0)) w2.heap.size u7 (tmL L V N) ∧ wt.heap.size ≤ ((((w9.setCell ⟨w8.heap.size + 1, 0, none⟩ (.int .i64 0)).setCell ⟨w8.heap.size + 1, 1, none⟩ (.int .u32 0)).setCell ⟨w8.heap.size + 1, 2, none⟩ (.int .u32 0)).setCell ⟨w8.heap.size + 1, 3, none⟩ (.int .i64 0)).heap.size from ⟨K9.out, O8.out.old hW (by simp), Nat.le_trans S8.out hW.size⟩)
         clear hW K9 O8 S8 U9 c37 f37 O4' HAL
         generalize (((w9.setCell ⟨w8.heap.size + 1, 0, none⟩ (.int .i64 0)).setCell ⟨w8.heap.size + 1, 1, none⟩ (.int .u32 0)).setCell ⟨w8.heap.size + 1, 2, none⟩ (.int .u32 0)).setCell ⟨w8.heap.size + 1, 3, none⟩ (.int .i64 0) = wA at *
         generalize w8.heap.size = g8 at *
         go_wp2_with fail
         go_loopw [16] (fun x wi => ∃ i : Int, x = .int .i64 i ∧ Hid (0 ≤ i ∧ i ≤ 8) ∧ Hid (Kn w ma pb Mem.zero [(g8 + 1, .cells (Ym Flt.zero) 37 (0, 0)), (g8, .cells S.cells 28 (0, 0)), (g1, .cells (Yx (tmW L V N)) 44 (0, 0))] wi ∧ Yac wi w2.heap.size u7 (tmL L V N) ∧ wt.heap.size ≤ wi.heap.size)) (fun x _ => (8 - intOf x).toNat)
         case atStart => exact ⟨0, rfl, Yh_ (by decide), KE⟩
         case round =>
          clear KE
          obtain ⟨i, rfl, hi, K5⟩ := hrel
          generalize wr = wi at *
          by_cases hil : i < 8
          ·have dlt4 : decide (i < 8) = true := by simp [hil]
           obtain ⟨k, hk⟩ : ∃ k : Nat, i = k := ⟨i.toNat, by have := hi.out; omega⟩
           have HI := Yh_ (show k < 8 ∧ (0 ≤ i + 1 ∧ i + 1 ≤ 8) ∧ (t + i).toNat < 64 by have := hi.out; have := HT.out.1; omega)
           have bI : 0 ≤ i ∧ i < 8 := by have := hi.out; omega
           obtain ⟨x, hx⟩ : ∃ x, S.R k = x := ⟨_, rfl⟩
           have cs : wi.cell? ⟨g8, k, none⟩ = some (.int .u32 x) := by rw [← hx]; exact (Ya (K5.out.1.get 1 rfl) k).trans (St.cR _ k HI.out.1)
           have hx2 : tmW L V N (t + (k : Int)).toNat = x := by rw [← hx]; exact (HS.out.2 k HI.out.1).symm
           have cw : wi.cell? ⟨g1, (t + i).toNat, none⟩ = some (.int .u32 x) := by
            rw [hk, ← hx2, ← hk]
            exact (Ya (K5.out.1.get 2 rfl) _).trans (Yb3 _ _ HI.out.2.2)
           have bT : 0 ≤ t + i ∧ t + i < 64 := by have := HT.out.1; have := hi.out; omega
           have hkt : i.toNat = k := by omega
           have HW := Yh_ (show wrap64 (t + i) = t + i ∧ wrap64 (i + 1) = i + 1 by unfold wrap64; omega)
           have f1 := HW.out.1
           have f2 := HW.out.2
           have hne : (x != x) = false := by simp
           have HI2 := Yh_ (And.intro HI.out.2.1 hi.out)
           subst hk
           clear hx hx2 hil HW hi hkt
           go_upto_region 27 with fail
           refine Ybe 9 (fun w8 => ∃ n, w8 = wi.drewN n) (fun _ _ => False) (by kernel_rfl) (by decide +kernel) ⟨1, rfl⟩ (fun _ _ _ h => h.elim) ?_
           simp only [List.take_succ_cons, List.take_zero, List.drop_succ_cons, List.drop_zero]
           iterate 9
            apply Yag rfl rfl
            ·intro K hK w5 hB1
             obtain ⟨n, rfl⟩ := hB1
             go_wp2_with fail
             first | exact hK _ ⟨n, rfl⟩ | exact ⟨n, rfl⟩
            ·exact ⟨_, rfl⟩
           refine Yav (fun _ w8 hB1 => ?_)
           obtain ⟨nn, rfl⟩ := hB1
           have KF := Yh_ (show (Kn w ma pb Mem.zero [(g8 + 1, .cells (Ym Flt.zero) 37 (0, 0)), (g8, .cells S.cells 28 (0, 0)), (g1, .cells (Yx (tmW L V N)) 44 (0, 0))] (wi.drewN nn) ∧ Yac (wi.drewN nn) w2.heap.size u7 (tmL L V N) ∧ wt.heap.size ≤ (wi.drewN nn).heap.size) from ⟨K5.out.1.quiet' (Yu (Upd.refl [] wi) nn), K5.out.2.1.old (Yu (Upd.refl [] wi) nn) (by simp), K5.out.2.2⟩)
           clear cs cw K5
           generalize wi.drewN nn = wj at *
           go_wp2_with fail
           try simp only [f2]
           clear f1 f2
           go_roundw
           case rel => exact ⟨_, rfl, Yh_ HI2.out.1, KF⟩
           case measure => have := HI2.out; have := bI; simp only [intOf]; omega
          ·have hi8 : i = 8 := by have := hi.out; omega
           subst hi8
           have dlt4 : decide ((8 : Int) < 8) = false := by decide
           have e8 := HT.out.2.2.2.1
           clear hil hi
           go_wp2_with fail
           try simp only [e8]
           clear e8
           go_roundw
           case rel => exact ⟨_, rfl, Yh_ HT.out.2.1, Yh_ K5.out.2.1, Yh_ ⟨(Kn.tail2 K5.out.1), Nat.le_trans HK.out.2.1 K5.out.2.2, HK.out.2.2⟩⟩
           case measure => have := HT.out.1; simp only [intOf]; omega
      ·have hte : t = 64 := by have := ht.out; omega
       subst hte
       have dlt2 : decide ((64 : Int) < 64) = false := by decide
       clear htl
       go_wp2_with fail
       go_ret
       exact ⟨rfl, HK.out.1.u⟩
end
end Go.Proofs.YtjkolegknpflfaaDoor
