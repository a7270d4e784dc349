/-
  Parts of the proof (their names shortened by a program). No condition.
-/
import Derived.Test.YtjkolegknpflfaaDoorMg01
import Derived.Test.YtjkolegknpflfaaDoorMg07
import Derived.Deep.Cut
namespace Go.Proofs.YtjkolegknpflfaaDoor
open Go Go.RowKit
set_option linter.unusedVariables false
set_option linter.unusedSimpArgs false
set_option maxRecDepth 100000
set_option maxHeartbeats 16000000
section
structure Kq (w : World) (a pb : Nat) (M : Mem) (L : List (Nat × Obj)) (w1 : World) : Prop where
 m : Yg w1 a pb M
 u : Upd [] w w1
 v : ∀ p ∈ L, w1.heap[p.1]? = some p.2
 s : L.Pairwise (fun p q => p.1 ≠ q.1)
 t : ∀ p ∈ L, p.1 ≠ pb ∧ p.1 ≠ a
 l : w.heap.size ≤ pb
 w : ∀ p ∈ L, w.heap.size ≤ p.1
section
variable {w w0 w1 w2 : World} {a pb b : Nat} {M M2 : Mem} {L : List (Nat × Obj)} {T s' : St} {o o' : Obj}
theorem Kq.of (h : Kn w a pb M L w1) : Kq w a pb M L w1 := ⟨h.m, h.u, h.v, h.s.imp (fun h => Nat.ne_of_gt h), fun p hp => (h.t p hp).2, h.l, h.w⟩
theorem Kq.step (h : Kq w a pb M L w1) (hm : Yg w2 a pb M2) (u : Upd [pb] w1 w2) : Kq w a pb M2 L w2 :=
 ⟨hm, h.u.also u (by have := h.l; simp <;> omega), fun p hp => u.get (h.v p hp) (by have := (h.t p hp).1; simpa using this), h.s, h.t, h.l, h.w⟩
theorem Kq.quiet (h : Kq w a pb M L w1) (u : Upd [] w1 w2) : Kq w a pb M L w2 :=
 ⟨h.m.keep u (by simp) (by simp), h.u.also u (by simp), fun p hp => u.get (h.v p hp) (by simp), h.s, h.t, h.l, h.w⟩
theorem Kq.get (h : Kq w a pb M L w1) (n : Nat) (hn : L[n]? = some (b, o)) : w1.heap[b]? = some o := h.v (b, o) (List.mem_of_getElem? hn)
theorem Kq.lts (h : Kq w a pb M L w1) : (∀ p ∈ L, p.1 < w1.heap.size) ∧ a < w1.heap.size ∧ pb < w1.heap.size :=
 ⟨fun p hp => Yf (h.v p hp), by obtain ⟨C, _, hc⟩ := h.m.hd; exact Yf hc, by obtain ⟨C, _, hc⟩ := h.m.pg; exact Yf hc⟩
theorem Kq.put (h : Kq w a pb M L w1) (n : Nat) (hn : L[n]? = some (b, o)) (u : Upd [b] w1 w2) (ho : w2.heap[b]? = some o') : Kq w a pb M (L.set n (b, o')) w2 := by
 have hb := h.t (b, o) (List.mem_of_getElem? hn)
 have hw := h.w (b, o) (List.mem_of_getElem? hn)
 obtain ⟨hl, he⟩ := List.getElem?_eq_some_iff.1 hn
 have hs := List.pairwise_iff_getElem.1 h.s
 have hc : ∀ p, p ∈ L.set n (b, o') → p = (b, o') ∨ (p ∈ L ∧ p.1 ≠ b) := by
  intro p hp
  obtain ⟨j, hj⟩ := List.mem_iff_getElem?.1 hp
  rw [List.getElem?_set] at hj
  by_cases e : n = j
  ·subst e
   simp only [if_true, hl] at hj
   exact .inl (Option.some.inj hj).symm
  ·simp only [e, if_false] at hj
   obtain ⟨hl2, he2⟩ := List.getElem?_eq_some_iff.1 hj
   refine .inr ⟨List.mem_of_getElem? hj, fun hh => ?_⟩
   rcases Nat.lt_or_gt_of_ne e with h1 | h1
   ·have := hs n j hl hl2 h1; rw [he, he2] at this; exact this hh.symm
   ·have := hs j n hl2 hl h1; rw [he, he2] at this; exact this hh
 refine ⟨h.m.keep u (by simpa using fun e => hb.2 e.symm) (by simpa using fun e => hb.1 e.symm), h.u.also u (fun x hx => .inr (by rw [List.mem_singleton.1 hx]; exact hw)), fun p hp => ?_, ?_, fun p hp => ?_, h.l, fun p hp => ?_⟩
 ·rcases hc p hp with rfl | ⟨h1, h2⟩
  ·exact ho
  ·exact u.get (h.v p h1) (by simpa using h2)
 ·refine List.pairwise_iff_getElem.2 fun i j hi hj hij => ?_
  rw [List.length_set] at hi hj
  have h1 : ∀ q (hq : q < L.length) (hq2 : q < (L.set n (b, o')).length), ((L.set n (b, o'))[q]).1 = (L[q]).1 := by
   intro q hq hq2
   rw [List.getElem_set]
   split
   ·rename_i e; subst e; rw [he]
   ·rfl
  rw [h1 i hi (by rw [List.length_set]; exact hi), h1 j hj (by rw [List.length_set]; exact hj)]
  exact hs i j hi hj hij
 ·rcases hc p hp with rfl | ⟨h1, h2⟩
  ·exact hb
  ·exact h.t p h1
 ·rcases hc p hp with rfl | ⟨h1, h2⟩
  ·exact hw
  ·exact h.w p h1
theorem Kq.add (h : Kq w a pb M L w1) (hb : w.heap.size ≤ b) (hn : (∀ p ∈ L, p.1 ≠ b) ∧ b ≠ pb ∧ b ≠ a) (ho : w1.heap[b]? = some o) : Kq w a pb M ((b, o) :: L) w1 := by
 refine ⟨h.m, h.u, fun p hp => ?_, List.pairwise_cons.2 ⟨fun q hq e => hn.1 q hq e.symm, h.s⟩, fun p hp => ?_, h.l, fun p hp => ?_⟩
 ·rcases List.mem_cons.1 hp with rfl | hp
  ·exact ho
  ·exact h.v p hp
 ·rcases List.mem_cons.1 hp with rfl | hp
  ·exact ⟨hn.2.1, hn.2.2⟩
  ·exact h.t p hp
 ·rcases List.mem_cons.1 hp with rfl | hp
  ·exact hb
  ·exact h.w p hp
end
section
variable {w w1 w2 : World} {a pb g : Nat} {M : Mem} {L : List (Nat × Obj)} {T : St} {F : Flt}
theorem Kq.upd (h : Kq w a pb M L w1) (u : Upd [g] w1 w2) (hg : w.heap.size ≤ g) (hn : (∀ p ∈ L, p.1 ≠ g) ∧ g ≠ pb ∧ g ≠ a) : Kq w a pb M L w2 :=
 ⟨h.m.keep u (by simpa using fun e => hn.2.2 e.symm) (by simpa using fun e => hn.2.1 e.symm), h.u.also u (fun x hx => .inr (by rw [List.mem_singleton.1 hx]; exact hg)), fun p hp => u.get (h.v p hp) (by simpa using hn.1 p hp), h.s, h.t, h.l, h.w⟩
theorem Kq.two (h : Kq w a pb M L w1) (h2 : w2.heap[w1.heap.size]? = some (.cells T.cells 28 (0, 0)) ∧ w2.heap[w1.heap.size + 1]? = some (.cells #[.int .i64 0, .int .u32 0, .int .u32 0, .int .i64 0] 37 (0, 0)) ∧ Upd [] w1 w2) :
  Kq w a pb M ((w1.heap.size + 1, .cells (Yx F) 37 (0, 0)) :: (w1.heap.size, .cells T.cells 28 (0, 0)) :: L) ((((w2.setCell ⟨w1.heap.size + 1, 0, none⟩ (.int .i64 F.k)).setCell ⟨w1.heap.size + 1, 1, none⟩ (.int .u32 F.pc)).setCell ⟨w1.heap.size + 1, 2, none⟩ (.int .u32 F.a)).setCell ⟨w1.heap.size + 1, 3, none⟩ (.int .i64 F.wt)) := by
 have hl := h.lts
 have hu := h.u.size
 have u4 := Ycj (S := [w1.heap.size + 1]) (b := w1.heap.size + 1) (Upd.refl _ w2) (.inl (by simp)) (.int .i64 F.k) (.int .u32 F.pc) (.int .u32 F.a) (.int .i64 F.wt)
 have hf := Yd7 h2.2.1 (.int .i64 F.k) (.int .u32 F.pc) (.int .u32 F.a) (.int .i64 F.wt)
 have h3 := (h.quiet h2.2.2).add (b := w1.heap.size) hu ⟨fun p hp => by have := hl.1 p hp; omega, by omega, by omega⟩ h2.1
 have hn : ∀ p ∈ ((w1.heap.size, Obj.cells T.cells 28 (0, 0)) :: L), p.1 ≠ w1.heap.size + 1 := by
  intro p hp
  rcases List.mem_cons.1 hp with rfl | hp
  ·dsimp only; omega
  ·have := hl.1 p hp; omega
 exact (h3.upd u4 (by omega) ⟨hn, by omega, by omega⟩).add (by omega) ⟨hn, by omega, by omega⟩ hf
end
structure Kd (w : World) (a pb : Nat) (M M2 : Mem) (L : List (Nat × Obj)) (n0 : Nat) (S : St) (F : Flt) (c e f p q : Nat) (dn : Nat → Bool) (r : Nat → Value) (w1 : World) : Prop where
 k : Kq w a pb (cond (dn c) M2 M) L w1
 b : n0 ≤ w1.heap.size
 ln : (∀ p ∈ L, p.1 < n0) ∧ a < n0 ∧ pb < n0 ∧ w.heap.size ≤ n0
 x : dn e = true → ∃ g, r e = .pointer (some ⟨g, 0, none⟩) ∧ n0 ≤ g ∧ w1.heap[g]? = some (.cells (cond (dn p) S.cells St.zero.cells) 28 (0, 0))
 y : dn f = true → ∃ g, r f = .pointer (some ⟨g, 0, none⟩) ∧ n0 ≤ g ∧ w1.heap[g]? = some (.cells (cond (dn q) (Yx F) (Yx Flt.zero)) 37 (0, 0))
 xo : dn p = true → dn e = true
 yo : dn q = true → dn f = true
theorem Ydv : (28 : TypeId) ≠ 37 := by decide
section
variable {w w1 w2 : World} {a pb n0 : Nat} {M M2 : Mem} {L : List (Nat × Obj)} {S : St} {F : Flt} {c e f p q : Nat} {dn : Nat → Bool} {r : Nat → Value}
theorem Kd.start (h : Kq w a pb M L w1) (M2 : Mem) (S : St) (F : Flt) (c e f p q : Nat) (r : Nat → Value) : Kd w a pb M M2 L w1.heap.size S F c e f p q (fun _ => false) r w1.drew :=
 ⟨h.quiet (Upd.refl [] w1).drew, ((Upd.refl [] w1).drew).size, ⟨h.lts.1, h.lts.2.1, h.lts.2.2, h.u.size⟩, fun h => (by cases h), fun h => (by cases h), fun h => (by cases h), fun h => (by cases h)⟩
theorem Kd.quiet (h : Kd w a pb M M2 L n0 S F c e f p q dn r w1) (u : Upd [] w1 w2) (j : Nat) (h1 : c ≠ j) (h2 : e ≠ j) (h3 : f ≠ j) (h4 : p ≠ j) (h5 : q ≠ j) : Kd w a pb M M2 L n0 S F c e f p q (Yw dn j) r w2 := by
 refine ⟨by rw [Yad h1]; exact h.k.quiet u, Nat.le_trans h.b u.size, h.ln, fun hx => ?_, fun hx => ?_, fun hx => ?_, fun hx => ?_⟩
 ·rw [Yad h2] at hx; rw [Yad h4]; obtain ⟨g, e1, e2, e3⟩ := h.x hx; exact ⟨g, e1, e2, u.get e3 (by simp)⟩
 ·rw [Yad h3] at hx; rw [Yad h5]; obtain ⟨g, e1, e2, e3⟩ := h.y hx; exact ⟨g, e1, e2, u.get e3 (by simp)⟩
 ·rw [Yad h4] at hx; rw [Yad h2]; exact h.xo hx
 ·rw [Yad h5] at hx; rw [Yad h3]; exact h.yo hx
theorem Kd.same (h : Kd w a pb M M2 L n0 S F c e f p q dn r w1) (j : Nat) (h1 : c ≠ j) (h2 : e ≠ j) (h3 : f ≠ j) (h4 : p ≠ j) (h5 : q ≠ j) : Kd w a pb M M2 L n0 S F c e f p q (Yw dn j) r w1 := h.quiet (Upd.refl [] w1) j h1 h2 h3 h4 h5
theorem Kd.call (h : Kd w a pb M M2 L n0 S F c e f p q dn r w1) (hm : Yg w2 a pb M2) (u : Upd [pb] w1 w2) (h2 : e ≠ c) (h3 : f ≠ c) (h4 : p ≠ c) (h5 : q ≠ c) : Kd w a pb M M2 L n0 S F c e f p q (Yw dn c) r w2 := by
 have hl := h.ln
 refine ⟨by rw [bq_eq]; exact h.k.step hm u, Nat.le_trans h.b u.size, h.ln, fun hx => ?_, fun hx => ?_, fun hx => ?_, fun hx => ?_⟩
 ·rw [Yad h2] at hx; rw [Yad h4]; obtain ⟨g, e1, e2, e3⟩ := h.x hx; exact ⟨g, e1, e2, u.get e3 (by simp; omega)⟩
 ·rw [Yad h3] at hx; rw [Yad h5]; obtain ⟨g, e1, e2, e3⟩ := h.y hx; exact ⟨g, e1, e2, u.get e3 (by simp; omega)⟩
 ·rw [Yad h4] at hx; rw [Yad h2]; exact h.xo hx
 ·rw [Yad h5] at hx; rw [Yad h3]; exact h.yo hx
theorem Kd.fin (h : Kd w a pb M M2 L n0 S F c e f p q dn r w1) (hc : dn c = true) (he : dn e = true) (hf : dn f = true) (hp : dn p = true) (hq : dn q = true) :
  ∃ g1 g2, r e = .pointer (some ⟨g1, 0, none⟩) ∧ r f = .pointer (some ⟨g2, 0, none⟩) ∧ Kq w a pb M2 ((g2, .cells (Yx F) 37 (0, 0)) :: (g1, .cells S.cells 28 (0, 0)) :: L) w1 := by
 obtain ⟨g1, a1, a2, a3⟩ := h.x he
 obtain ⟨g2, b1, b2, b3⟩ := h.y hf
 have hl := h.ln
 rw [hp] at a3
 rw [hq] at b3
 have hk := h.k
 rw [hc] at hk
 have h1 := hk.add (b := g1) (by omega) ⟨fun p hp => by have := hl.1 p hp; omega, by omega, by omega⟩ a3
 refine ⟨g1, g2, a1, b1, h1.add (b := g2) (by omega) ⟨fun p hp => ?_, by omega, by omega⟩ b3⟩
 rcases List.mem_cons.1 hp with rfl | hp
 ·dsimp only
  rintro rfl
  rw [a3] at b3
  injection b3 with b3; injection b3 with _ b3 _; exact Ydv b3
 ·have := hl.1 p hp; omega
end
end
def D0 : Mi → Rn → MO := fun _ r => ⟨0, r, Flt.zero⟩
theorem D0_3 (x : Mi) (r : Rn) : (D0 x r).k = 0 ∨ (D0 x r).k = 1 ∨ (D0 x r).k = 2 := .inl rfl
def kL4 : List Mi := [⟨16, 0, 0, 0, 0, 5, false⟩, ⟨1, 1, 0, 0, 0, 7, false⟩, ⟨3, 0, 1, 0, 0, 2, false⟩, ⟨14, 0, 1, 0, 0, 0, false⟩]
def kL3 : List Mi := [⟨16, 0, 0, 0, 0, 5, false⟩, ⟨1, 1, 0, 0, 0, 7, false⟩, ⟨3, 0, 1, 0, 0, 2, false⟩]
def kLd : Mi := ⟨4, 0, 1, 0, 0, 0, false⟩
theorem kL4_ok : ∀ x ∈ kL4, x.Ok := by
 intro x hx
 simp only [kL4, List.mem_cons, List.not_mem_nil, or_false] at hx
 rcases hx with rfl | rfl | rfl | rfl <;> exact ⟨by decide⟩
theorem kL3_ok : ∀ x ∈ kL3 ++ [kLd], x.Ok := by
 intro x hx
 simp only [kL3, kLd, List.cons_append, List.nil_append, List.mem_cons, List.not_mem_nil, or_false] at hx
 rcases hx with rfl | rfl | rfl | rfl <;> exact ⟨by decide⟩
theorem kL4_as : ∀ x ∈ kL4, Ybr (Yae D0) x := by
 intro x hx
 simp only [kL4, List.mem_cons, List.not_mem_nil, or_false] at hx
 rcases hx with rfl | rfl | rfl | rfl
 ·exact Yd9 rfl (by decide +kernel) ⟨by decide⟩
 ·exact Yem rfl (by decide +kernel) ⟨by decide⟩
 ·exact Yd0 rfl (by decide +kernel) ⟨by decide⟩
 ·exact as_goto rfl (by decide +kernel) ⟨by decide⟩
theorem kL3_as : ∀ x ∈ kL3 ++ [kLd], Ybr (Yae D0) x := by
 intro x hx
 simp only [kL3, kLd, List.cons_append, List.nil_append, List.mem_cons, List.not_mem_nil, or_false] at hx
 rcases hx with rfl | rfl | rfl | rfl
 ·exact Yd9 rfl (by decide +kernel) ⟨by decide⟩
 ·exact Yem rfl (by decide +kernel) ⟨by decide⟩
 ·exact Yd0 rfl (by decide +kernel) ⟨by decide⟩
 ·exact as_load rfl (by decide +kernel) ⟨by decide⟩
def kO1 : MO := Ybl (Yae D0) kL4 (rn0 St.zero)
def kO2 : MO := Ybl (Yae D0) (kL3 ++ [kLd]) (rn0 St.zero)
theorem kO1_k : outK kO1 = true ∧ outQ kO1 = false ∧ (outS kO1).R 2 = 7 ∧ (outS kO1).pc = 7 := by decide +kernel
theorem kO2_k : outK kO2 = false ∧ outQ kO2 = false ∧ (outS kO2).R 2 = 0 ∧ (outS kO2).pc = 5 := by decide +kernel
theorem kO1_f : outF kO1 = Flt.zero := by kernel_rfl
theorem kO2_f : outF kO2 = ⟨1, 5, 7, 1⟩ := by kernel_rfl
theorem Kn.quiet' {w w1 w2 : World} {a pb : Nat} {M : Mem} {L : List (Nat × Obj)} (h : Kn w a pb M L w1) (u : Upd [] w1 w2) : Kn w a pb M L w2 := h.step (h.m.keep u (by simp) (by simp)) (u.mono (by simp))
theorem Yp (w : World) : Calls Tryd.prog 7 #[] w fun e w' => e = .returned (.bool true) ∧ Upd [] w w' := by
 obtain ⟨S1, hS1⟩ : ∃ S, outS kO1 = S := ⟨_, rfl⟩
 obtain ⟨S2, hS2⟩ : ∃ S, outS kO2 = S := ⟨_, rfl⟩
 have a1 := kO1_k
 have a2 := kO2_k
 rw [hS1] at a1
 rw [hS2] at a2
 have c12 : S1.cells[2]? = some (.int .u32 7) := by rw [St.cR _ 2 (by decide), a1.2.2.1]
 have c18 : S1.cells[8]? = some (.int .u32 7) := by rw [show S1.cells[8]? = some (.int .u32 S1.pc) from rfl, a1.2.2.2]
 have c22 : S2.cells[2]? = some (.int .u32 0) := by rw [St.cR _ 2 (by decide), a2.2.2.1]
 have c28 : S2.cells[8]? = some (.int .u32 5) := by rw [show S2.cells[8]? = some (.int .u32 S2.pc) from rfl, a2.2.2.2]
 have HK := Yh_ (And.intro hS1 (And.intro hS2 (And.intro a1 a2)))
 clear hS1 hS2 a1 a2
 have heqF : ∀ w, (binOp .eql 37 (.agg #[.int .i64 1, .int .u32 5, .int .u32 7, .int .i64 1]) (.agg #[.int .i64 1, .int .u32 5, .int .u32 7, .int .i64 1])).run Tryd.prog w = .ok (.bool true) w := fun w => by kernel_rfl
 have tok1 : True := trivial
 go_enter Tryd.func7, Tryd.ntmps7
 go_upto_region 2 with (go_at_call 9; refine (New_any _).mono ?_; rintro e w1 ⟨ma, pb, rfl, ha, hp, hM1, hu1⟩; have K0 := Yh_ (show Kn w ma pb Mem.zero [] w1 from Kn.start0 (Upd.refl [] w) ha hp hM1 hu1); clear ha hp hM1 hu1)
 go_upto_region 3 with fail
 have hm := heap_alloc_new w1 (.cells (Yd kL4).toArray 35)
 have hk := K0.out.add ((Upd.refl [] w1).alloc (.cells (Yd kL4).toArray 35)) (Nat.le_refl _) hm
 change Code.wp _ _ _ _ (w1.alloc (.cells (Yd kL4).toArray 35))
 generalize w1.alloc (.cells (Yd kL4).toArray 35) = w2 at *
 generalize w1.heap.size = g1 at *
 have K1 := Yh_ hk
 clear hm hk K0
 go_upto_region 4 with (first
  |(have _t := K1; clear _t; go_at_call 10; refine (Yez (Yae D0) ma pb g1 St.zero _ kL4 _ K1.out.m St.zero_ok (Yh (K1.out.get 0 rfl)) kL4_ok (by unfold maxLen; decide) kL4_as (Yev D0_3) (K1.out.t _ (List.mem_singleton.2 rfl)).2.1 (by decide +kernel)).mono ?_; rintro e w3 ⟨rfl, hm, hu⟩; rw [show Ybl (Yae D0) kL4 (rn0 St.zero) = kO1 from rfl, HK.out.1, kO1_f, HK.out.2.2.1.1, HK.out.2.2.1.2.1, show Flt.zero.val = .agg #[.int .i64 0, .int .u32 0, .int .u32 0, .int .i64 0] from rfl]; have K2 := Yh_ (K1.out.step hm hu); clear hm hu K1)
  |(have _t := K2; clear _t; refine Ybc 28 rfl ?_; refine Yao S1 w3.heap.size rfl _ _ rfl rfl rfl (heap_alloc2_old w3 _ _) rfl ?_; intro w4 hw; have hk := K2.out.two (F := Flt.zero) (Yb8 hw); have c37 := Ya (Yb8 hw).2.1; have f37 := Ym (Yb8 hw).2.1; have K3 := Yh_ hk; clear hk K2 hw))
 have K4 := Yh_ (show Kn w ma pb Mem.zero [(w3.heap.size + 1, .cells (Yx Flt.zero) 37 (0, 0)), (w3.heap.size, .cells S1.cells 28 (0, 0)), (g1, .cells (Yd kL4).toArray 35 (0, 0))] ((((w4.setCell ⟨w3.heap.size + 1, 0, none⟩ (.int .i64 0)).setCell ⟨w3.heap.size + 1, 1, none⟩ (.int .u32 0)).setCell ⟨w3.heap.size + 1, 2, none⟩ (.int .u32 0)).setCell ⟨w3.heap.size + 1, 3, none⟩ (.int .i64 0)) from K3.out)
 clear K3 c37 f37
 generalize (((w4.setCell ⟨w3.heap.size + 1, 0, none⟩ (.int .i64 0)).setCell ⟨w3.heap.size + 1, 1, none⟩ (.int .u32 0)).setCell ⟨w3.heap.size + 1, 2, none⟩ (.int .u32 0)).setCell ⟨w3.heap.size + 1, 3, none⟩ (.int .i64 0) = w5 at *
 generalize w3.heap.size = g3 at *
 have tkA : True := trivial
 have tkB : True := trivial
 go_upto_region 5 with (first
  |(have _t := tkA; clear _t; at_builtin; refine Yl rfl _ _ rfl w5.heap.size (.slice none 0 0) [] rfl (Yaf _ _) _ kL3 g1 rfl ((Yh (c := 4) (K4.out.get 2 rfl)).cut 3 (by decide)) (by decide) (Nat.le_refl _) ?_; intro v6 w6 hg6; have G6 := Yh_ hg6; clear hg6 tkA)
  |(have _t := tkB; have _t2 := G6; clear _t _t2; at_builtin; go_loud (refine Yl rfl _ _ rfl w5.heap.size v6 kL3 rfl (G6.out.o.old ((Upd.refl [] w6).alloc _) (by simp)) _ [kLd] w6.heap.size rfl (Yh (l := [kLd]) (c := 1) (T := 35) (f := (0, 0)) (heap_alloc_new w6 (.cells (Yd [kLd]).toArray 35))) (by decide) (Nat.le_trans G6.out.u.size (by simp)) ?_); intro v7 w7 hg7; have hb7 := G6.out.o.block; have hu7 : Upd [] w5 w7 := (G6.out.u.alloc (.cells (Yd [kLd]).toArray 35)).new hg7.u (fun x hx => (hb7 x (by simpa using hx)).1); have G7 := Yh_ (And.intro hg7.o (And.intro (K4.out.quiet' hu7) K4.out.m.pl)); clear hb7 hu7 hg7 tkB G6 K4)
  |(have _t := G7; clear _t; go_at_call 10; obtain ⟨g7, hs7, _, hs8⟩ := G7.out.1.sl; have HS7 := Yh_ (And.intro hs7 (hs8 (by decide))); clear hs7 hs8; refine (Yez (Yae D0) ma pb g7 St.zero v7 (kL3 ++ [kLd]) _ G7.out.2.1.m St.zero_ok HS7.out.1 kL3_ok (by unfold maxLen; decide) kL3_as (Yev D0_3) (by have := HS7.out.2; have := G7.out.2.2; omega) (by decide +kernel)).mono ?_; rintro e w8 ⟨rfl, hm, hu⟩; rw [show Ybl (Yae D0) (kL3 ++ [kLd]) (rn0 St.zero) = kO2 from rfl, HK.out.2.1, kO2_f, HK.out.2.2.2.1, HK.out.2.2.2.2.1, show (⟨1, 5, 7, 1⟩ : Flt).val = .agg #[.int .i64 1, .int .u32 5, .int .u32 7, .int .i64 1] from rfl]; have K8 := Yh_ (G7.out.2.1.step hm hu); clear hm hu G7 HS7)
  |(have _t := K8; clear _t; refine Ybc 28 rfl ?_; refine Yao S2 w8.heap.size rfl _ _ rfl rfl rfl (heap_alloc2_old w8 _ _) rfl ?_; intro w9 hw; have hk := K8.out.two (F := ⟨1, 5, 7, 1⟩) (Yb8 hw); have c37 := Ya (Yb8 hw).2.1; have f37 := Ym (Yb8 hw).2.1; have K9 := Yh_ hk; clear hk K8 hw))
 have K10 := Yh_ (show Kn w ma pb Mem.zero [(w8.heap.size + 1, .cells (Yx ⟨1, 5, 7, 1⟩) 37 (0, 0)), (w8.heap.size, .cells S2.cells 28 (0, 0)), (g3 + 1, .cells (Yx Flt.zero) 37 (0, 0)), (g3, .cells S1.cells 28 (0, 0)), (g1, .cells (Yd kL4).toArray 35 (0, 0))] ((((w9.setCell ⟨w8.heap.size + 1, 0, none⟩ (.int .i64 1)).setCell ⟨w8.heap.size + 1, 1, none⟩ (.int .u32 5)).setCell ⟨w8.heap.size + 1, 2, none⟩ (.int .u32 7)).setCell ⟨w8.heap.size + 1, 3, none⟩ (.int .i64 1)) from K9.out)
 clear K9 c37 f37
 generalize ((((w9.setCell ⟨w8.heap.size + 1, 0, none⟩ (.int .i64 1)).setCell ⟨w8.heap.size + 1, 1, none⟩ (.int .u32 5)).setCell ⟨w8.heap.size + 1, 2, none⟩ (.int .u32 7)).setCell ⟨w8.heap.size + 1, 3, none⟩ (.int .i64 1)) = w10 at *
 generalize w8.heap.size = g8 at *
 have tkC : True := trivial
 have tkD : True := trivial
 have tkE : True := trivial
 go_wp2_with (first
  |(have _t := tkC; clear _t; go_at_call 8; refine (Yr _ kL4 g1 _ (Yh (c := 4) (K10.out.get 4 rfl)) kL4_ok (by unfold maxLen; decide)).mono ?_; rintro e w11 ⟨rfl, hu⟩; rw [show isL kL4 = true by decide +kernel]; have K11 := Yh_ (K10.out.quiet' hu); clear hu K10 tkC)
  |(have _t := tkD; have _t2 := K11; clear _t _t2; go_at_call 8; refine (Yr _ [Mi.zero] w11.heap.size _ (Yh (l := [Mi.zero]) (c := 1) (T := 35) (f := (0, 0)) (heap_alloc_new w11 (.cells (Yd [Mi.zero]).toArray 35))) (by intro x hx; rw [List.mem_singleton.1 hx]; exact ⟨by decide⟩) (by unfold maxLen; decide)).mono ?_; rintro e w12 ⟨rfl, hu⟩; rw [show isL [Mi.zero] = false by decide +kernel]; have K12 := Yh_ (K11.out.quiet' (((Upd.refl [] w11).alloc (.cells (Yd [Mi.zero]).toArray 35)).also hu (by simp))); clear hu K11 tkD; have d1 : ∀ o, w12.cell? ⟨g8 + 1, o, none⟩ = #[.int .i64 1, .int .u32 5, .int .u32 7, .int .i64 1][o]? := Ya (K12.out.get 0 rfl); have d2 := Ya (K12.out.get 1 rfl); have d3 := Ya (K12.out.get 3 rfl); have d4 : ∀ o, w12.cell? ⟨g1, o, none⟩ = #[.int .i64 16, .int .i64 0, .int .i64 0, .int .i64 0, .int .i64 0, .int .u32 5, .bool false, .int .i64 1, .int .i64 1, .int .i64 0, .int .i64 0, .int .i64 0, .int .u32 7, .bool false, .int .i64 3, .int .i64 0, .int .i64 1, .int .i64 0, .int .i64 0, .int .u32 2, .bool false, .int .i64 14, .int .i64 0, .int .i64 1, .int .i64 0, .int .i64 0, .int .u32 0, .bool false][o]? := Ya (K12.out.get 4 rfl))
  |(have _t := tkE; have _t2 := K12; clear _t _t2; go_at_call 11; refine (Text_one _).mono ?_; rintro e w13 ⟨rfl, hu⟩; have K13 := Yh_ (K12.out.quiet' hu); clear hu K12 tkE d1 d2 d3 d4))
 go_ret
 exact ⟨rfl, K13.out.u⟩
def bdX (k t a n : Int) : Mi := ⟨k, t, a, 0, 0, n, false⟩
theorem bd_t (k t a n : Int) : (bdX k t a n).tOk = (inT t && inT a) := by
 show (inT t && inT a && inT 0 && inT 0) = _
 rw [show inT 0 = true from rfl, Bool.and_true, Bool.and_true]
theorem Yc9 {k t a n : Int} (h : ¬(1 ≤ k ∧ k ≤ 17 ∧ 0 ≤ t ∧ t < 64 ∧ 0 ≤ a ∧ a < 64)) : (bdX k t a n).is = false := by
 unfold Mi.is
 rw [bd_t]
 by_cases hk : 1 ≤ k ∧ k ≤ 17
 ·have h2 : (inT t && inT a) = false := by
   rw [Bool.and_eq_false_iff]
   unfold inT
   by_cases ht : 0 ≤ t ∧ t < 64
   ·right; simp; omega
   ·left; simp; omega
  rw [h2, Bool.false_and]
 ·have h3 : (bdX k t a n).kOk = false := by
   unfold Mi.kOk bdX
   dsimp only
   rw [if_neg (by omega), if_neg (by omega), if_neg (by omega), if_neg (by omega), if_neg (by omega), if_neg (by omega), if_neg (by omega)]
   unfold btw; simp; omega
  rw [h3, Bool.and_false]
theorem Ycc {k t a n : Int} (h : 0 ≤ t ∧ t < 64 ∧ 0 ≤ a ∧ a < 64) : (bdX k t a n).is = (bdX k t a n).kOk := by
 unfold Mi.is
 rw [bd_t, show inT t = true by simp [inT]; omega, show inT a = true by simp [inT]; omega]
 rfl
def bdC : Mi := ⟨1, 0, 0, 0, 0, 0, false⟩
theorem Yaz (n : Nat) : isL (List.replicate n bdC) = decide ((n : Int) ≤ 200) := by
 unfold isL
 have h : (List.replicate n bdC).all Mi.is = true := by
  rw [List.all_eq_true]
  intro x hx
  rw [(List.mem_replicate.1 hx).2]
  decide +kernel
 rw [h, Bool.true_and, List.length_replicate]
 by_cases hn : n ≤ 200
 ·rw [decide_eq_true hn, decide_eq_true (by omega)]
 ·rw [decide_eq_false hn, decide_eq_false (by omega)]
theorem Ybb (n : Nat) : ∀ x ∈ List.replicate n bdC, x.Ok := by
 intro x hx
 rw [(List.mem_replicate.1 hx).2]
 exact ⟨by decide⟩
theorem Ya0 (x : Mi) : isL [x] = x.is := by simp [isL]
theorem Ycz (n m : Int) : decide (n ≤ m - 1) = decide (n < m) := by
 by_cases hh : n < m
 ·rw [decide_eq_true hh, decide_eq_true (by omega)]
 ·rw [decide_eq_false hh, decide_eq_false (by omega)]
theorem mb_no0 (k t a n m : Int) (w : World) (hn : 0 ≤ n ∧ n < 4294967296) (hm : 0 ≤ m ∧ m < 256) (h0 : ¬1 ≤ k) :
  Calls Tryd.prog 4 #[.int .i64 k, .int .i64 t, .int .i64 a, .int .u32 n, .int .u8 m] w fun e w' => e = .returned (.bool true) ∧ Upd [] w w' := by
 have HM := Yh_ (And.intro hn hm)
 have hm0 := hm
 have tok : True := trivial
 have d0 : decide (1 ≤ k) = false := by simp [h0]
 have HI := Yh_ (Yc9 (k := k) (t := t) (a := a) (n := n) (by omega))
 clear h0 hn hm
 go_enter Tryd.func4, Tryd.ntmps4
 go_upto_region 20 with (have _t := tok; clear _t; go_at_call 7; refine (Yp _).mono ?_; rintro e w0 ⟨rfl, hu0⟩; have H0 := Yh_ (And.intro (hu0.alloc (.cells (bdX k t a n).cells 35)) (heap_alloc_new w0 (.cells (bdX k t a n).cells 35))); clear hu0 tok)
 try clear d0 d1 d2 d3 d4 d5
 try clear hr
 try clear g2 g3 g9 g10 g17 g8 g12 g13
 change Code.wp _ _ _ _ (w0.alloc (.cells (bdX k t a n).cells 35))
 generalize w0.alloc (.cells (bdX k t a n).cells 35) = w1 at *
 generalize w0.heap.size = g0 at *
 go_wp2_with fail
 go_loopw [13, 14] (fun v i wr => ∃ q : Int, i = .int .i64 q ∧ Hid (0 ≤ q ∧ q ≤ m) ∧ Hid (Ys wr w1.heap.size v (List.replicate q.toNat bdC)) ∧ Hid (Upd [] w1 wr)) (fun _ i _ => (m - intOf i).toNat)
 case atStart => exact ⟨0, rfl, Yh_ (by have := HM.out; omega), Yh_ (Yaf _ _), Yh_ (Upd.refl _ _)⟩
 case round =>
  obtain ⟨q, rfl, hq, HO, HU⟩ := hrel
  by_cases hlt : q < m
  ·have dlt : decide (q < m) = true := by simp [hlt]
   have hq0 := hq.out
   have e1 : wrap64 (q + 1) = q + 1 := by unfold wrap64; omega
   have HB := Yh_ (show 0 ≤ q ∧ q < m ∧ m < 256 by omega)
   clear hq0 hlt
   have tkA : True := trivial
   go_wp2_with (have _t := tkA; clear _t; at_builtin; refine Yl rfl _ _ rfl w1.heap.size u13 (List.replicate q.toNat bdC) rfl (HO.out.old ((Upd.refl [] wr).alloc (.cells (Yd [bdC]).toArray 35)) (by simp)) _ [bdC] wr.heap.size rfl (Yh (l := [bdC]) (c := 1) (T := 35) (f := (0, 0)) (heap_alloc_new wr (.cells (Yd [bdC]).toArray 35))) (by rw [List.length_replicate]; have := HB.out; simp; omega) (Nat.le_trans HU.out.size (by simp)) ?_; intro v' w2 hg; have hb := HO.out.block; have U2 := Yh_ ((HU.out.alloc (.cells (Yd [bdC]).toArray 35)).new hg.u (fun x hx => (hb x (by simpa using hx)).1)); have O2 := Yh_ (show Ys w2 w1.heap.size v' (List.replicate (q + 1).toNat bdC) by rw [show (q + 1).toNat = q.toNat + 1 by have := HB.out; omega, List.replicate_succ']; exact hg.o); clear hg hb tkA)
   try simp only [e1]
   go_roundw
   case rel => exact ⟨q + 1, rfl, Yh_ (by have := HB.out; omega), O2, U2⟩
   case measure => have := HB.out; simp only [intOf]; omega
  ·have hqm : q = m := by have := hq.out; omega
   subst hqm
   have dlt : decide (q < q) = false := by simp
   obtain ⟨r, hr⟩ : ∃ r, decide (q ≤ 200) = r := ⟨_, rfl⟩
   obtain ⟨gl, hsl, _, _⟩ := HO.out.sl
   have HSL := Yh_ hsl
   have HIL := Yh_ (show isL (List.replicate q.toNat bdC) = r by rw [Yaz, show ((q.toNat : Nat) : Int) = q by have := hq.out; omega]; exact hr)
   have cx := Ya (HU.out.get H0.out.2 (by simp))
   unfold bdX Mi.cells at cx
   clear hlt hsl
   have tkA : True := trivial
   cases r
   all_goals
    go_wp2_with (first
     |(have _t := tkA; clear _t; go_at_call 8; refine (Yr _ [bdX k t a n] wr.heap.size _ (Yh (l := [bdX k t a n]) (c := 1) (T := 35) (f := (0, 0)) (heap_alloc_new wr (.cells (Yd [bdX k t a n]).toArray 35))) (by intro x hx; rw [List.mem_singleton.1 hx]; exact ⟨HM.out.1⟩) (by unfold maxLen; simp)).mono ?_; rintro e w3 ⟨rfl, hu⟩; rw [Ya0, HI.out]; have U3 := Yh_ (((Upd.refl [] wr).alloc (.cells (Yd [bdX k t a n]).toArray 35)).also hu (by simp)); clear hu tkA cx)
     |(have _t := U3; clear _t; go_at_call 8; refine (Yr _ (List.replicate q.toNat bdC) gl _ (HSL.out.keep U3.out (by simp)) (Ybb _) (by rw [List.length_replicate]; have := HM.out.2; unfold maxLen; omega)).mono ?_; rintro e w4 ⟨rfl, hu⟩; rw [HIL.out]; have U4 := Yh_ ((H0.out.1.also (HU.out.also U3.out (by simp)) (by simp)).also hu (by simp)); clear hu U3))
    go_ret
    exact ⟨rfl, U4.out⟩
theorem mb_no1 (k t a n m : Int) (w : World) (hn : 0 ≤ n ∧ n < 4294967296) (hm : 0 ≤ m ∧ m < 256) (h0 : 1 ≤ k) (h1 : ¬k ≤ 17) :
  Calls Tryd.prog 4 #[.int .i64 k, .int .i64 t, .int .i64 a, .int .u32 n, .int .u8 m] w fun e w' => e = .returned (.bool true) ∧ Upd [] w w' := by
 have HM := Yh_ (And.intro hn hm)
 have hm0 := hm
 have tok : True := trivial
 have d0 : decide (1 ≤ k) = true := by simp [h0]
 have d1 : decide (k ≤ 17) = false := by simp [h1]
 have HI := Yh_ (Yc9 (k := k) (t := t) (a := a) (n := n) (by omega))
 clear h0 h1 hn hm
 go_enter Tryd.func4, Tryd.ntmps4
 go_upto_region 20 with (have _t := tok; clear _t; go_at_call 7; refine (Yp _).mono ?_; rintro e w0 ⟨rfl, hu0⟩; have H0 := Yh_ (And.intro (hu0.alloc (.cells (bdX k t a n).cells 35)) (heap_alloc_new w0 (.cells (bdX k t a n).cells 35))); clear hu0 tok)
 try clear d0 d1 d2 d3 d4 d5
 try clear hr
 try clear g2 g3 g9 g10 g17 g8 g12 g13
 change Code.wp _ _ _ _ (w0.alloc (.cells (bdX k t a n).cells 35))
 generalize w0.alloc (.cells (bdX k t a n).cells 35) = w1 at *
 generalize w0.heap.size = g0 at *
 go_wp2_with fail
 go_loopw [13, 14] (fun v i wr => ∃ q : Int, i = .int .i64 q ∧ Hid (0 ≤ q ∧ q ≤ m) ∧ Hid (Ys wr w1.heap.size v (List.replicate q.toNat bdC)) ∧ Hid (Upd [] w1 wr)) (fun _ i _ => (m - intOf i).toNat)
 case atStart => exact ⟨0, rfl, Yh_ (by have := HM.out; omega), Yh_ (Yaf _ _), Yh_ (Upd.refl _ _)⟩
 case round =>
  obtain ⟨q, rfl, hq, HO, HU⟩ := hrel
  by_cases hlt : q < m
  ·have dlt : decide (q < m) = true := by simp [hlt]
   have hq0 := hq.out
   have e1 : wrap64 (q + 1) = q + 1 := by unfold wrap64; omega
   have HB := Yh_ (show 0 ≤ q ∧ q < m ∧ m < 256 by omega)
   clear hq0 hlt
   have tkA : True := trivial
   go_wp2_with (have _t := tkA; clear _t; at_builtin; refine Yl rfl _ _ rfl w1.heap.size u13 (List.replicate q.toNat bdC) rfl (HO.out.old ((Upd.refl [] wr).alloc (.cells (Yd [bdC]).toArray 35)) (by simp)) _ [bdC] wr.heap.size rfl (Yh (l := [bdC]) (c := 1) (T := 35) (f := (0, 0)) (heap_alloc_new wr (.cells (Yd [bdC]).toArray 35))) (by rw [List.length_replicate]; have := HB.out; simp; omega) (Nat.le_trans HU.out.size (by simp)) ?_; intro v' w2 hg; have hb := HO.out.block; have U2 := Yh_ ((HU.out.alloc (.cells (Yd [bdC]).toArray 35)).new hg.u (fun x hx => (hb x (by simpa using hx)).1)); have O2 := Yh_ (show Ys w2 w1.heap.size v' (List.replicate (q + 1).toNat bdC) by rw [show (q + 1).toNat = q.toNat + 1 by have := HB.out; omega, List.replicate_succ']; exact hg.o); clear hg hb tkA)
   try simp only [e1]
   go_roundw
   case rel => exact ⟨q + 1, rfl, Yh_ (by have := HB.out; omega), O2, U2⟩
   case measure => have := HB.out; simp only [intOf]; omega
  ·have hqm : q = m := by have := hq.out; omega
   subst hqm
   have dlt : decide (q < q) = false := by simp
   obtain ⟨r, hr⟩ : ∃ r, decide (q ≤ 200) = r := ⟨_, rfl⟩
   obtain ⟨gl, hsl, _, _⟩ := HO.out.sl
   have HSL := Yh_ hsl
   have HIL := Yh_ (show isL (List.replicate q.toNat bdC) = r by rw [Yaz, show ((q.toNat : Nat) : Int) = q by have := hq.out; omega]; exact hr)
   have cx := Ya (HU.out.get H0.out.2 (by simp))
   unfold bdX Mi.cells at cx
   clear hlt hsl
   have tkA : True := trivial
   cases r
   all_goals
    go_wp2_with (first
     |(have _t := tkA; clear _t; go_at_call 8; refine (Yr _ [bdX k t a n] wr.heap.size _ (Yh (l := [bdX k t a n]) (c := 1) (T := 35) (f := (0, 0)) (heap_alloc_new wr (.cells (Yd [bdX k t a n]).toArray 35))) (by intro x hx; rw [List.mem_singleton.1 hx]; exact ⟨HM.out.1⟩) (by unfold maxLen; simp)).mono ?_; rintro e w3 ⟨rfl, hu⟩; rw [Ya0, HI.out]; have U3 := Yh_ (((Upd.refl [] wr).alloc (.cells (Yd [bdX k t a n]).toArray 35)).also hu (by simp)); clear hu tkA cx)
     |(have _t := U3; clear _t; go_at_call 8; refine (Yr _ (List.replicate q.toNat bdC) gl _ (HSL.out.keep U3.out (by simp)) (Ybb _) (by rw [List.length_replicate]; have := HM.out.2; unfold maxLen; omega)).mono ?_; rintro e w4 ⟨rfl, hu⟩; rw [HIL.out]; have U4 := Yh_ ((H0.out.1.also (HU.out.also U3.out (by simp)) (by simp)).also hu (by simp)); clear hu U3))
    go_ret
    exact ⟨rfl, U4.out⟩
theorem mb_no2 (k t a n m : Int) (w : World) (hn : 0 ≤ n ∧ n < 4294967296) (hm : 0 ≤ m ∧ m < 256) (h0 : 1 ≤ k) (h1 : k ≤ 17) (h2 : ¬0 ≤ t) :
  Calls Tryd.prog 4 #[.int .i64 k, .int .i64 t, .int .i64 a, .int .u32 n, .int .u8 m] w fun e w' => e = .returned (.bool true) ∧ Upd [] w w' := by
 have HM := Yh_ (And.intro hn hm)
 have hm0 := hm
 have tok : True := trivial
 have d0 : decide (1 ≤ k) = true := by simp [h0]
 have d1 : decide (k ≤ 17) = true := by simp [h1]
 have d2 : decide (0 ≤ t) = false := by simp [h2]
 have HI := Yh_ (Yc9 (k := k) (t := t) (a := a) (n := n) (by omega))
 clear h0 h1 h2 hn hm
 go_enter Tryd.func4, Tryd.ntmps4
 go_upto_region 20 with (have _t := tok; clear _t; go_at_call 7; refine (Yp _).mono ?_; rintro e w0 ⟨rfl, hu0⟩; have H0 := Yh_ (And.intro (hu0.alloc (.cells (bdX k t a n).cells 35)) (heap_alloc_new w0 (.cells (bdX k t a n).cells 35))); clear hu0 tok)
 try clear d0 d1 d2 d3 d4 d5
 try clear hr
 try clear g2 g3 g9 g10 g17 g8 g12 g13
 change Code.wp _ _ _ _ (w0.alloc (.cells (bdX k t a n).cells 35))
 generalize w0.alloc (.cells (bdX k t a n).cells 35) = w1 at *
 generalize w0.heap.size = g0 at *
 go_wp2_with fail
 go_loopw [13, 14] (fun v i wr => ∃ q : Int, i = .int .i64 q ∧ Hid (0 ≤ q ∧ q ≤ m) ∧ Hid (Ys wr w1.heap.size v (List.replicate q.toNat bdC)) ∧ Hid (Upd [] w1 wr)) (fun _ i _ => (m - intOf i).toNat)
 case atStart => exact ⟨0, rfl, Yh_ (by have := HM.out; omega), Yh_ (Yaf _ _), Yh_ (Upd.refl _ _)⟩
 case round =>
  obtain ⟨q, rfl, hq, HO, HU⟩ := hrel
  by_cases hlt : q < m
  ·have dlt : decide (q < m) = true := by simp [hlt]
   have hq0 := hq.out
   have e1 : wrap64 (q + 1) = q + 1 := by unfold wrap64; omega
   have HB := Yh_ (show 0 ≤ q ∧ q < m ∧ m < 256 by omega)
   clear hq0 hlt
   have tkA : True := trivial
   go_wp2_with (have _t := tkA; clear _t; at_builtin; refine Yl rfl _ _ rfl w1.heap.size u13 (List.replicate q.toNat bdC) rfl (HO.out.old ((Upd.refl [] wr).alloc (.cells (Yd [bdC]).toArray 35)) (by simp)) _ [bdC] wr.heap.size rfl (Yh (l := [bdC]) (c := 1) (T := 35) (f := (0, 0)) (heap_alloc_new wr (.cells (Yd [bdC]).toArray 35))) (by rw [List.length_replicate]; have := HB.out; simp; omega) (Nat.le_trans HU.out.size (by simp)) ?_; intro v' w2 hg; have hb := HO.out.block; have U2 := Yh_ ((HU.out.alloc (.cells (Yd [bdC]).toArray 35)).new hg.u (fun x hx => (hb x (by simpa using hx)).1)); have O2 := Yh_ (show Ys w2 w1.heap.size v' (List.replicate (q + 1).toNat bdC) by rw [show (q + 1).toNat = q.toNat + 1 by have := HB.out; omega, List.replicate_succ']; exact hg.o); clear hg hb tkA)
   try simp only [e1]
   go_roundw
   case rel => exact ⟨q + 1, rfl, Yh_ (by have := HB.out; omega), O2, U2⟩
   case measure => have := HB.out; simp only [intOf]; omega
  ·have hqm : q = m := by have := hq.out; omega
   subst hqm
   have dlt : decide (q < q) = false := by simp
   obtain ⟨r, hr⟩ : ∃ r, decide (q ≤ 200) = r := ⟨_, rfl⟩
   obtain ⟨gl, hsl, _, _⟩ := HO.out.sl
   have HSL := Yh_ hsl
   have HIL := Yh_ (show isL (List.replicate q.toNat bdC) = r by rw [Yaz, show ((q.toNat : Nat) : Int) = q by have := hq.out; omega]; exact hr)
   have cx := Ya (HU.out.get H0.out.2 (by simp))
   unfold bdX Mi.cells at cx
   clear hlt hsl
   have tkA : True := trivial
   cases r
   all_goals
    go_wp2_with (first
     |(have _t := tkA; clear _t; go_at_call 8; refine (Yr _ [bdX k t a n] wr.heap.size _ (Yh (l := [bdX k t a n]) (c := 1) (T := 35) (f := (0, 0)) (heap_alloc_new wr (.cells (Yd [bdX k t a n]).toArray 35))) (by intro x hx; rw [List.mem_singleton.1 hx]; exact ⟨HM.out.1⟩) (by unfold maxLen; simp)).mono ?_; rintro e w3 ⟨rfl, hu⟩; rw [Ya0, HI.out]; have U3 := Yh_ (((Upd.refl [] wr).alloc (.cells (Yd [bdX k t a n]).toArray 35)).also hu (by simp)); clear hu tkA cx)
     |(have _t := U3; clear _t; go_at_call 8; refine (Yr _ (List.replicate q.toNat bdC) gl _ (HSL.out.keep U3.out (by simp)) (Ybb _) (by rw [List.length_replicate]; have := HM.out.2; unfold maxLen; omega)).mono ?_; rintro e w4 ⟨rfl, hu⟩; rw [HIL.out]; have U4 := Yh_ ((H0.out.1.also (HU.out.also U3.out (by simp)) (by simp)).also hu (by simp)); clear hu U3))
    go_ret
    exact ⟨rfl, U4.out⟩
theorem mb_no3 (k t a n m : Int) (w : World) (hn : 0 ≤ n ∧ n < 4294967296) (hm : 0 ≤ m ∧ m < 256) (h0 : 1 ≤ k) (h1 : k ≤ 17) (h2 : 0 ≤ t) (h3 : ¬t < 64) :
  Calls Tryd.prog 4 #[.int .i64 k, .int .i64 t, .int .i64 a, .int .u32 n, .int .u8 m] w fun e w' => e = .returned (.bool true) ∧ Upd [] w w' := by
 have HM := Yh_ (And.intro hn hm)
 have hm0 := hm
 have tok : True := trivial
 have d0 : decide (1 ≤ k) = true := by simp [h0]
 have d1 : decide (k ≤ 17) = true := by simp [h1]
 have d2 : decide (0 ≤ t) = true := by simp [h2]
 have d3 : decide (t < 64) = false := by simp [h3]
 have HI := Yh_ (Yc9 (k := k) (t := t) (a := a) (n := n) (by omega))
 clear h0 h1 h2 h3 hn hm
 go_enter Tryd.func4, Tryd.ntmps4
 go_upto_region 20 with (have _t := tok; clear _t; go_at_call 7; refine (Yp _).mono ?_; rintro e w0 ⟨rfl, hu0⟩; have H0 := Yh_ (And.intro (hu0.alloc (.cells (bdX k t a n).cells 35)) (heap_alloc_new w0 (.cells (bdX k t a n).cells 35))); clear hu0 tok)
 try clear d0 d1 d2 d3 d4 d5
 try clear hr
 try clear g2 g3 g9 g10 g17 g8 g12 g13
 change Code.wp _ _ _ _ (w0.alloc (.cells (bdX k t a n).cells 35))
 generalize w0.alloc (.cells (bdX k t a n).cells 35) = w1 at *
 generalize w0.heap.size = g0 at *
 go_wp2_with fail
 go_loopw [13, 14] (fun v i wr => ∃ q : Int, i = .int .i64 q ∧ Hid (0 ≤ q ∧ q ≤ m) ∧ Hid (Ys wr w1.heap.size v (List.replicate q.toNat bdC)) ∧ Hid (Upd [] w1 wr)) (fun _ i _ => (m - intOf i).toNat)
 case atStart => exact ⟨0, rfl, Yh_ (by have := HM.out; omega), Yh_ (Yaf _ _), Yh_ (Upd.refl _ _)⟩
 case round =>
  obtain ⟨q, rfl, hq, HO, HU⟩ := hrel
  by_cases hlt : q < m
  ·have dlt : decide (q < m) = true := by simp [hlt]
   have hq0 := hq.out
   have e1 : wrap64 (q + 1) = q + 1 := by unfold wrap64; omega
   have HB := Yh_ (show 0 ≤ q ∧ q < m ∧ m < 256 by omega)
   clear hq0 hlt
   have tkA : True := trivial
   go_wp2_with (have _t := tkA; clear _t; at_builtin; refine Yl rfl _ _ rfl w1.heap.size u13 (List.replicate q.toNat bdC) rfl (HO.out.old ((Upd.refl [] wr).alloc (.cells (Yd [bdC]).toArray 35)) (by simp)) _ [bdC] wr.heap.size rfl (Yh (l := [bdC]) (c := 1) (T := 35) (f := (0, 0)) (heap_alloc_new wr (.cells (Yd [bdC]).toArray 35))) (by rw [List.length_replicate]; have := HB.out; simp; omega) (Nat.le_trans HU.out.size (by simp)) ?_; intro v' w2 hg; have hb := HO.out.block; have U2 := Yh_ ((HU.out.alloc (.cells (Yd [bdC]).toArray 35)).new hg.u (fun x hx => (hb x (by simpa using hx)).1)); have O2 := Yh_ (show Ys w2 w1.heap.size v' (List.replicate (q + 1).toNat bdC) by rw [show (q + 1).toNat = q.toNat + 1 by have := HB.out; omega, List.replicate_succ']; exact hg.o); clear hg hb tkA)
   try simp only [e1]
   go_roundw
   case rel => exact ⟨q + 1, rfl, Yh_ (by have := HB.out; omega), O2, U2⟩
   case measure => have := HB.out; simp only [intOf]; omega
  ·have hqm : q = m := by have := hq.out; omega
   subst hqm
   have dlt : decide (q < q) = false := by simp
   obtain ⟨r, hr⟩ : ∃ r, decide (q ≤ 200) = r := ⟨_, rfl⟩
   obtain ⟨gl, hsl, _, _⟩ := HO.out.sl
   have HSL := Yh_ hsl
   have HIL := Yh_ (show isL (List.replicate q.toNat bdC) = r by rw [Yaz, show ((q.toNat : Nat) : Int) = q by have := hq.out; omega]; exact hr)
   have cx := Ya (HU.out.get H0.out.2 (by simp))
   unfold bdX Mi.cells at cx
   clear hlt hsl
   have tkA : True := trivial
   cases r
   all_goals
    go_wp2_with (first
     |(have _t := tkA; clear _t; go_at_call 8; refine (Yr _ [bdX k t a n] wr.heap.size _ (Yh (l := [bdX k t a n]) (c := 1) (T := 35) (f := (0, 0)) (heap_alloc_new wr (.cells (Yd [bdX k t a n]).toArray 35))) (by intro x hx; rw [List.mem_singleton.1 hx]; exact ⟨HM.out.1⟩) (by unfold maxLen; simp)).mono ?_; rintro e w3 ⟨rfl, hu⟩; rw [Ya0, HI.out]; have U3 := Yh_ (((Upd.refl [] wr).alloc (.cells (Yd [bdX k t a n]).toArray 35)).also hu (by simp)); clear hu tkA cx)
     |(have _t := U3; clear _t; go_at_call 8; refine (Yr _ (List.replicate q.toNat bdC) gl _ (HSL.out.keep U3.out (by simp)) (Ybb _) (by rw [List.length_replicate]; have := HM.out.2; unfold maxLen; omega)).mono ?_; rintro e w4 ⟨rfl, hu⟩; rw [HIL.out]; have U4 := Yh_ ((H0.out.1.also (HU.out.also U3.out (by simp)) (by simp)).also hu (by simp)); clear hu U3))
    go_ret
    exact ⟨rfl, U4.out⟩
theorem mb_no4 (k t a n m : Int) (w : World) (hn : 0 ≤ n ∧ n < 4294967296) (hm : 0 ≤ m ∧ m < 256) (h0 : 1 ≤ k) (h1 : k ≤ 17) (h2 : 0 ≤ t) (h3 : t < 64) (h4 : ¬0 ≤ a) :
  Calls Tryd.prog 4 #[.int .i64 k, .int .i64 t, .int .i64 a, .int .u32 n, .int .u8 m] w fun e w' => e = .returned (.bool true) ∧ Upd [] w w' := by
 have HM := Yh_ (And.intro hn hm)
 have hm0 := hm
 have tok : True := trivial
 have d0 : decide (1 ≤ k) = true := by simp [h0]
 have d1 : decide (k ≤ 17) = true := by simp [h1]
 have d2 : decide (0 ≤ t) = true := by simp [h2]
 have d3 : decide (t < 64) = true := by simp [h3]
 have d4 : decide (0 ≤ a) = false := by simp [h4]
 have HI := Yh_ (Yc9 (k := k) (t := t) (a := a) (n := n) (by omega))
 clear h0 h1 h2 h3 h4 hn hm
 go_enter Tryd.func4, Tryd.ntmps4
 go_upto_region 20 with (have _t := tok; clear _t; go_at_call 7; refine (Yp _).mono ?_; rintro e w0 ⟨rfl, hu0⟩; have H0 := Yh_ (And.intro (hu0.alloc (.cells (bdX k t a n).cells 35)) (heap_alloc_new w0 (.cells (bdX k t a n).cells 35))); clear hu0 tok)
 try clear d0 d1 d2 d3 d4 d5
 try clear hr
 try clear g2 g3 g9 g10 g17 g8 g12 g13
 change Code.wp _ _ _ _ (w0.alloc (.cells (bdX k t a n).cells 35))
 generalize w0.alloc (.cells (bdX k t a n).cells 35) = w1 at *
 generalize w0.heap.size = g0 at *
 go_wp2_with fail
 go_loopw [13, 14] (fun v i wr => ∃ q : Int, i = .int .i64 q ∧ Hid (0 ≤ q ∧ q ≤ m) ∧ Hid (Ys wr w1.heap.size v (List.replicate q.toNat bdC)) ∧ Hid (Upd [] w1 wr)) (fun _ i _ => (m - intOf i).toNat)
 case atStart => exact ⟨0, rfl, Yh_ (by have := HM.out; omega), Yh_ (Yaf _ _), Yh_ (Upd.refl _ _)⟩
 case round =>
  obtain ⟨q, rfl, hq, HO, HU⟩ := hrel
  by_cases hlt : q < m
  ·have dlt : decide (q < m) = true := by simp [hlt]
   have hq0 := hq.out
   have e1 : wrap64 (q + 1) = q + 1 := by unfold wrap64; omega
   have HB := Yh_ (show 0 ≤ q ∧ q < m ∧ m < 256 by omega)
   clear hq0 hlt
   have tkA : True := trivial
   go_wp2_with (have _t := tkA; clear _t; at_builtin; refine Yl rfl _ _ rfl w1.heap.size u13 (List.replicate q.toNat bdC) rfl (HO.out.old ((Upd.refl [] wr).alloc (.cells (Yd [bdC]).toArray 35)) (by simp)) _ [bdC] wr.heap.size rfl (Yh (l := [bdC]) (c := 1) (T := 35) (f := (0, 0)) (heap_alloc_new wr (.cells (Yd [bdC]).toArray 35))) (by rw [List.length_replicate]; have := HB.out; simp; omega) (Nat.le_trans HU.out.size (by simp)) ?_; intro v' w2 hg; have hb := HO.out.block; have U2 := Yh_ ((HU.out.alloc (.cells (Yd [bdC]).toArray 35)).new hg.u (fun x hx => (hb x (by simpa using hx)).1)); have O2 := Yh_ (show Ys w2 w1.heap.size v' (List.replicate (q + 1).toNat bdC) by rw [show (q + 1).toNat = q.toNat + 1 by have := HB.out; omega, List.replicate_succ']; exact hg.o); clear hg hb tkA)
   try simp only [e1]
   go_roundw
   case rel => exact ⟨q + 1, rfl, Yh_ (by have := HB.out; omega), O2, U2⟩
   case measure => have := HB.out; simp only [intOf]; omega
  ·have hqm : q = m := by have := hq.out; omega
   subst hqm
   have dlt : decide (q < q) = false := by simp
   obtain ⟨r, hr⟩ : ∃ r, decide (q ≤ 200) = r := ⟨_, rfl⟩
   obtain ⟨gl, hsl, _, _⟩ := HO.out.sl
   have HSL := Yh_ hsl
   have HIL := Yh_ (show isL (List.replicate q.toNat bdC) = r by rw [Yaz, show ((q.toNat : Nat) : Int) = q by have := hq.out; omega]; exact hr)
   have cx := Ya (HU.out.get H0.out.2 (by simp))
   unfold bdX Mi.cells at cx
   clear hlt hsl
   have tkA : True := trivial
   cases r
   all_goals
    go_wp2_with (first
     |(have _t := tkA; clear _t; go_at_call 8; refine (Yr _ [bdX k t a n] wr.heap.size _ (Yh (l := [bdX k t a n]) (c := 1) (T := 35) (f := (0, 0)) (heap_alloc_new wr (.cells (Yd [bdX k t a n]).toArray 35))) (by intro x hx; rw [List.mem_singleton.1 hx]; exact ⟨HM.out.1⟩) (by unfold maxLen; simp)).mono ?_; rintro e w3 ⟨rfl, hu⟩; rw [Ya0, HI.out]; have U3 := Yh_ (((Upd.refl [] wr).alloc (.cells (Yd [bdX k t a n]).toArray 35)).also hu (by simp)); clear hu tkA cx)
     |(have _t := U3; clear _t; go_at_call 8; refine (Yr _ (List.replicate q.toNat bdC) gl _ (HSL.out.keep U3.out (by simp)) (Ybb _) (by rw [List.length_replicate]; have := HM.out.2; unfold maxLen; omega)).mono ?_; rintro e w4 ⟨rfl, hu⟩; rw [HIL.out]; have U4 := Yh_ ((H0.out.1.also (HU.out.also U3.out (by simp)) (by simp)).also hu (by simp)); clear hu U3))
    go_ret
    exact ⟨rfl, U4.out⟩
theorem mb_no5 (k t a n m : Int) (w : World) (hn : 0 ≤ n ∧ n < 4294967296) (hm : 0 ≤ m ∧ m < 256) (h0 : 1 ≤ k) (h1 : k ≤ 17) (h2 : 0 ≤ t) (h3 : t < 64) (h4 : 0 ≤ a) (h5 : ¬a < 64) :
  Calls Tryd.prog 4 #[.int .i64 k, .int .i64 t, .int .i64 a, .int .u32 n, .int .u8 m] w fun e w' => e = .returned (.bool true) ∧ Upd [] w w' := by
 have HM := Yh_ (And.intro hn hm)
 have hm0 := hm
 have tok : True := trivial
 have d0 : decide (1 ≤ k) = true := by simp [h0]
 have d1 : decide (k ≤ 17) = true := by simp [h1]
 have d2 : decide (0 ≤ t) = true := by simp [h2]
 have d3 : decide (t < 64) = true := by simp [h3]
 have d4 : decide (0 ≤ a) = true := by simp [h4]
 have d5 : decide (a < 64) = false := by simp [h5]
 have HI := Yh_ (Yc9 (k := k) (t := t) (a := a) (n := n) (by omega))
 clear h0 h1 h2 h3 h4 h5 hn hm
 go_enter Tryd.func4, Tryd.ntmps4
 go_upto_region 20 with (have _t := tok; clear _t; go_at_call 7; refine (Yp _).mono ?_; rintro e w0 ⟨rfl, hu0⟩; have H0 := Yh_ (And.intro (hu0.alloc (.cells (bdX k t a n).cells 35)) (heap_alloc_new w0 (.cells (bdX k t a n).cells 35))); clear hu0 tok)
 try clear d0 d1 d2 d3 d4 d5
 try clear hr
 try clear g2 g3 g9 g10 g17 g8 g12 g13
 change Code.wp _ _ _ _ (w0.alloc (.cells (bdX k t a n).cells 35))
 generalize w0.alloc (.cells (bdX k t a n).cells 35) = w1 at *
 generalize w0.heap.size = g0 at *
 go_wp2_with fail
 go_loopw [13, 14] (fun v i wr => ∃ q : Int, i = .int .i64 q ∧ Hid (0 ≤ q ∧ q ≤ m) ∧ Hid (Ys wr w1.heap.size v (List.replicate q.toNat bdC)) ∧ Hid (Upd [] w1 wr)) (fun _ i _ => (m - intOf i).toNat)
 case atStart => exact ⟨0, rfl, Yh_ (by have := HM.out; omega), Yh_ (Yaf _ _), Yh_ (Upd.refl _ _)⟩
 case round =>
  obtain ⟨q, rfl, hq, HO, HU⟩ := hrel
  by_cases hlt : q < m
  ·have dlt : decide (q < m) = true := by simp [hlt]
   have hq0 := hq.out
   have e1 : wrap64 (q + 1) = q + 1 := by unfold wrap64; omega
   have HB := Yh_ (show 0 ≤ q ∧ q < m ∧ m < 256 by omega)
   clear hq0 hlt
   have tkA : True := trivial
   go_wp2_with (have _t := tkA; clear _t; at_builtin; refine Yl rfl _ _ rfl w1.heap.size u13 (List.replicate q.toNat bdC) rfl (HO.out.old ((Upd.refl [] wr).alloc (.cells (Yd [bdC]).toArray 35)) (by simp)) _ [bdC] wr.heap.size rfl (Yh (l := [bdC]) (c := 1) (T := 35) (f := (0, 0)) (heap_alloc_new wr (.cells (Yd [bdC]).toArray 35))) (by rw [List.length_replicate]; have := HB.out; simp; omega) (Nat.le_trans HU.out.size (by simp)) ?_; intro v' w2 hg; have hb := HO.out.block; have U2 := Yh_ ((HU.out.alloc (.cells (Yd [bdC]).toArray 35)).new hg.u (fun x hx => (hb x (by simpa using hx)).1)); have O2 := Yh_ (show Ys w2 w1.heap.size v' (List.replicate (q + 1).toNat bdC) by rw [show (q + 1).toNat = q.toNat + 1 by have := HB.out; omega, List.replicate_succ']; exact hg.o); clear hg hb tkA)
   try simp only [e1]
   go_roundw
   case rel => exact ⟨q + 1, rfl, Yh_ (by have := HB.out; omega), O2, U2⟩
   case measure => have := HB.out; simp only [intOf]; omega
  ·have hqm : q = m := by have := hq.out; omega
   subst hqm
   have dlt : decide (q < q) = false := by simp
   obtain ⟨r, hr⟩ : ∃ r, decide (q ≤ 200) = r := ⟨_, rfl⟩
   obtain ⟨gl, hsl, _, _⟩ := HO.out.sl
   have HSL := Yh_ hsl
   have HIL := Yh_ (show isL (List.replicate q.toNat bdC) = r by rw [Yaz, show ((q.toNat : Nat) : Int) = q by have := hq.out; omega]; exact hr)
   have cx := Ya (HU.out.get H0.out.2 (by simp))
   unfold bdX Mi.cells at cx
   clear hlt hsl
   have tkA : True := trivial
   cases r
   all_goals
    go_wp2_with (first
     |(have _t := tkA; clear _t; go_at_call 8; refine (Yr _ [bdX k t a n] wr.heap.size _ (Yh (l := [bdX k t a n]) (c := 1) (T := 35) (f := (0, 0)) (heap_alloc_new wr (.cells (Yd [bdX k t a n]).toArray 35))) (by intro x hx; rw [List.mem_singleton.1 hx]; exact ⟨HM.out.1⟩) (by unfold maxLen; simp)).mono ?_; rintro e w3 ⟨rfl, hu⟩; rw [Ya0, HI.out]; have U3 := Yh_ (((Upd.refl [] wr).alloc (.cells (Yd [bdX k t a n]).toArray 35)).also hu (by simp)); clear hu tkA cx)
     |(have _t := U3; clear _t; go_at_call 8; refine (Yr _ (List.replicate q.toNat bdC) gl _ (HSL.out.keep U3.out (by simp)) (Ybb _) (by rw [List.length_replicate]; have := HM.out.2; unfold maxLen; omega)).mono ?_; rintro e w4 ⟨rfl, hu⟩; rw [HIL.out]; have U4 := Yh_ ((H0.out.1.also (HU.out.also U3.out (by simp)) (by simp)).also hu (by simp)); clear hu U3))
    go_ret
    exact ⟨rfl, U4.out⟩
theorem mb_2 (t a n m : Int) (w : World) (hn : 0 ≤ n ∧ n < 4294967296) (hm : 0 ≤ m ∧ m < 256) (h2 : 0 ≤ t) (h3 : t < 64) (h4 : 0 ≤ a) (h5 : a < 64) :
  Calls Tryd.prog 4 #[.int .i64 2, .int .i64 t, .int .i64 a, .int .u32 n, .int .u8 m] w fun e w' => e = .returned (.bool true) ∧ Upd [] w w' := by
 have HM := Yh_ (And.intro hn hm)
 have hm0 := hm
 have tok : True := trivial
 have h0 : (1 : Int) ≤ 2 := by decide
 have h1 : (2 : Int) ≤ 17 := by decide
 have d0 : decide ((1 : Int) ≤ 2) = true := by simp [h0]
 have d1 : decide ((2 : Int) ≤ 17) = true := by simp [h1]
 have d2 : decide (0 ≤ t) = true := by simp [h2]
 have d3 : decide (t < 64) = true := by simp [h3]
 have d4 : decide (0 ≤ a) = true := by simp [h4]
 have d5 : decide (a < 64) = true := by simp [h5]
 obtain ⟨r, hr⟩ : ∃ r, decide (n < 8) = r := ⟨_, rfl⟩
 have HI := Yh_ (show (bdX 2 t a n).is = r by rw [Ycc (k := 2) (t := t) (a := a) (n := n) ⟨h2, h3, h4, h5⟩, ← hr]; show btw n 0 7 = _; unfold btw; rw [decide_eq_true hn.1, Bool.true_and]; exact Ycz n 8)
 clear h0 h1 h2 h3 h4 h5 hn hm
 cases r
 all_goals
  go_enter Tryd.func4, Tryd.ntmps4
  go_upto_region 20 with (have _t := tok; clear _t; go_at_call 7; refine (Yp _).mono ?_; rintro e w0 ⟨rfl, hu0⟩; have H0 := Yh_ (And.intro (hu0.alloc (.cells (bdX 2 t a n).cells 35)) (heap_alloc_new w0 (.cells (bdX 2 t a n).cells 35))); clear hu0 tok)
  try clear d0 d1 d2 d3 d4 d5
  try clear hr
  try clear g2 g3 g9 g10 g17 g8 g12 g13
  change Code.wp _ _ _ _ (w0.alloc (.cells (bdX 2 t a n).cells 35))
  generalize w0.alloc (.cells (bdX 2 t a n).cells 35) = w1 at *
  generalize w0.heap.size = g0 at *
  go_wp2_with fail
  go_loopw [13, 14] (fun v i wr => ∃ q : Int, i = .int .i64 q ∧ Hid (0 ≤ q ∧ q ≤ m) ∧ Hid (Ys wr w1.heap.size v (List.replicate q.toNat bdC)) ∧ Hid (Upd [] w1 wr)) (fun _ i _ => (m - intOf i).toNat)
  case atStart => exact ⟨0, rfl, Yh_ (by have := HM.out; omega), Yh_ (Yaf _ _), Yh_ (Upd.refl _ _)⟩
  case round =>
   obtain ⟨q, rfl, hq, HO, HU⟩ := hrel
   by_cases hlt : q < m
   ·have dlt : decide (q < m) = true := by simp [hlt]
    have hq0 := hq.out
    have e1 : wrap64 (q + 1) = q + 1 := by unfold wrap64; omega
    have HB := Yh_ (show 0 ≤ q ∧ q < m ∧ m < 256 by omega)
    clear hq0 hlt
    have tkA : True := trivial
    go_wp2_with (have _t := tkA; clear _t; at_builtin; refine Yl rfl _ _ rfl w1.heap.size u13 (List.replicate q.toNat bdC) rfl (HO.out.old ((Upd.refl [] wr).alloc (.cells (Yd [bdC]).toArray 35)) (by simp)) _ [bdC] wr.heap.size rfl (Yh (l := [bdC]) (c := 1) (T := 35) (f := (0, 0)) (heap_alloc_new wr (.cells (Yd [bdC]).toArray 35))) (by rw [List.length_replicate]; have := HB.out; simp; omega) (Nat.le_trans HU.out.size (by simp)) ?_; intro v' w2 hg; have hb := HO.out.block; have U2 := Yh_ ((HU.out.alloc (.cells (Yd [bdC]).toArray 35)).new hg.u (fun x hx => (hb x (by simpa using hx)).1)); have O2 := Yh_ (show Ys w2 w1.heap.size v' (List.replicate (q + 1).toNat bdC) by rw [show (q + 1).toNat = q.toNat + 1 by have := HB.out; omega, List.replicate_succ']; exact hg.o); clear hg hb tkA)
    try simp only [e1]
    go_roundw
    case rel => exact ⟨q + 1, rfl, Yh_ (by have := HB.out; omega), O2, U2⟩
    case measure => have := HB.out; simp only [intOf]; omega
   ·have hqm : q = m := by have := hq.out; omega
    subst hqm
    have dlt : decide (q < q) = false := by simp
    obtain ⟨r, hr⟩ : ∃ r, decide (q ≤ 200) = r := ⟨_, rfl⟩
    obtain ⟨gl, hsl, _, _⟩ := HO.out.sl
    have HSL := Yh_ hsl
    have HIL := Yh_ (show isL (List.replicate q.toNat bdC) = r by rw [Yaz, show ((q.toNat : Nat) : Int) = q by have := hq.out; omega]; exact hr)
    have cx := Ya (HU.out.get H0.out.2 (by simp))
    unfold bdX Mi.cells at cx
    clear hlt hsl
    have tkA : True := trivial
    cases r
    all_goals
     go_wp2_with (first
      |(have _t := tkA; clear _t; go_at_call 8; refine (Yr _ [bdX 2 t a n] wr.heap.size _ (Yh (l := [bdX 2 t a n]) (c := 1) (T := 35) (f := (0, 0)) (heap_alloc_new wr (.cells (Yd [bdX 2 t a n]).toArray 35))) (by intro x hx; rw [List.mem_singleton.1 hx]; exact ⟨HM.out.1⟩) (by unfold maxLen; simp)).mono ?_; rintro e w3 ⟨rfl, hu⟩; rw [Ya0, HI.out]; have U3 := Yh_ (((Upd.refl [] wr).alloc (.cells (Yd [bdX 2 t a n]).toArray 35)).also hu (by simp)); clear hu tkA cx)
      |(have _t := U3; clear _t; go_at_call 8; refine (Yr _ (List.replicate q.toNat bdC) gl _ (HSL.out.keep U3.out (by simp)) (Ybb _) (by rw [List.length_replicate]; have := HM.out.2; unfold maxLen; omega)).mono ?_; rintro e w4 ⟨rfl, hu⟩; rw [HIL.out]; have U4 := Yh_ ((H0.out.1.also (HU.out.also U3.out (by simp)) (by simp)).also hu (by simp)); clear hu U3))
     go_ret
     exact ⟨rfl, U4.out⟩
theorem mb_3 (t a n m : Int) (w : World) (hn : 0 ≤ n ∧ n < 4294967296) (hm : 0 ≤ m ∧ m < 256) (h2 : 0 ≤ t) (h3 : t < 64) (h4 : 0 ≤ a) (h5 : a < 64) :
  Calls Tryd.prog 4 #[.int .i64 3, .int .i64 t, .int .i64 a, .int .u32 n, .int .u8 m] w fun e w' => e = .returned (.bool true) ∧ Upd [] w w' := by
 have HM := Yh_ (And.intro hn hm)
 have hm0 := hm
 have tok : True := trivial
 have h0 : (1 : Int) ≤ 3 := by decide
 have h1 : (3 : Int) ≤ 17 := by decide
 have d0 : decide ((1 : Int) ≤ 3) = true := by simp [h0]
 have d1 : decide ((3 : Int) ≤ 17) = true := by simp [h1]
 have d2 : decide (0 ≤ t) = true := by simp [h2]
 have d3 : decide (t < 64) = true := by simp [h3]
 have d4 : decide (0 ≤ a) = true := by simp [h4]
 have d5 : decide (a < 64) = true := by simp [h5]
 obtain ⟨r, hr⟩ : ∃ r, decide (n < 8) = r := ⟨_, rfl⟩
 have HI := Yh_ (show (bdX 3 t a n).is = r by rw [Ycc (k := 3) (t := t) (a := a) (n := n) ⟨h2, h3, h4, h5⟩, ← hr]; show btw n 0 7 = _; unfold btw; rw [decide_eq_true hn.1, Bool.true_and]; exact Ycz n 8)
 clear h0 h1 h2 h3 h4 h5 hn hm
 cases r
 all_goals
  go_enter Tryd.func4, Tryd.ntmps4
  go_upto_region 20 with (have _t := tok; clear _t; go_at_call 7; refine (Yp _).mono ?_; rintro e w0 ⟨rfl, hu0⟩; have H0 := Yh_ (And.intro (hu0.alloc (.cells (bdX 3 t a n).cells 35)) (heap_alloc_new w0 (.cells (bdX 3 t a n).cells 35))); clear hu0 tok)
  try clear d0 d1 d2 d3 d4 d5
  try clear hr
  try clear g2 g3 g9 g10 g17 g8 g12 g13
  change Code.wp _ _ _ _ (w0.alloc (.cells (bdX 3 t a n).cells 35))
  generalize w0.alloc (.cells (bdX 3 t a n).cells 35) = w1 at *
  generalize w0.heap.size = g0 at *
  go_wp2_with fail
  go_loopw [13, 14] (fun v i wr => ∃ q : Int, i = .int .i64 q ∧ Hid (0 ≤ q ∧ q ≤ m) ∧ Hid (Ys wr w1.heap.size v (List.replicate q.toNat bdC)) ∧ Hid (Upd [] w1 wr)) (fun _ i _ => (m - intOf i).toNat)
  case atStart => exact ⟨0, rfl, Yh_ (by have := HM.out; omega), Yh_ (Yaf _ _), Yh_ (Upd.refl _ _)⟩
  case round =>
   obtain ⟨q, rfl, hq, HO, HU⟩ := hrel
   by_cases hlt : q < m
   ·have dlt : decide (q < m) = true := by simp [hlt]
    have hq0 := hq.out
    have e1 : wrap64 (q + 1) = q + 1 := by unfold wrap64; omega
    have HB := Yh_ (show 0 ≤ q ∧ q < m ∧ m < 256 by omega)
    clear hq0 hlt
    have tkA : True := trivial
    go_wp2_with (have _t := tkA; clear _t; at_builtin; refine Yl rfl _ _ rfl w1.heap.size u13 (List.replicate q.toNat bdC) rfl (HO.out.old ((Upd.refl [] wr).alloc (.cells (Yd [bdC]).toArray 35)) (by simp)) _ [bdC] wr.heap.size rfl (Yh (l := [bdC]) (c := 1) (T := 35) (f := (0, 0)) (heap_alloc_new wr (.cells (Yd [bdC]).toArray 35))) (by rw [List.length_replicate]; have := HB.out; simp; omega) (Nat.le_trans HU.out.size (by simp)) ?_; intro v' w2 hg; have hb := HO.out.block; have U2 := Yh_ ((HU.out.alloc (.cells (Yd [bdC]).toArray 35)).new hg.u (fun x hx => (hb x (by simpa using hx)).1)); have O2 := Yh_ (show Ys w2 w1.heap.size v' (List.replicate (q + 1).toNat bdC) by rw [show (q + 1).toNat = q.toNat + 1 by have := HB.out; omega, List.replicate_succ']; exact hg.o); clear hg hb tkA)
    try simp only [e1]
    go_roundw
    case rel => exact ⟨q + 1, rfl, Yh_ (by have := HB.out; omega), O2, U2⟩
    case measure => have := HB.out; simp only [intOf]; omega
   ·have hqm : q = m := by have := hq.out; omega
    subst hqm
    have dlt : decide (q < q) = false := by simp
    obtain ⟨r, hr⟩ : ∃ r, decide (q ≤ 200) = r := ⟨_, rfl⟩
    obtain ⟨gl, hsl, _, _⟩ := HO.out.sl
    have HSL := Yh_ hsl
    have HIL := Yh_ (show isL (List.replicate q.toNat bdC) = r by rw [Yaz, show ((q.toNat : Nat) : Int) = q by have := hq.out; omega]; exact hr)
    have cx := Ya (HU.out.get H0.out.2 (by simp))
    unfold bdX Mi.cells at cx
    clear hlt hsl
    have tkA : True := trivial
    cases r
    all_goals
     go_wp2_with (first
      |(have _t := tkA; clear _t; go_at_call 8; refine (Yr _ [bdX 3 t a n] wr.heap.size _ (Yh (l := [bdX 3 t a n]) (c := 1) (T := 35) (f := (0, 0)) (heap_alloc_new wr (.cells (Yd [bdX 3 t a n]).toArray 35))) (by intro x hx; rw [List.mem_singleton.1 hx]; exact ⟨HM.out.1⟩) (by unfold maxLen; simp)).mono ?_; rintro e w3 ⟨rfl, hu⟩; rw [Ya0, HI.out]; have U3 := Yh_ (((Upd.refl [] wr).alloc (.cells (Yd [bdX 3 t a n]).toArray 35)).also hu (by simp)); clear hu tkA cx)
      |(have _t := U3; clear _t; go_at_call 8; refine (Yr _ (List.replicate q.toNat bdC) gl _ (HSL.out.keep U3.out (by simp)) (Ybb _) (by rw [List.length_replicate]; have := HM.out.2; unfold maxLen; omega)).mono ?_; rintro e w4 ⟨rfl, hu⟩; rw [HIL.out]; have U4 := Yh_ ((H0.out.1.also (HU.out.also U3.out (by simp)) (by simp)).also hu (by simp)); clear hu U3))
     go_ret
     exact ⟨rfl, U4.out⟩
end Go.Proofs.YtjkolegknpflfaaDoor
