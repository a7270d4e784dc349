/-
  Parts of the proof (their names shortened by a program). No condition.
-/
import Derived.Test.YteiplidhkelkbaaGreatMg01
import Derived.Test.YteiplidhkelkbaaGreatMg17
import Derived.Test.YteiplidhkelkbaaGreatMg05
namespace Go.Proofs.YteiplidhkelkbaaGreat
open Go Go.RowKit
set_option linter.unusedVariables false
set_option linter.unusedSimpArgs false
set_option maxRecDepth 100000
set_option maxHeartbeats 16000000
section
theorem Yb6 (c : Int) (hc : 0 ≤ c ∧ c ≤ 255) : bits .and .i64 (c / 8) 7 = c / 8 % 8 ∧ bits .and .i64 c 7 = c % 8 := by
 have h : ∀ k : Fin 256, bits .and .i64 ((k.val : Int) / 8) 7 = (k.val : Int) / 8 % 8 ∧ bits .and .i64 (k.val : Int) 7 = (k.val : Int) % 8 := by decide +kernel
 have := h ⟨c.toNat, by omega⟩
 simpa only [show ((c.toNat : Nat) : Int) = c by omega] using this
theorem Yjy (t : Int) (ht : 0 ≤ t ∧ t ≤ 255) : (2 : Int) ^ (t / 64).toNat % 4294967296 = 2 ^ (t / 64).toNat := by
 have : t / 64 = 0 ∨ t / 64 = 1 ∨ t / 64 = 2 ∨ t / 64 = 3 := by omega
 rcases this with h | h | h | h <;> rw [h] <;> rfl
structure MoS (w : World) (d : Nat) (v : Value) (L : List Int) (g : Nat) (s : Rd) (ob : Nat) (C : Array Value) (w1 : World) : Prop where
 h : Yl w1 d v L g s
 u : Upd [d] w w1
 r : w1.heap[w.heap.size]? = some (.cells Opd.none.cells 40 (0, 0))
 o : w1.heap[ob]? = some (.cells C 40 (0, 0))
 lt : d < w.heap.size ∧ w.heap.size < ob
 b : Ybz w v L g
section
variable {w w1 w2 : World} {d : Nat} {v : Value} {L : List Int} {g : Nat} {s s' : Rd} {ob : Nat} {C : Array Value}
theorem Yl.frame (h : Yl w1 d v L g s) (b : Ybz w v L g) (u : Upd [d] w w2) (hd : w2.heap[d]? = w1.heap[d]?) : Yl w2 d v L g s :=
 ⟨by rw [hd]; exact h.h, b.keep u (by simpa using h.gd), h.k, h.n, h.gd, h.r, h.c⟩
theorem MoS.start (b : Ybz w v L g) (hl : d < w.heap.size) (h : Yl w1 d v L g s) (u : Upd [d] w w1) (r : w1.heap[w.heap.size]? = some (.cells Opd.none.cells 40 (0, 0))) (C : Array Value) : MoS w d v L g s w1.heap.size C (w1.alloc (.cells C 40)) := by
 have := Yv r
 exact ⟨h.step ((Upd.refl [] _).alloc _), u.alloc _, Yc _ r, heap_alloc_new _ _, ⟨hl, by omega⟩, b⟩
theorem MoS.set (h : MoS w d v L g s ob C w1) (i : Nat) (x : Value) : MoS w d v L g s ob (C.setIfInBounds i x) (w1.setCell ⟨ob, i, none⟩ x) := by
 have l := h.lt
 have u : Upd [ob] w1 (w1.setCell ⟨ob, i, none⟩ x) := (Upd.refl [ob] w1).setCell (by simp) x
 have u2 := h.u.also u (by simp; omega)
 exact ⟨h.h.frame h.b u2 (by rw [h.h.h]; exact u.get h.h.h (by simp; omega)), u2, u.get h.r (by simp; omega), Ys h.o i x, l, h.b⟩
theorem MoS.call (h : MoS w d v L g s ob C w1) (hd : Yl w2 d v L g s') (hu : Upd [d] w1 w2) : MoS w d v L g s' ob C w2 := by
 have l := h.lt
 exact ⟨hd, h.u.also hu (by simp), hu.get h.r (by simp; omega), hu.get h.o (by simp; omega), l, h.b⟩
theorem Yek (b : Ybz w v L g) (hl : d < w.heap.size) (h : Yl w1 d v L g s) (u : Upd [d] w w1) (r : w1.heap[w.heap.size]? = some (.cells Opd.none.cells 40 (0, 0))) {o : Opd} (hw : w1.setCells w.heap.size 0 o.cells.toList = w2) : Yl w2 d v L g s ∧ Upd [d] w w2 ∧ w2.heap[w.heap.size]? = some (.cells o.cells 40 (0, 0)) := by
 obtain ⟨h1, h2⟩ := Yc0 hw r rfl
 have u2 := u.also h2 (by simp)
 exact ⟨h.frame b u2 (by rw [h.h]; exact h2.get h.h (by simp; omega)), u2, h1⟩
end
theorem Ydw {L : List Int} (hL : BOk L) (s : Rd) : 0 ≤ reW L s ∧ reW L s < 4294967296 := by
 rw [← Yrd]
 exact Ykg hL s 4
theorem Yfq (d g : Nat) (s : Rd) (v : Value) (L : List Int) (w : World) (hD : Yl w d v L g s) (c : Int) (hce : reB L s = c) (h3 : c / 64 = 3) :
  Calls Tryz.prog 72 #[.pointer (some ⟨d, 0, none⟩)] w fun e w' => e = .returned (.tuple #[(reM L s).val, .int .i64 (reN L s)]) ∧ Yl w' d v L g (Yab L s) ∧ Upd [d] w w' := by
 have hb := Yae hD.r s
 have hW := fun s' => Ydw hD.r s'
 have hB := fun s' => Yae hD.r s'
 have e1 : reM L s = Yn (c % 8) := by unfold reM; rw [hce]; dsimp only; rw [if_pos h3]
 have e2 : reN L s = c / 8 % 8 := by rw [reN, hce]
 have e3 : Yab L s = Ym L s := by unfold Yab; rw [hce]; dsimp only; rw [if_pos h3]
 rw [e1, e2, e3]
 rw [hce] at hb
 have HD := Yh_ (hD.step ((Upd.refl [] w).alloc (.cells Opd.none.cells 40)))
 have HBE := Yh_ hce
 have HL := Yh_ (And.intro hD.lt hD.b)
 obtain ⟨b1, b2⟩ := Yb6 c hb
 have tok1 : True := trivial
 clear hD hce e1 e2 e3 hW hB
 go_enter Tryz.func72, Tryz.ntmps72
 go_wp2_with (first | (go_at_call 53; have _t := tok1; clear _t; refine (Yy d g _ v L _ HD.out).mono ?_; rintro e w4 ⟨rfl, h, hu⟩; rw [HBE.out]; have H4 := Yh_ (And.intro h (And.intro (Yb5 hu) (Yct HL.out.1 hu))); clear h hu tok1) | (have _t := H4; clear _t; go_at_call 56; refine (Yba (c % 8) _).mono ?_; rintro e w5 ⟨rfl, hu⟩; have H5 := Yh_ (And.intro (H4.out.1.step hu) (And.intro (H4.out.2.1.also hu (by simp)) (hu.get H4.out.2.2 (by simp)))); clear hu H4) | (have _t := H5; clear _t; refine Yt (Yn (c % 8)) w.heap.size 0 rfl _ _ rfl rfl rfl H5.out.2.2 (by decide) ?_; intro w6 hw6; have H6 := Yh_ (Yek HL.out.2 HL.out.1 H5.out.1 H5.out.2.1 H5.out.2.2 hw6); clear hw6 H5))
 exact bodyPost_ret (Yg rfl (Ybm 2 w.heap.size _ rfl H6.out.2.2) (Yk 3 rfl)) rfl ⟨rfl, H6.out.1, H6.out.2.1⟩
theorem Yt1 (d g : Nat) (s : Rd) (v : Value) (L : List Int) (w : World) (hD : Yl w d v L g s) (c : Int) (hce : reB L s = c) (h4 : c % 8 ≠ 4) (h0 : c / 64 = 0 ∧ c % 8 = 5) :
  Calls Tryz.prog 72 #[.pointer (some ⟨d, 0, none⟩)] w fun e w' => e = .returned (.tuple #[(reM L s).val, .int .i64 (reN L s)]) ∧ Yl w' d v L g (Yab L s) ∧ Upd [d] w w' := by
 have hb := Yae hD.r s
 have hW := fun s' => Ydw hD.r s'
 have hB := fun s' => Yae hD.r s'
 have e1 : reM L s = ⟨3, 0, reW L (Ym L s), -1, -1, 1⟩ := by unfold reM; rw [hce]; dsimp only; rw [if_neg (by omega)]; rw [if_neg h4]; unfold reT; rw [if_pos h0]
 have e2 : reN L s = c / 8 % 8 := by rw [reN, hce]
 have e3 : Yab L s = Yb1 L (Ym L s) := by unfold Yab; rw [hce]; dsimp only; rw [if_neg (by omega)]; rw [if_neg h4]; unfold Ydz; rw [if_pos h0]
 rw [e1, e2, e3]
 rw [hce] at hb
 have HD := Yh_ (hD.step ((Upd.refl [] w).alloc (.cells Opd.none.cells 40)))
 have HBE := Yh_ hce
 have HL := Yh_ (And.intro hD.lt hD.b)
 obtain ⟨b1, b2⟩ := Yb6 c hb
 have q1 : c / 64 = 0 := by omega
 have q2 : (c % 8 == 4) = false := by simpa using h4
 have q3 : (c % 8 == 5) = true := by simpa using h0.2
 have HWW := Yh_ (hW (Ym L s))
 have tok1 : True := trivial
 clear hD hce e1 e2 e3 hW hB h4 h0
 go_enter Tryz.func72, Tryz.ntmps72
 go_wp2_with (first | (go_at_call 53; have _t := tok1; clear _t; refine (Yy d g _ v L _ HD.out).mono ?_; rintro e w4 ⟨rfl, h, hu⟩; rw [HBE.out]; have H4 := Yh_ (And.intro h (And.intro (Yb5 hu) (Yct HL.out.1 hu))); clear h hu tok1) | (have _t := H4; clear _t; go_at_call 59; refine (Yci d g _ v L _ (MoS.start HL.out.2 HL.out.1 H4.out.1 H4.out.2.1 H4.out.2.2 #[.int .i64 3, .int .i64 0, .int .u32 0, .int .i64 (c % 8), .int .i64 (-1), .int .u32 1]).h).mono ?_; rintro e w6 ⟨rfl, h, hu⟩; have H6 := Yh_ ((MoS.start HL.out.2 HL.out.1 H4.out.1 H4.out.2.1 H4.out.2.2 #[.int .i64 3, .int .i64 0, .int .u32 0, .int .i64 (c % 8), .int .i64 (-1), .int .u32 1]).call h hu); have c6 := Ya H6.out.o; have f6 := Yh H6.out.o; clear h hu H4) | (have _t := H6; clear _t; refine Ye 40 rfl ?_; refine Yt ⟨3, 0, reW L (Ym L s), -1, -1, 1⟩ w.heap.size 0 rfl _ _ rfl rfl rfl ((H6.out.set 3 (.int .i64 (-1))).set 2 (.int .u32 (reW L (Ym L s)))).r (by decide) ?_; intro w7 hw7; have H7 := Yh_ (Yek HL.out.2 HL.out.1 ((H6.out.set 3 (.int .i64 (-1))).set 2 (.int .u32 (reW L (Ym L s)))).h ((H6.out.set 3 (.int .i64 (-1))).set 2 (.int .u32 (reW L (Ym L s)))).u ((H6.out.set 3 (.int .i64 (-1))).set 2 (.int .u32 (reW L (Ym L s)))).r hw7); clear hw7))
 exact bodyPost_ret (Yg rfl (Ybm 2 w.heap.size _ rfl H7.out.2.2) (Yk 3 rfl)) rfl ⟨rfl, H7.out.1, H7.out.2.1⟩
theorem Ymf (d g : Nat) (s : Rd) (v : Value) (L : List Int) (w : World) (hD : Yl w d v L g s) (c : Int) (hce : reB L s = c) (h4 : c % 8 ≠ 4) (h0 : c / 64 = 1) :
  Calls Tryz.prog 72 #[.pointer (some ⟨d, 0, none⟩)] w fun e w' => e = .returned (.tuple #[(reM L s).val, .int .i64 (reN L s)]) ∧ Yl w' d v L g (Yab L s) ∧ Upd [d] w w' := by
 have hb := Yae hD.r s
 have hW := fun s' => Ydw hD.r s'
 have hB := fun s' => Yae hD.r s'
 have e1 : reM L s = ⟨3, 0, sx8 (reB L (Ym L s)), c % 8, -1, 1⟩ := by unfold reM; rw [hce]; dsimp only; rw [if_neg (by omega)]; rw [if_neg h4]; unfold reT; rw [if_neg (by omega), if_pos h0]
 have e2 : reN L s = c / 8 % 8 := by rw [reN, hce]
 have e3 : Yab L s = Ym L (Ym L s) := by unfold Yab; rw [hce]; dsimp only; rw [if_neg (by omega)]; rw [if_neg h4]; unfold Ydz; rw [if_neg (by omega), if_pos h0]
 rw [e1, e2, e3]
 rw [hce] at hb
 have HD := Yh_ (hD.step ((Upd.refl [] w).alloc (.cells Opd.none.cells 40)))
 have HBE := Yh_ hce
 have HL := Yh_ (And.intro hD.lt hD.b)
 obtain ⟨b1, b2⟩ := Yb6 c hb
 have q1 : c / 64 = 1 := by omega
 have q2 : (c % 8 == 4) = false := by simpa using h4
 have tok1 : True := trivial
 clear hD hce e1 e2 e3 hW hB h4 h0
 go_enter Tryz.func72, Tryz.ntmps72
 go_wp2_with (first | (go_at_call 53; have _t := tok1; clear _t; refine (Yy d g _ v L _ HD.out).mono ?_; rintro e w4 ⟨rfl, h, hu⟩; rw [HBE.out]; have H4 := Yh_ (And.intro h (And.intro (Yb5 hu) (Yct HL.out.1 hu))); clear h hu tok1) | (have _t := H4; clear _t; go_at_call 58; refine (Yez d g _ v L _ (MoS.start HL.out.2 HL.out.1 H4.out.1 H4.out.2.1 H4.out.2.2 #[.int .i64 3, .int .i64 0, .int .u32 0, .int .i64 (c % 8), .int .i64 (-1), .int .u32 1]).h).mono ?_; rintro e w6 ⟨rfl, h, hu⟩; have H6 := Yh_ ((MoS.start HL.out.2 HL.out.1 H4.out.1 H4.out.2.1 H4.out.2.2 #[.int .i64 3, .int .i64 0, .int .u32 0, .int .i64 (c % 8), .int .i64 (-1), .int .u32 1]).call h hu); have c6 := Ya H6.out.o; have f6 := Yh H6.out.o; clear h hu H4) | (have _t := H6; clear _t; refine Ye 40 rfl ?_; refine Yt ⟨3, 0, sx8 (reB L (Ym L s)), c % 8, -1, 1⟩ w.heap.size 0 rfl _ _ rfl rfl rfl (H6.out.set 2 (.int .u32 (sx8 (reB L (Ym L s))))).r (by decide) ?_; intro w7 hw7; have H7 := Yh_ (Yek HL.out.2 HL.out.1 (H6.out.set 2 (.int .u32 (sx8 (reB L (Ym L s))))).h (H6.out.set 2 (.int .u32 (sx8 (reB L (Ym L s))))).u (H6.out.set 2 (.int .u32 (sx8 (reB L (Ym L s))))).r hw7); clear hw7))
 exact bodyPost_ret (Yg rfl (Ybm 2 w.heap.size _ rfl H7.out.2.2) (Yk 3 rfl)) rfl ⟨rfl, H7.out.1, H7.out.2.1⟩
theorem Ymg (d g : Nat) (s : Rd) (v : Value) (L : List Int) (w : World) (hD : Yl w d v L g s) (c : Int) (hce : reB L s = c) (h4 : c % 8 ≠ 4) (h0 : c / 64 = 2) :
  Calls Tryz.prog 72 #[.pointer (some ⟨d, 0, none⟩)] w fun e w' => e = .returned (.tuple #[(reM L s).val, .int .i64 (reN L s)]) ∧ Yl w' d v L g (Yab L s) ∧ Upd [d] w w' := by
 have hb := Yae hD.r s
 have hW := fun s' => Ydw hD.r s'
 have hB := fun s' => Yae hD.r s'
 have e1 : reM L s = ⟨3, 0, reW L (Ym L s), c % 8, -1, 1⟩ := by unfold reM; rw [hce]; dsimp only; rw [if_neg (by omega)]; rw [if_neg h4]; unfold reT; rw [if_neg (by omega), if_neg (by omega), if_pos h0]
 have e2 : reN L s = c / 8 % 8 := by rw [reN, hce]
 have e3 : Yab L s = Yb1 L (Ym L s) := by unfold Yab; rw [hce]; dsimp only; rw [if_neg (by omega)]; rw [if_neg h4]; unfold Ydz; rw [if_neg (by omega), if_neg (by omega), if_pos h0]
 rw [e1, e2, e3]
 rw [hce] at hb
 have HD := Yh_ (hD.step ((Upd.refl [] w).alloc (.cells Opd.none.cells 40)))
 have HBE := Yh_ hce
 have HL := Yh_ (And.intro hD.lt hD.b)
 obtain ⟨b1, b2⟩ := Yb6 c hb
 have q1 : c / 64 = 2 := by omega
 have q2 : (c % 8 == 4) = false := by simpa using h4
 have HWW := Yh_ (hW (Ym L s))
 have tok1 : True := trivial
 clear hD hce e1 e2 e3 hW hB h4 h0
 go_enter Tryz.func72, Tryz.ntmps72
 go_wp2_with (first | (go_at_call 53; have _t := tok1; clear _t; refine (Yy d g _ v L _ HD.out).mono ?_; rintro e w4 ⟨rfl, h, hu⟩; rw [HBE.out]; have H4 := Yh_ (And.intro h (And.intro (Yb5 hu) (Yct HL.out.1 hu))); clear h hu tok1) | (have _t := H4; clear _t; go_at_call 59; refine (Yci d g _ v L _ (MoS.start HL.out.2 HL.out.1 H4.out.1 H4.out.2.1 H4.out.2.2 #[.int .i64 3, .int .i64 0, .int .u32 0, .int .i64 (c % 8), .int .i64 (-1), .int .u32 1]).h).mono ?_; rintro e w6 ⟨rfl, h, hu⟩; have H6 := Yh_ ((MoS.start HL.out.2 HL.out.1 H4.out.1 H4.out.2.1 H4.out.2.2 #[.int .i64 3, .int .i64 0, .int .u32 0, .int .i64 (c % 8), .int .i64 (-1), .int .u32 1]).call h hu); have c6 := Ya H6.out.o; have f6 := Yh H6.out.o; clear h hu H4) | (have _t := H6; clear _t; refine Ye 40 rfl ?_; refine Yt ⟨3, 0, reW L (Ym L s), c % 8, -1, 1⟩ w.heap.size 0 rfl _ _ rfl rfl rfl (H6.out.set 2 (.int .u32 (reW L (Ym L s)))).r (by decide) ?_; intro w7 hw7; have H7 := Yh_ (Yek HL.out.2 HL.out.1 (H6.out.set 2 (.int .u32 (reW L (Ym L s)))).h (H6.out.set 2 (.int .u32 (reW L (Ym L s)))).u (H6.out.set 2 (.int .u32 (reW L (Ym L s)))).r hw7); clear hw7))
 exact bodyPost_ret (Yg rfl (Ybm 2 w.heap.size _ rfl H7.out.2.2) (Yk 3 rfl)) rfl ⟨rfl, H7.out.1, H7.out.2.1⟩
theorem Yt4 (d g : Nat) (s : Rd) (v : Value) (L : List Int) (w : World) (hD : Yl w d v L g s) (c : Int) (hce : reB L s = c) (h4 : c % 8 ≠ 4) (h0 : c / 64 = 0 ∧ c % 8 ≠ 5) :
  Calls Tryz.prog 72 #[.pointer (some ⟨d, 0, none⟩)] w fun e w' => e = .returned (.tuple #[(reM L s).val, .int .i64 (reN L s)]) ∧ Yl w' d v L g (Yab L s) ∧ Upd [d] w w' := by
 have hb := Yae hD.r s
 have hW := fun s' => Ydw hD.r s'
 have hB := fun s' => Yae hD.r s'
 have e1 : reM L s = ⟨3, 0, 0, c % 8, -1, 1⟩ := by unfold reM; rw [hce]; dsimp only; rw [if_neg (by omega)]; rw [if_neg h4]; unfold reT; rw [if_neg (by omega), if_neg (by omega), if_neg (by omega)]
 have e2 : reN L s = c / 8 % 8 := by rw [reN, hce]
 have e3 : Yab L s = (Ym L s) := by unfold Yab; rw [hce]; dsimp only; rw [if_neg (by omega)]; rw [if_neg h4]; unfold Ydz; rw [if_neg (by omega), if_neg (by omega), if_neg (by omega)]
 rw [e1, e2, e3]
 rw [hce] at hb
 have HD := Yh_ (hD.step ((Upd.refl [] w).alloc (.cells Opd.none.cells 40)))
 have HBE := Yh_ hce
 have HL := Yh_ (And.intro hD.lt hD.b)
 obtain ⟨b1, b2⟩ := Yb6 c hb
 have q1 : c / 64 = 0 := by omega
 have q2 : (c % 8 == 4) = false := by simpa using h4
 have q3 : (c % 8 == 5) = false := by simpa using h0.2
 have tok1 : True := trivial
 clear hD hce e1 e2 e3 hW hB h4 h0
 go_enter Tryz.func72, Tryz.ntmps72
 go_wp2_with (first | (go_at_call 53; have _t := tok1; clear _t; refine (Yy d g _ v L _ HD.out).mono ?_; rintro e w4 ⟨rfl, h, hu⟩; rw [HBE.out]; have H4 := Yh_ (And.intro h (And.intro (Yb5 hu) (Yct HL.out.1 hu))); clear h hu tok1) | (have _t := H4; clear _t; refine Ye 40 rfl ?_; refine Yt ⟨3, 0, 0, c % 8, -1, 1⟩ w.heap.size 0 rfl _ _ rfl rfl rfl (MoS.start HL.out.2 HL.out.1 H4.out.1 H4.out.2.1 H4.out.2.2 #[.int .i64 3, .int .i64 0, .int .u32 0, .int .i64 (c % 8), .int .i64 (-1), .int .u32 1]).r (by decide) ?_; intro w7 hw7; have H7 := Yh_ (Yek HL.out.2 HL.out.1 (MoS.start HL.out.2 HL.out.1 H4.out.1 H4.out.2.1 H4.out.2.2 #[.int .i64 3, .int .i64 0, .int .u32 0, .int .i64 (c % 8), .int .i64 (-1), .int .u32 1]).h (MoS.start HL.out.2 HL.out.1 H4.out.1 H4.out.2.1 H4.out.2.2 #[.int .i64 3, .int .i64 0, .int .u32 0, .int .i64 (c % 8), .int .i64 (-1), .int .u32 1]).u (MoS.start HL.out.2 HL.out.1 H4.out.1 H4.out.2.1 H4.out.2.2 #[.int .i64 3, .int .i64 0, .int .u32 0, .int .i64 (c % 8), .int .i64 (-1), .int .u32 1]).r hw7); clear hw7))
 exact bodyPost_ret (Yg rfl (Ybm 2 w.heap.size _ rfl H7.out.2.2) (Yk 3 rfl)) rfl ⟨rfl, H7.out.1, H7.out.2.1⟩
theorem Yue (d g : Nat) (s : Rd) (v : Value) (L : List Int) (w : World) (hD : Yl w d v L g s) (c : Int) (hce : reB L s = c) (h4 : c % 8 = 4) (t : Int) (hte : reB L (Ym L s) = t) (h5 : t / 8 % 8 = 4) (h0 : c / 64 = 0 ∧ t % 8 = 5) :
  Calls Tryz.prog 72 #[.pointer (some ⟨d, 0, none⟩)] w fun e w' => e = .returned (.tuple #[(reM L s).val, .int .i64 (reN L s)]) ∧ Yl w' d v L g (Yab L s) ∧ Upd [d] w w' := by
 have hb := Yae hD.r s
 have hW := fun s' => Ydw hD.r s'
 have hB := fun s' => Yae hD.r s'
 have e1 : reM L s = ⟨3, 0, reW L (Ym L (Ym L s)), -1, -1, 1⟩ := by unfold reM; rw [hce]; dsimp only; rw [if_neg (by omega)]; rw [if_pos h4, hte, if_pos h5]; unfold reT; rw [if_pos h0]
 have e2 : reN L s = c / 8 % 8 := by rw [reN, hce]
 have e3 : Yab L s = Yb1 L (Ym L (Ym L s)) := by unfold Yab; rw [hce]; dsimp only; rw [if_neg (by omega)]; rw [if_pos h4, hte, if_pos h5]; unfold Ydz; rw [if_pos h0]
 rw [e1, e2, e3]
 rw [hce] at hb
 have HD := Yh_ (hD.step ((Upd.refl [] w).alloc (.cells Opd.none.cells 40)))
 have HBE := Yh_ hce
 have HL := Yh_ (And.intro hD.lt hD.b)
 obtain ⟨b1, b2⟩ := Yb6 c hb
 have q1 : c / 64 = 0 := by omega
 have q2 : c % 8 = 4 := h4
 have hb2 := hB (Ym L s)
 rw [hte] at hb2
 obtain ⟨b3, b4⟩ := Yb6 t hb2
 have HTE := Yh_ hte
 have q5 : t / 8 % 8 = 4 := h5
 have q3 : (t % 8 == 5) = true := by simpa using h0.2
 have HWW := Yh_ (hW (Ym L (Ym L s)))
 have tok1 : True := trivial
 clear hD hce e1 e2 e3 hW hB h4 h0 hte h5
 go_enter Tryz.func72, Tryz.ntmps72
 go_wp2_with (first | (go_at_call 53; have _t := tok1; clear _t; refine (Yy d g _ v L _ HD.out).mono ?_; rintro e w4 ⟨rfl, h, hu⟩; rw [HBE.out]; have H4 := Yh_ (And.intro h (And.intro (Yb5 hu) (Yct HL.out.1 hu))); clear h hu tok1) | (have _t := H4; clear _t; go_at_call 53; refine (Yy d g _ v L _ (MoS.start HL.out.2 HL.out.1 H4.out.1 H4.out.2.1 H4.out.2.2 #[.int .i64 3, .int .i64 0, .int .u32 0, .int .i64 4, .int .i64 (-1), .int .u32 1]).h).mono ?_; rintro e w5 ⟨rfl, h, hu⟩; rw [HTE.out]; have H5 := Yh_ ((MoS.start HL.out.2 HL.out.1 H4.out.1 H4.out.2.1 H4.out.2.2 #[.int .i64 3, .int .i64 0, .int .u32 0, .int .i64 4, .int .i64 (-1), .int .u32 1]).call h hu); have c5 := Ya H5.out.o; have f5 := Yh H5.out.o; clear h hu H4) | (have _t := H5; clear _t; go_at_call 59; refine (Yci d g _ v L _ (H5.out.set 3 (.int .i64 (t % 8))).h).mono ?_; rintro e w6 ⟨rfl, h, hu⟩; have H6 := Yh_ ((H5.out.set 3 (.int .i64 (t % 8))).call h hu); have c6 := Ya H6.out.o; have f6 := Yh H6.out.o; clear h hu H5 c5 f5) | (have _t := H6; clear _t; refine Ye 40 rfl ?_; refine Yt ⟨3, 0, reW L (Ym L (Ym L s)), -1, -1, 1⟩ w.heap.size 0 rfl _ _ rfl rfl rfl ((H6.out.set 3 (.int .i64 (-1))).set 2 (.int .u32 (reW L (Ym L (Ym L s))))).r (by decide) ?_; intro w7 hw7; have H7 := Yh_ (Yek HL.out.2 HL.out.1 ((H6.out.set 3 (.int .i64 (-1))).set 2 (.int .u32 (reW L (Ym L (Ym L s))))).h ((H6.out.set 3 (.int .i64 (-1))).set 2 (.int .u32 (reW L (Ym L (Ym L s))))).u ((H6.out.set 3 (.int .i64 (-1))).set 2 (.int .u32 (reW L (Ym L (Ym L s))))).r hw7); clear hw7))
 exact bodyPost_ret (Yg rfl (Ybm 2 w.heap.size _ rfl H7.out.2.2) (Yk 3 rfl)) rfl ⟨rfl, H7.out.1, H7.out.2.1⟩
theorem Yl5 (d g : Nat) (s : Rd) (v : Value) (L : List Int) (w : World) (hD : Yl w d v L g s) (c : Int) (hce : reB L s = c) (h4 : c % 8 = 4) (t : Int) (hte : reB L (Ym L s) = t) (h5 : t / 8 % 8 = 4) (h0 : c / 64 = 1) :
  Calls Tryz.prog 72 #[.pointer (some ⟨d, 0, none⟩)] w fun e w' => e = .returned (.tuple #[(reM L s).val, .int .i64 (reN L s)]) ∧ Yl w' d v L g (Yab L s) ∧ Upd [d] w w' := by
 have hb := Yae hD.r s
 have hW := fun s' => Ydw hD.r s'
 have hB := fun s' => Yae hD.r s'
 have e1 : reM L s = ⟨3, 0, sx8 (reB L (Ym L (Ym L s))), t % 8, -1, 1⟩ := by unfold reM; rw [hce]; dsimp only; rw [if_neg (by omega)]; rw [if_pos h4, hte, if_pos h5]; unfold reT; rw [if_neg (by omega), if_pos h0]
 have e2 : reN L s = c / 8 % 8 := by rw [reN, hce]
 have e3 : Yab L s = Ym L (Ym L (Ym L s)) := by unfold Yab; rw [hce]; dsimp only; rw [if_neg (by omega)]; rw [if_pos h4, hte, if_pos h5]; unfold Ydz; rw [if_neg (by omega), if_pos h0]
 rw [e1, e2, e3]
 rw [hce] at hb
 have HD := Yh_ (hD.step ((Upd.refl [] w).alloc (.cells Opd.none.cells 40)))
 have HBE := Yh_ hce
 have HL := Yh_ (And.intro hD.lt hD.b)
 obtain ⟨b1, b2⟩ := Yb6 c hb
 have q1 : c / 64 = 1 := by omega
 have q2 : c % 8 = 4 := h4
 have hb2 := hB (Ym L s)
 rw [hte] at hb2
 obtain ⟨b3, b4⟩ := Yb6 t hb2
 have HTE := Yh_ hte
 have q5 : t / 8 % 8 = 4 := h5
 have tok1 : True := trivial
 clear hD hce e1 e2 e3 hW hB h4 h0 hte h5
 go_enter Tryz.func72, Tryz.ntmps72
 go_wp2_with (first | (go_at_call 53; have _t := tok1; clear _t; refine (Yy d g _ v L _ HD.out).mono ?_; rintro e w4 ⟨rfl, h, hu⟩; rw [HBE.out]; have H4 := Yh_ (And.intro h (And.intro (Yb5 hu) (Yct HL.out.1 hu))); clear h hu tok1) | (have _t := H4; clear _t; go_at_call 53; refine (Yy d g _ v L _ (MoS.start HL.out.2 HL.out.1 H4.out.1 H4.out.2.1 H4.out.2.2 #[.int .i64 3, .int .i64 0, .int .u32 0, .int .i64 4, .int .i64 (-1), .int .u32 1]).h).mono ?_; rintro e w5 ⟨rfl, h, hu⟩; rw [HTE.out]; have H5 := Yh_ ((MoS.start HL.out.2 HL.out.1 H4.out.1 H4.out.2.1 H4.out.2.2 #[.int .i64 3, .int .i64 0, .int .u32 0, .int .i64 4, .int .i64 (-1), .int .u32 1]).call h hu); have c5 := Ya H5.out.o; have f5 := Yh H5.out.o; clear h hu H4) | (have _t := H5; clear _t; go_at_call 58; refine (Yez d g _ v L _ (H5.out.set 3 (.int .i64 (t % 8))).h).mono ?_; rintro e w6 ⟨rfl, h, hu⟩; have H6 := Yh_ ((H5.out.set 3 (.int .i64 (t % 8))).call h hu); have c6 := Ya H6.out.o; have f6 := Yh H6.out.o; clear h hu H5 c5 f5) | (have _t := H6; clear _t; refine Ye 40 rfl ?_; refine Yt ⟨3, 0, sx8 (reB L (Ym L (Ym L s))), t % 8, -1, 1⟩ w.heap.size 0 rfl _ _ rfl rfl rfl (H6.out.set 2 (.int .u32 (sx8 (reB L (Ym L (Ym L s)))))).r (by decide) ?_; intro w7 hw7; have H7 := Yh_ (Yek HL.out.2 HL.out.1 (H6.out.set 2 (.int .u32 (sx8 (reB L (Ym L (Ym L s)))))).h (H6.out.set 2 (.int .u32 (sx8 (reB L (Ym L (Ym L s)))))).u (H6.out.set 2 (.int .u32 (sx8 (reB L (Ym L (Ym L s)))))).r hw7); clear hw7))
 exact bodyPost_ret (Yg rfl (Ybm 2 w.heap.size _ rfl H7.out.2.2) (Yk 3 rfl)) rfl ⟨rfl, H7.out.1, H7.out.2.1⟩
theorem Ymh (d g : Nat) (s : Rd) (v : Value) (L : List Int) (w : World) (hD : Yl w d v L g s) (c : Int) (hce : reB L s = c) (h4 : c % 8 = 4) (t : Int) (hte : reB L (Ym L s) = t) (h5 : t / 8 % 8 = 4) (h0 : c / 64 = 2) :
  Calls Tryz.prog 72 #[.pointer (some ⟨d, 0, none⟩)] w fun e w' => e = .returned (.tuple #[(reM L s).val, .int .i64 (reN L s)]) ∧ Yl w' d v L g (Yab L s) ∧ Upd [d] w w' := by
 have hb := Yae hD.r s
 have hW := fun s' => Ydw hD.r s'
 have hB := fun s' => Yae hD.r s'
 have e1 : reM L s = ⟨3, 0, reW L (Ym L (Ym L s)), t % 8, -1, 1⟩ := by unfold reM; rw [hce]; dsimp only; rw [if_neg (by omega)]; rw [if_pos h4, hte, if_pos h5]; unfold reT; rw [if_neg (by omega), if_neg (by omega), if_pos h0]
 have e2 : reN L s = c / 8 % 8 := by rw [reN, hce]
 have e3 : Yab L s = Yb1 L (Ym L (Ym L s)) := by unfold Yab; rw [hce]; dsimp only; rw [if_neg (by omega)]; rw [if_pos h4, hte, if_pos h5]; unfold Ydz; rw [if_neg (by omega), if_neg (by omega), if_pos h0]
 rw [e1, e2, e3]
 rw [hce] at hb
 have HD := Yh_ (hD.step ((Upd.refl [] w).alloc (.cells Opd.none.cells 40)))
 have HBE := Yh_ hce
 have HL := Yh_ (And.intro hD.lt hD.b)
 obtain ⟨b1, b2⟩ := Yb6 c hb
 have q1 : c / 64 = 2 := by omega
 have q2 : c % 8 = 4 := h4
 have hb2 := hB (Ym L s)
 rw [hte] at hb2
 obtain ⟨b3, b4⟩ := Yb6 t hb2
 have HTE := Yh_ hte
 have q5 : t / 8 % 8 = 4 := h5
 have HWW := Yh_ (hW (Ym L (Ym L s)))
 have tok1 : True := trivial
 clear hD hce e1 e2 e3 hW hB h4 h0 hte h5
 go_enter Tryz.func72, Tryz.ntmps72
 go_wp2_with (first | (go_at_call 53; have _t := tok1; clear _t; refine (Yy d g _ v L _ HD.out).mono ?_; rintro e w4 ⟨rfl, h, hu⟩; rw [HBE.out]; have H4 := Yh_ (And.intro h (And.intro (Yb5 hu) (Yct HL.out.1 hu))); clear h hu tok1) | (have _t := H4; clear _t; go_at_call 53; refine (Yy d g _ v L _ (MoS.start HL.out.2 HL.out.1 H4.out.1 H4.out.2.1 H4.out.2.2 #[.int .i64 3, .int .i64 0, .int .u32 0, .int .i64 4, .int .i64 (-1), .int .u32 1]).h).mono ?_; rintro e w5 ⟨rfl, h, hu⟩; rw [HTE.out]; have H5 := Yh_ ((MoS.start HL.out.2 HL.out.1 H4.out.1 H4.out.2.1 H4.out.2.2 #[.int .i64 3, .int .i64 0, .int .u32 0, .int .i64 4, .int .i64 (-1), .int .u32 1]).call h hu); have c5 := Ya H5.out.o; have f5 := Yh H5.out.o; clear h hu H4) | (have _t := H5; clear _t; go_at_call 59; refine (Yci d g _ v L _ (H5.out.set 3 (.int .i64 (t % 8))).h).mono ?_; rintro e w6 ⟨rfl, h, hu⟩; have H6 := Yh_ ((H5.out.set 3 (.int .i64 (t % 8))).call h hu); have c6 := Ya H6.out.o; have f6 := Yh H6.out.o; clear h hu H5 c5 f5) | (have _t := H6; clear _t; refine Ye 40 rfl ?_; refine Yt ⟨3, 0, reW L (Ym L (Ym L s)), t % 8, -1, 1⟩ w.heap.size 0 rfl _ _ rfl rfl rfl (H6.out.set 2 (.int .u32 (reW L (Ym L (Ym L s))))).r (by decide) ?_; intro w7 hw7; have H7 := Yh_ (Yek HL.out.2 HL.out.1 (H6.out.set 2 (.int .u32 (reW L (Ym L (Ym L s))))).h (H6.out.set 2 (.int .u32 (reW L (Ym L (Ym L s))))).u (H6.out.set 2 (.int .u32 (reW L (Ym L (Ym L s))))).r hw7); clear hw7))
 exact bodyPost_ret (Yg rfl (Ybm 2 w.heap.size _ rfl H7.out.2.2) (Yk 3 rfl)) rfl ⟨rfl, H7.out.1, H7.out.2.1⟩
theorem Ytc (d g : Nat) (s : Rd) (v : Value) (L : List Int) (w : World) (hD : Yl w d v L g s) (c : Int) (hce : reB L s = c) (h4 : c % 8 = 4) (t : Int) (hte : reB L (Ym L s) = t) (h5 : t / 8 % 8 = 4) (h0 : c / 64 = 0 ∧ t % 8 ≠ 5) :
  Calls Tryz.prog 72 #[.pointer (some ⟨d, 0, none⟩)] w fun e w' => e = .returned (.tuple #[(reM L s).val, .int .i64 (reN L s)]) ∧ Yl w' d v L g (Yab L s) ∧ Upd [d] w w' := by
 have hb := Yae hD.r s
 have hW := fun s' => Ydw hD.r s'
 have hB := fun s' => Yae hD.r s'
 have e1 : reM L s = ⟨3, 0, 0, t % 8, -1, 1⟩ := by unfold reM; rw [hce]; dsimp only; rw [if_neg (by omega)]; rw [if_pos h4, hte, if_pos h5]; unfold reT; rw [if_neg (by omega), if_neg (by omega), if_neg (by omega)]
 have e2 : reN L s = c / 8 % 8 := by rw [reN, hce]
 have e3 : Yab L s = (Ym L (Ym L s)) := by unfold Yab; rw [hce]; dsimp only; rw [if_neg (by omega)]; rw [if_pos h4, hte, if_pos h5]; unfold Ydz; rw [if_neg (by omega), if_neg (by omega), if_neg (by omega)]
 rw [e1, e2, e3]
 rw [hce] at hb
 have HD := Yh_ (hD.step ((Upd.refl [] w).alloc (.cells Opd.none.cells 40)))
 have HBE := Yh_ hce
 have HL := Yh_ (And.intro hD.lt hD.b)
 obtain ⟨b1, b2⟩ := Yb6 c hb
 have q1 : c / 64 = 0 := by omega
 have q2 : c % 8 = 4 := h4
 have hb2 := hB (Ym L s)
 rw [hte] at hb2
 obtain ⟨b3, b4⟩ := Yb6 t hb2
 have HTE := Yh_ hte
 have q5 : t / 8 % 8 = 4 := h5
 have q3 : (t % 8 == 5) = false := by simpa using h0.2
 have tok1 : True := trivial
 clear hD hce e1 e2 e3 hW hB h4 h0 hte h5
 go_enter Tryz.func72, Tryz.ntmps72
 go_wp2_with (first | (go_at_call 53; have _t := tok1; clear _t; refine (Yy d g _ v L _ HD.out).mono ?_; rintro e w4 ⟨rfl, h, hu⟩; rw [HBE.out]; have H4 := Yh_ (And.intro h (And.intro (Yb5 hu) (Yct HL.out.1 hu))); clear h hu tok1) | (have _t := H4; clear _t; go_at_call 53; refine (Yy d g _ v L _ (MoS.start HL.out.2 HL.out.1 H4.out.1 H4.out.2.1 H4.out.2.2 #[.int .i64 3, .int .i64 0, .int .u32 0, .int .i64 4, .int .i64 (-1), .int .u32 1]).h).mono ?_; rintro e w5 ⟨rfl, h, hu⟩; rw [HTE.out]; have H5 := Yh_ ((MoS.start HL.out.2 HL.out.1 H4.out.1 H4.out.2.1 H4.out.2.2 #[.int .i64 3, .int .i64 0, .int .u32 0, .int .i64 4, .int .i64 (-1), .int .u32 1]).call h hu); have c5 := Ya H5.out.o; have f5 := Yh H5.out.o; clear h hu H4) | (have _t := H5; clear _t; refine Ye 40 rfl ?_; refine Yt ⟨3, 0, 0, t % 8, -1, 1⟩ w.heap.size 0 rfl _ _ rfl rfl rfl (H5.out.set 3 (.int .i64 (t % 8))).r (by decide) ?_; intro w7 hw7; have H7 := Yh_ (Yek HL.out.2 HL.out.1 (H5.out.set 3 (.int .i64 (t % 8))).h (H5.out.set 3 (.int .i64 (t % 8))).u (H5.out.set 3 (.int .i64 (t % 8))).r hw7); clear hw7))
 exact bodyPost_ret (Yg rfl (Ybm 2 w.heap.size _ rfl H7.out.2.2) (Yk 3 rfl)) rfl ⟨rfl, H7.out.1, H7.out.2.1⟩
theorem Yte (d g : Nat) (s : Rd) (v : Value) (L : List Int) (w : World) (hD : Yl w d v L g s) (c : Int) (hce : reB L s = c) (h4 : c % 8 = 4) (t : Int) (hte : reB L (Ym L s) = t) (h5 : t / 8 % 8 ≠ 4) (h0 : c / 64 = 0 ∧ t % 8 = 5) :
  Calls Tryz.prog 72 #[.pointer (some ⟨d, 0, none⟩)] w fun e w' => e = .returned (.tuple #[(reM L s).val, .int .i64 (reN L s)]) ∧ Yl w' d v L g (Yab L s) ∧ Upd [d] w w' := by
 have hb := Yae hD.r s
 have hW := fun s' => Ydw hD.r s'
 have hB := fun s' => Yae hD.r s'
 have e1 : reM L s = ⟨3, 0, reW L (Ym L (Ym L s)), -1, t / 8 % 8, 2 ^ (t / 64).toNat⟩ := by unfold reM; rw [hce]; dsimp only; rw [if_neg (by omega)]; rw [if_pos h4, hte, if_neg h5]; unfold reT; rw [if_pos h0]
 have e2 : reN L s = c / 8 % 8 := by rw [reN, hce]
 have e3 : Yab L s = Yb1 L (Ym L (Ym L s)) := by unfold Yab; rw [hce]; dsimp only; rw [if_neg (by omega)]; rw [if_pos h4, hte, if_neg h5]; unfold Ydz; rw [if_pos h0]
 rw [e1, e2, e3]
 rw [hce] at hb
 have HD := Yh_ (hD.step ((Upd.refl [] w).alloc (.cells Opd.none.cells 40)))
 have HBE := Yh_ hce
 have HL := Yh_ (And.intro hD.lt hD.b)
 obtain ⟨b1, b2⟩ := Yb6 c hb
 have q1 : c / 64 = 0 := by omega
 have q2 : c % 8 = 4 := h4
 have hb2 := hB (Ym L s)
 rw [hte] at hb2
 obtain ⟨b3, b4⟩ := Yb6 t hb2
 have HTE := Yh_ hte
 have q5 : (t / 8 % 8 != 4) = true := by simpa using h5
 have q6 := Yjy t hb2
 have q7 : t / 64 % 18446744073709551616 = t / 64 := by omega
 have q3 : (t % 8 == 5) = true := by simpa using h0.2
 have HWW := Yh_ (hW (Ym L (Ym L s)))
 have tok1 : True := trivial
 clear hD hce e1 e2 e3 hW hB h4 h0 hte h5
 go_enter Tryz.func72, Tryz.ntmps72
 go_wp2_with (first | (go_at_call 53; have _t := tok1; clear _t; refine (Yy d g _ v L _ HD.out).mono ?_; rintro e w4 ⟨rfl, h, hu⟩; rw [HBE.out]; have H4 := Yh_ (And.intro h (And.intro (Yb5 hu) (Yct HL.out.1 hu))); clear h hu tok1) | (have _t := H4; clear _t; go_at_call 53; refine (Yy d g _ v L _ (MoS.start HL.out.2 HL.out.1 H4.out.1 H4.out.2.1 H4.out.2.2 #[.int .i64 3, .int .i64 0, .int .u32 0, .int .i64 4, .int .i64 (-1), .int .u32 1]).h).mono ?_; rintro e w5 ⟨rfl, h, hu⟩; rw [HTE.out]; have H5 := Yh_ ((MoS.start HL.out.2 HL.out.1 H4.out.1 H4.out.2.1 H4.out.2.2 #[.int .i64 3, .int .i64 0, .int .u32 0, .int .i64 4, .int .i64 (-1), .int .u32 1]).call h hu); have c5 := Ya H5.out.o; have f5 := Yh H5.out.o; clear h hu H4) | (have _t := H5; clear _t; go_at_call 59; refine (Yci d g _ v L _ (((H5.out.set 3 (.int .i64 (t % 8))).set 4 (.int .i64 (t / 8 % 8))).set 5 (.int .u32 (2 ^ (t / 64).toNat))).h).mono ?_; rintro e w6 ⟨rfl, h, hu⟩; have H6 := Yh_ ((((H5.out.set 3 (.int .i64 (t % 8))).set 4 (.int .i64 (t / 8 % 8))).set 5 (.int .u32 (2 ^ (t / 64).toNat))).call h hu); have c6 := Ya H6.out.o; have f6 := Yh H6.out.o; clear h hu H5 c5 f5) | (have _t := H6; clear _t; refine Ye 40 rfl ?_; refine Yt ⟨3, 0, reW L (Ym L (Ym L s)), -1, t / 8 % 8, 2 ^ (t / 64).toNat⟩ w.heap.size 0 rfl _ _ rfl rfl rfl ((H6.out.set 3 (.int .i64 (-1))).set 2 (.int .u32 (reW L (Ym L (Ym L s))))).r (by decide) ?_; intro w7 hw7; have H7 := Yh_ (Yek HL.out.2 HL.out.1 ((H6.out.set 3 (.int .i64 (-1))).set 2 (.int .u32 (reW L (Ym L (Ym L s))))).h ((H6.out.set 3 (.int .i64 (-1))).set 2 (.int .u32 (reW L (Ym L (Ym L s))))).u ((H6.out.set 3 (.int .i64 (-1))).set 2 (.int .u32 (reW L (Ym L (Ym L s))))).r hw7); clear hw7))
 exact bodyPost_ret (Yg rfl (Ybm 2 w.heap.size _ rfl H7.out.2.2) (Yk 3 rfl)) rfl ⟨rfl, H7.out.1, H7.out.2.1⟩
theorem Ylw (d g : Nat) (s : Rd) (v : Value) (L : List Int) (w : World) (hD : Yl w d v L g s) (c : Int) (hce : reB L s = c) (h4 : c % 8 = 4) (t : Int) (hte : reB L (Ym L s) = t) (h5 : t / 8 % 8 ≠ 4) (h0 : c / 64 = 1) :
  Calls Tryz.prog 72 #[.pointer (some ⟨d, 0, none⟩)] w fun e w' => e = .returned (.tuple #[(reM L s).val, .int .i64 (reN L s)]) ∧ Yl w' d v L g (Yab L s) ∧ Upd [d] w w' := by
 have hb := Yae hD.r s
 have hW := fun s' => Ydw hD.r s'
 have hB := fun s' => Yae hD.r s'
 have e1 : reM L s = ⟨3, 0, sx8 (reB L (Ym L (Ym L s))), t % 8, t / 8 % 8, 2 ^ (t / 64).toNat⟩ := by unfold reM; rw [hce]; dsimp only; rw [if_neg (by omega)]; rw [if_pos h4, hte, if_neg h5]; unfold reT; rw [if_neg (by omega), if_pos h0]
 have e2 : reN L s = c / 8 % 8 := by rw [reN, hce]
 have e3 : Yab L s = Ym L (Ym L (Ym L s)) := by unfold Yab; rw [hce]; dsimp only; rw [if_neg (by omega)]; rw [if_pos h4, hte, if_neg h5]; unfold Ydz; rw [if_neg (by omega), if_pos h0]
 rw [e1, e2, e3]
 rw [hce] at hb
 have HD := Yh_ (hD.step ((Upd.refl [] w).alloc (.cells Opd.none.cells 40)))
 have HBE := Yh_ hce
 have HL := Yh_ (And.intro hD.lt hD.b)
 obtain ⟨b1, b2⟩ := Yb6 c hb
 have q1 : c / 64 = 1 := by omega
 have q2 : c % 8 = 4 := h4
 have hb2 := hB (Ym L s)
 rw [hte] at hb2
 obtain ⟨b3, b4⟩ := Yb6 t hb2
 have HTE := Yh_ hte
 have q5 : (t / 8 % 8 != 4) = true := by simpa using h5
 have q6 := Yjy t hb2
 have q7 : t / 64 % 18446744073709551616 = t / 64 := by omega
 have tok1 : True := trivial
 clear hD hce e1 e2 e3 hW hB h4 h0 hte h5
 go_enter Tryz.func72, Tryz.ntmps72
 go_wp2_with (first | (go_at_call 53; have _t := tok1; clear _t; refine (Yy d g _ v L _ HD.out).mono ?_; rintro e w4 ⟨rfl, h, hu⟩; rw [HBE.out]; have H4 := Yh_ (And.intro h (And.intro (Yb5 hu) (Yct HL.out.1 hu))); clear h hu tok1) | (have _t := H4; clear _t; go_at_call 53; refine (Yy d g _ v L _ (MoS.start HL.out.2 HL.out.1 H4.out.1 H4.out.2.1 H4.out.2.2 #[.int .i64 3, .int .i64 0, .int .u32 0, .int .i64 4, .int .i64 (-1), .int .u32 1]).h).mono ?_; rintro e w5 ⟨rfl, h, hu⟩; rw [HTE.out]; have H5 := Yh_ ((MoS.start HL.out.2 HL.out.1 H4.out.1 H4.out.2.1 H4.out.2.2 #[.int .i64 3, .int .i64 0, .int .u32 0, .int .i64 4, .int .i64 (-1), .int .u32 1]).call h hu); have c5 := Ya H5.out.o; have f5 := Yh H5.out.o; clear h hu H4) | (have _t := H5; clear _t; go_at_call 58; refine (Yez d g _ v L _ (((H5.out.set 3 (.int .i64 (t % 8))).set 4 (.int .i64 (t / 8 % 8))).set 5 (.int .u32 (2 ^ (t / 64).toNat))).h).mono ?_; rintro e w6 ⟨rfl, h, hu⟩; have H6 := Yh_ ((((H5.out.set 3 (.int .i64 (t % 8))).set 4 (.int .i64 (t / 8 % 8))).set 5 (.int .u32 (2 ^ (t / 64).toNat))).call h hu); have c6 := Ya H6.out.o; have f6 := Yh H6.out.o; clear h hu H5 c5 f5) | (have _t := H6; clear _t; refine Ye 40 rfl ?_; refine Yt ⟨3, 0, sx8 (reB L (Ym L (Ym L s))), t % 8, t / 8 % 8, 2 ^ (t / 64).toNat⟩ w.heap.size 0 rfl _ _ rfl rfl rfl (H6.out.set 2 (.int .u32 (sx8 (reB L (Ym L (Ym L s)))))).r (by decide) ?_; intro w7 hw7; have H7 := Yh_ (Yek HL.out.2 HL.out.1 (H6.out.set 2 (.int .u32 (sx8 (reB L (Ym L (Ym L s)))))).h (H6.out.set 2 (.int .u32 (sx8 (reB L (Ym L (Ym L s)))))).u (H6.out.set 2 (.int .u32 (sx8 (reB L (Ym L (Ym L s)))))).r hw7); clear hw7))
 exact bodyPost_ret (Yg rfl (Ybm 2 w.heap.size _ rfl H7.out.2.2) (Yk 3 rfl)) rfl ⟨rfl, H7.out.1, H7.out.2.1⟩
theorem Yl7 (d g : Nat) (s : Rd) (v : Value) (L : List Int) (w : World) (hD : Yl w d v L g s) (c : Int) (hce : reB L s = c) (h4 : c % 8 = 4) (t : Int) (hte : reB L (Ym L s) = t) (h5 : t / 8 % 8 ≠ 4) (h0 : c / 64 = 2) :
  Calls Tryz.prog 72 #[.pointer (some ⟨d, 0, none⟩)] w fun e w' => e = .returned (.tuple #[(reM L s).val, .int .i64 (reN L s)]) ∧ Yl w' d v L g (Yab L s) ∧ Upd [d] w w' := by
 have hb := Yae hD.r s
 have hW := fun s' => Ydw hD.r s'
 have hB := fun s' => Yae hD.r s'
 have e1 : reM L s = ⟨3, 0, reW L (Ym L (Ym L s)), t % 8, t / 8 % 8, 2 ^ (t / 64).toNat⟩ := by unfold reM; rw [hce]; dsimp only; rw [if_neg (by omega)]; rw [if_pos h4, hte, if_neg h5]; unfold reT; rw [if_neg (by omega), if_neg (by omega), if_pos h0]
 have e2 : reN L s = c / 8 % 8 := by rw [reN, hce]
 have e3 : Yab L s = Yb1 L (Ym L (Ym L s)) := by unfold Yab; rw [hce]; dsimp only; rw [if_neg (by omega)]; rw [if_pos h4, hte, if_neg h5]; unfold Ydz; rw [if_neg (by omega), if_neg (by omega), if_pos h0]
 rw [e1, e2, e3]
 rw [hce] at hb
 have HD := Yh_ (hD.step ((Upd.refl [] w).alloc (.cells Opd.none.cells 40)))
 have HBE := Yh_ hce
 have HL := Yh_ (And.intro hD.lt hD.b)
 obtain ⟨b1, b2⟩ := Yb6 c hb
 have q1 : c / 64 = 2 := by omega
 have q2 : c % 8 = 4 := h4
 have hb2 := hB (Ym L s)
 rw [hte] at hb2
 obtain ⟨b3, b4⟩ := Yb6 t hb2
 have HTE := Yh_ hte
 have q5 : (t / 8 % 8 != 4) = true := by simpa using h5
 have q6 := Yjy t hb2
 have q7 : t / 64 % 18446744073709551616 = t / 64 := by omega
 have HWW := Yh_ (hW (Ym L (Ym L s)))
 have tok1 : True := trivial
 clear hD hce e1 e2 e3 hW hB h4 h0 hte h5
 go_enter Tryz.func72, Tryz.ntmps72
 go_wp2_with (first | (go_at_call 53; have _t := tok1; clear _t; refine (Yy d g _ v L _ HD.out).mono ?_; rintro e w4 ⟨rfl, h, hu⟩; rw [HBE.out]; have H4 := Yh_ (And.intro h (And.intro (Yb5 hu) (Yct HL.out.1 hu))); clear h hu tok1) | (have _t := H4; clear _t; go_at_call 53; refine (Yy d g _ v L _ (MoS.start HL.out.2 HL.out.1 H4.out.1 H4.out.2.1 H4.out.2.2 #[.int .i64 3, .int .i64 0, .int .u32 0, .int .i64 4, .int .i64 (-1), .int .u32 1]).h).mono ?_; rintro e w5 ⟨rfl, h, hu⟩; rw [HTE.out]; have H5 := Yh_ ((MoS.start HL.out.2 HL.out.1 H4.out.1 H4.out.2.1 H4.out.2.2 #[.int .i64 3, .int .i64 0, .int .u32 0, .int .i64 4, .int .i64 (-1), .int .u32 1]).call h hu); have c5 := Ya H5.out.o; have f5 := Yh H5.out.o; clear h hu H4) | (have _t := H5; clear _t; go_at_call 59; refine (Yci d g _ v L _ (((H5.out.set 3 (.int .i64 (t % 8))).set 4 (.int .i64 (t / 8 % 8))).set 5 (.int .u32 (2 ^ (t / 64).toNat))).h).mono ?_; rintro e w6 ⟨rfl, h, hu⟩; have H6 := Yh_ ((((H5.out.set 3 (.int .i64 (t % 8))).set 4 (.int .i64 (t / 8 % 8))).set 5 (.int .u32 (2 ^ (t / 64).toNat))).call h hu); have c6 := Ya H6.out.o; have f6 := Yh H6.out.o; clear h hu H5 c5 f5) | (have _t := H6; clear _t; refine Ye 40 rfl ?_; refine Yt ⟨3, 0, reW L (Ym L (Ym L s)), t % 8, t / 8 % 8, 2 ^ (t / 64).toNat⟩ w.heap.size 0 rfl _ _ rfl rfl rfl (H6.out.set 2 (.int .u32 (reW L (Ym L (Ym L s))))).r (by decide) ?_; intro w7 hw7; have H7 := Yh_ (Yek HL.out.2 HL.out.1 (H6.out.set 2 (.int .u32 (reW L (Ym L (Ym L s))))).h (H6.out.set 2 (.int .u32 (reW L (Ym L (Ym L s))))).u (H6.out.set 2 (.int .u32 (reW L (Ym L (Ym L s))))).r hw7); clear hw7))
 exact bodyPost_ret (Yg rfl (Ybm 2 w.heap.size _ rfl H7.out.2.2) (Yk 3 rfl)) rfl ⟨rfl, H7.out.1, H7.out.2.1⟩
theorem Yuw (d g : Nat) (s : Rd) (v : Value) (L : List Int) (w : World) (hD : Yl w d v L g s) (c : Int) (hce : reB L s = c) (h4 : c % 8 = 4) (t : Int) (hte : reB L (Ym L s) = t) (h5 : t / 8 % 8 ≠ 4) (h0 : c / 64 = 0 ∧ t % 8 ≠ 5) :
  Calls Tryz.prog 72 #[.pointer (some ⟨d, 0, none⟩)] w fun e w' => e = .returned (.tuple #[(reM L s).val, .int .i64 (reN L s)]) ∧ Yl w' d v L g (Yab L s) ∧ Upd [d] w w' := by
 have hb := Yae hD.r s
 have hW := fun s' => Ydw hD.r s'
 have hB := fun s' => Yae hD.r s'
 have e1 : reM L s = ⟨3, 0, 0, t % 8, t / 8 % 8, 2 ^ (t / 64).toNat⟩ := by unfold reM; rw [hce]; dsimp only; rw [if_neg (by omega)]; rw [if_pos h4, hte, if_neg h5]; unfold reT; rw [if_neg (by omega), if_neg (by omega), if_neg (by omega)]
 have e2 : reN L s = c / 8 % 8 := by rw [reN, hce]
 have e3 : Yab L s = (Ym L (Ym L s)) := by unfold Yab; rw [hce]; dsimp only; rw [if_neg (by omega)]; rw [if_pos h4, hte, if_neg h5]; unfold Ydz; rw [if_neg (by omega), if_neg (by omega), if_neg (by omega)]
 rw [e1, e2, e3]
 rw [hce] at hb
 have HD := Yh_ (hD.step ((Upd.refl [] w).alloc (.cells Opd.none.cells 40)))
 have HBE := Yh_ hce
 have HL := Yh_ (And.intro hD.lt hD.b)
 obtain ⟨b1, b2⟩ := Yb6 c hb
 have q1 : c / 64 = 0 := by omega
 have q2 : c % 8 = 4 := h4
 have hb2 := hB (Ym L s)
 rw [hte] at hb2
 obtain ⟨b3, b4⟩ := Yb6 t hb2
 have HTE := Yh_ hte
 have q5 : (t / 8 % 8 != 4) = true := by simpa using h5
 have q6 := Yjy t hb2
 have q7 : t / 64 % 18446744073709551616 = t / 64 := by omega
 have q3 : (t % 8 == 5) = false := by simpa using h0.2
 have tok1 : True := trivial
 clear hD hce e1 e2 e3 hW hB h4 h0 hte h5
 go_enter Tryz.func72, Tryz.ntmps72
 go_wp2_with (first | (go_at_call 53; have _t := tok1; clear _t; refine (Yy d g _ v L _ HD.out).mono ?_; rintro e w4 ⟨rfl, h, hu⟩; rw [HBE.out]; have H4 := Yh_ (And.intro h (And.intro (Yb5 hu) (Yct HL.out.1 hu))); clear h hu tok1) | (have _t := H4; clear _t; go_at_call 53; refine (Yy d g _ v L _ (MoS.start HL.out.2 HL.out.1 H4.out.1 H4.out.2.1 H4.out.2.2 #[.int .i64 3, .int .i64 0, .int .u32 0, .int .i64 4, .int .i64 (-1), .int .u32 1]).h).mono ?_; rintro e w5 ⟨rfl, h, hu⟩; rw [HTE.out]; have H5 := Yh_ ((MoS.start HL.out.2 HL.out.1 H4.out.1 H4.out.2.1 H4.out.2.2 #[.int .i64 3, .int .i64 0, .int .u32 0, .int .i64 4, .int .i64 (-1), .int .u32 1]).call h hu); have c5 := Ya H5.out.o; have f5 := Yh H5.out.o; clear h hu H4) | (have _t := H5; clear _t; refine Ye 40 rfl ?_; refine Yt ⟨3, 0, 0, t % 8, t / 8 % 8, 2 ^ (t / 64).toNat⟩ w.heap.size 0 rfl _ _ rfl rfl rfl (((H5.out.set 3 (.int .i64 (t % 8))).set 4 (.int .i64 (t / 8 % 8))).set 5 (.int .u32 (2 ^ (t / 64).toNat))).r (by decide) ?_; intro w7 hw7; have H7 := Yh_ (Yek HL.out.2 HL.out.1 (((H5.out.set 3 (.int .i64 (t % 8))).set 4 (.int .i64 (t / 8 % 8))).set 5 (.int .u32 (2 ^ (t / 64).toNat))).h (((H5.out.set 3 (.int .i64 (t % 8))).set 4 (.int .i64 (t / 8 % 8))).set 5 (.int .u32 (2 ^ (t / 64).toNat))).u (((H5.out.set 3 (.int .i64 (t % 8))).set 4 (.int .i64 (t / 8 % 8))).set 5 (.int .u32 (2 ^ (t / 64).toNat))).r hw7); clear hw7))
 exact bodyPost_ret (Yg rfl (Ybm 2 w.heap.size _ rfl H7.out.2.2) (Yk 3 rfl)) rfl ⟨rfl, H7.out.1, H7.out.2.1⟩
theorem Ya4 (d g : Nat) (s : Rd) (v : Value) (L : List Int) (w : World) (hD : Yl w d v L g s) :
  Calls Tryz.prog 72 #[.pointer (some ⟨d, 0, none⟩)] w fun e w' => e = .returned (.tuple #[(reM L s).val, .int .i64 (reN L s)]) ∧ Yl w' d v L g (Yab L s) ∧ Upd [d] w w' := by
 have hb := Yae hD.r s
 have hc : reB L s / 64 = 3 ∨ reB L s / 64 = 0 ∨ reB L s / 64 = 1 ∨ reB L s / 64 = 2 := by omega
 by_cases h4 : reB L s % 8 = 4
 ·by_cases h5 : reB L (Ym L s) / 8 % 8 = 4
  ·by_cases h6 : reB L (Ym L s) % 8 = 5
   ·rcases hc with h | h | h | h
    ·exact Yfq d g s v L w hD _ rfl h
    ·exact Yue d g s v L w hD _ rfl h4 _ rfl h5 ⟨h, h6⟩
    ·exact Yl5 d g s v L w hD _ rfl h4 _ rfl h5 h
    ·exact Ymh d g s v L w hD _ rfl h4 _ rfl h5 h
   ·rcases hc with h | h | h | h
    ·exact Yfq d g s v L w hD _ rfl h
    ·exact Ytc d g s v L w hD _ rfl h4 _ rfl h5 ⟨h, h6⟩
    ·exact Yl5 d g s v L w hD _ rfl h4 _ rfl h5 h
    ·exact Ymh d g s v L w hD _ rfl h4 _ rfl h5 h
  ·by_cases h6 : reB L (Ym L s) % 8 = 5
   ·rcases hc with h | h | h | h
    ·exact Yfq d g s v L w hD _ rfl h
    ·exact Yte d g s v L w hD _ rfl h4 _ rfl h5 ⟨h, h6⟩
    ·exact Ylw d g s v L w hD _ rfl h4 _ rfl h5 h
    ·exact Yl7 d g s v L w hD _ rfl h4 _ rfl h5 h
   ·rcases hc with h | h | h | h
    ·exact Yfq d g s v L w hD _ rfl h
    ·exact Yuw d g s v L w hD _ rfl h4 _ rfl h5 ⟨h, h6⟩
    ·exact Ylw d g s v L w hD _ rfl h4 _ rfl h5 h
    ·exact Yl7 d g s v L w hD _ rfl h4 _ rfl h5 h
 ·by_cases h6 : reB L s % 8 = 5
  ·rcases hc with h | h | h | h
   ·exact Yfq d g s v L w hD _ rfl h
   ·exact Yt1 d g s v L w hD _ rfl h4 ⟨h, h6⟩
   ·exact Ymf d g s v L w hD _ rfl h4 h
   ·exact Ymg d g s v L w hD _ rfl h4 h
  ·rcases hc with h | h | h | h
   ·exact Yfq d g s v L w hD _ rfl h
   ·exact Yt4 d g s v L w hD _ rfl h4 ⟨h, h6⟩
   ·exact Ymf d g s v L w hD _ rfl h4 h
   ·exact Ymg d g s v L w hD _ rfl h4 h
end
section
def Yr (d : Nat) (v : Value) (L : List Int) (g : Nat) (w : World) (q : RI) (e : Ending) (w' : World) : Prop :=
 e = .returned (.tuple #[q.i.val, .bool q.e]) ∧ Yl w' d v L g q.s ∧ Upd [d] w w'
structure RiS (w : World) (d : Nat) (v : Value) (L : List Int) (g : Nat) (s : Rd) (rb : Nat) (C : Array Value) (w1 : World) : Prop where
 h : Yl w1 d v L g s
 u : Upd [d] w w1
 r : w1.heap[rb]? = some (.cells C 42 (0, 0))
 lt : d < w.heap.size ∧ w.heap.size ≤ rb
 b : Ybz w v L g
 z : C.size = 16
structure RiM (w : World) (d : Nat) (v : Value) (L : List Int) (g : Nat) (s : Rd) (rb : Nat) (C : Array Value) (mb : Nat) (o : Opd) (w1 : World) : Prop extends RiS w d v L g s rb C w1 where
 o : w1.heap[mb]? = some (.cells o.cells 40 (0, 0))
 ml : w.heap.size ≤ mb ∧ mb ≠ rb
structure RiB (w : World) (d : Nat) (v : Value) (L : List Int) (g : Nat) (s s' : Rd) (k st : Nat) (I : Ins) (rb mb : Nat) (o : Opd) (dd : Nat → Bool) (w1 : World) : Prop where
 h : Yl w1 d v L g (if dd k = true then s' else s)
 u : Upd [d] w w1
 r : ∃ C, w1.heap[rb]? = some (.cells C 42 (0, 0)) ∧ C.size = 16 ∧ (dd st = true → C = I.cells)
 lt : d < w.heap.size ∧ w.heap.size ≤ rb
 b : Ybz w v L g
 o : w1.heap[mb]? = some (.cells o.cells 40 (0, 0))
 ml : w.heap.size ≤ mb ∧ mb ≠ rb
section
variable {w w1 w2 : World} {d : Nat} {v : Value} {L : List Int} {g : Nat} {s s' : Rd} {rb mb k st : Nat} {C : Array Value} {o : Opd} {I : Ins} {dd : Nat → Bool}
theorem Ykw {d : Nat → Bool} {m i : Nat} (h : i ≠ m) : Ybq d m i = d i := by simp [Ybq, h]
theorem bD_eq' {d : Nat → Bool} {m : Nat} : Ybq d m m = true := by simp [Ybq]
theorem RiS.start (h : Yl w d v L g s) : RiS w d v L g s w.heap.size Ins.zero.cells (w.alloc (.cells Ins.zero.cells 42)) :=
 ⟨h.step ((Upd.refl [] w).alloc _), (Upd.refl [d] w).alloc _, heap_alloc_new _ _, ⟨h.lt, Nat.le_refl _⟩, h.b, rfl⟩
theorem RiS.step (h : RiS w d v L g s rb C w1) (u : Upd [] w1 w2) : RiS w d v L g s rb C w2 :=
 ⟨h.h.step u, h.u.also u (by simp), u.get h.r (by simp), h.lt, h.b, h.z⟩
theorem RiS.call (h : RiS w d v L g s rb C w1) (hd : Yl w2 d v L g s') (u : Upd [d] w1 w2) : RiS w d v L g s' rb C w2 := by
 have l := h.lt
 exact ⟨hd, h.u.also u (by simp), u.get h.r (by simp; omega), h.lt, h.b, h.z⟩
theorem RiS.store (h : RiS w d v L g s rb C w1) {i : Ins} (hw : w1.setCells rb 0 i.cells.toList = w2) : RiS w d v L g s rb i.cells w2 := by
 have l := h.lt
 obtain ⟨h1, h2⟩ := Yau hw h.r h.z (Upd.refl [rb] w1) (.inl (by simp))
 have u2 := h.u.also h2 (by simp; omega)
 exact ⟨h.h.frame h.b u2 (by rw [h.h.h]; exact h2.get h.h.h (by simp; omega)), u2, h1, h.lt, h.b, rfl⟩
theorem RiS.setB (h : RiS w d v L g s rb C w1) (c : Bool) : RiS w d v L g { s with bd := c } rb C (w1.setCell ⟨d, 3, none⟩ (.bool c)) := h.call (h.h.setB c) ((Upd.refl [d] w1).setCell (by simp) _)
theorem RiS.setS (h : RiS w d v L g s rb C w1) (c : Bool) : RiS w d v L g { s with sh := c } rb C (w1.setCell ⟨d, 2, none⟩ (.bool c)) := h.call (h.h.setS c) ((Upd.refl [d] w1).setCell (by simp) _)
theorem RiS.mvar (h : RiS w d v L g s rb C w1) (o : Opd) : RiM w d v L g s rb C w1.heap.size o (w1.alloc (.cells o.cells 40)) := by
 have := Yv h.r
 have l := h.lt
 exact ⟨h.step ((Upd.refl [] _).alloc _), heap_alloc_new _ _, by omega, by omega⟩
theorem RiM.step (h : RiM w d v L g s rb C mb o w1) (u : Upd [] w1 w2) : RiM w d v L g s rb C mb o w2 := ⟨h.toRiS.step u, u.get h.o (by simp), h.ml⟩
theorem RiM.call (h : RiM w d v L g s rb C mb o w1) (hd : Yl w2 d v L g s') (u : Upd [d] w1 w2) : RiM w d v L g s' rb C mb o w2 := by
 have l := h.lt
 have m := h.ml
 exact ⟨h.toRiS.call hd u, u.get h.o (by simp; omega), h.ml⟩
theorem RiM.setB (h : RiM w d v L g s rb C mb o w1) (c : Bool) : RiM w d v L g { s with bd := c } rb C mb o (w1.setCell ⟨d, 3, none⟩ (.bool c)) := h.call (h.h.setB c) ((Upd.refl [d] w1).setCell (by simp) _)
theorem RiM.setS (h : RiM w d v L g s rb C mb o w1) (c : Bool) : RiM w d v L g { s with sh := c } rb C mb o (w1.setCell ⟨d, 2, none⟩ (.bool c)) := h.call (h.h.setS c) ((Upd.refl [d] w1).setCell (by simp) _)
theorem RiM.more (h : RiM w d v L g s rb C mb o w1) (O : Obj) : RiM w d v L g s rb C mb o (w1.alloc O) := h.step ((Upd.refl [] _).alloc _)
theorem RiB.start (h : RiM w d v L g s rb C mb o w1) : RiB w d v L g s s' k st I rb mb o (fun _ => false) w1.drew :=
 have u := (Upd.refl [] w1).drew
 ⟨h.h.step u, h.u.also u (by simp), ⟨C, u.get h.r (by simp), h.z, by simp⟩, h.lt, h.b, u.get h.o (by simp), h.ml⟩
theorem RiB.quiet (h : RiB w d v L g s s' k st I rb mb o dd w1) (u : Upd [] w1 w2) (q : Nat) (h1 : k ≠ q) (h2 : st ≠ q) : RiB w d v L g s s' k st I rb mb o (Ybq dd q) w2 := by
 obtain ⟨C, e1, e2, e3⟩ := h.r
 exact ⟨by rw [Ykw h1]; exact h.h.step u, h.u.also u (by simp), ⟨C, u.get e1 (by simp), e2, by rw [Ykw h2]; exact e3⟩, h.lt, h.b, u.get h.o (by simp), h.ml⟩
theorem RiB.same (h : RiB w d v L g s s' k st I rb mb o dd w1) (q : Nat) (h1 : k ≠ q) (h2 : st ≠ q) : RiB w d v L g s s' k st I rb mb o (Ybq dd q) w1 := h.quiet (Upd.refl [] w1) q h1 h2
theorem RiB.rd (h : RiB w d v L g s s' k st I rb mb o dd w1) (hd : dd k = false) : Yl w1 d v L g s := by
 have := h.h
 rwa [hd, if_neg (by simp)] at this
theorem RiB.call (h : RiB w d v L g s s' k st I rb mb o dd w1) (hd : dd k = false) (hk : st ≠ k) (hr : Yl w2 d v L g s') (u : Upd [d] w1 w2) : RiB w d v L g s s' k st I rb mb o (Ybq dd k) w2 := by
 obtain ⟨C, e1, e2, e3⟩ := h.r
 have l := h.lt
 have m := h.ml
 exact ⟨by rw [bD_eq', if_pos rfl]; exact hr, h.u.also u (by simp), ⟨C, u.get e1 (by simp; omega), e2, by rw [Ykw hk]; exact e3⟩, h.lt, h.b, u.get h.o (by simp; omega), h.ml⟩
theorem RiB.store (h : RiB w d v L g s s' k st I rb mb o dd w1) (hk : k ≠ st) (hw : w1.setCells rb 0 I.cells.toList = w2) : RiB w d v L g s s' k st I rb mb o (Ybq dd st) w2 := by
 obtain ⟨C, e1, e2, e3⟩ := h.r
 have l := h.lt
 have m := h.ml
 obtain ⟨h1, h2⟩ := Yau hw e1 e2 (Upd.refl [rb] w1) (.inl (by simp))
 have u2 := h.u.also h2 (by simp; omega)
 exact ⟨by rw [Ykw hk]; exact h.h.frame h.b u2 (by rw [h.h.h]; exact h2.get h.h.h (by simp; omega)), u2, ⟨_, h1, rfl, fun _ => rfl⟩, h.lt, h.b, h2.get h.o (by simp; omega), h.ml⟩
theorem RiB.fin (h : RiB w d v L g s s' k st I rb mb o dd w1) (hd : dd k = true ∨ s = s') : ∃ C, RiM w d v L g s' rb C mb o w1 ∧ (dd st = true → C = I.cells) := by
 obtain ⟨C, e1, e2, e3⟩ := h.r
 have hh : Yl w1 d v L g s' := by
  have := h.h
  rcases hd with hd | hd
  ·rwa [hd, if_pos rfl] at this
  ·rwa [hd, ite_self] at this
 exact ⟨C, ⟨⟨hh, h.u, e1, h.lt, h.b, e2⟩, h.o, h.ml⟩, e3⟩
end
theorem Yfz (w : World) : Calls Tryz.prog 55 #[] w fun e w' => e = .returned (.agg #[.int .i64 3, .int .i64 4, .int .i64 5, .int .i64 6, .int .i64 7, .int .i64 8, .int .i64 9, .int .i64 10]) ∧ Upd [] w w' := by
 go_enter Tryz.func55, Tryz.ntmps55
 go_wp2
 exact bodyPost_ret (Yj rfl (Ygv 0 113 w.heap.size _ _ rfl (heap_alloc_new _ _) Tryz.underlying113 rfl (by kernel_rfl))) rfl ⟨rfl, (Upd.refl _ _).alloc _⟩
theorem Ych (w : World) : Calls Tryz.prog 75 #[] w fun e w' => e = .returned (.agg #[.int .i64 21, .int .i64 22, .int .i64 0, .int .i64 0, .int .i64 23, .int .i64 24, .int .i64 0, .int .i64 25]) ∧ Upd [] w w' := by
 go_enter Tryz.func75, Tryz.ntmps75
 go_wp2
 exact bodyPost_ret (Yj rfl (Ygv 0 113 w.heap.size _ _ rfl (heap_alloc_new _ _) Tryz.underlying113 rfl (by kernel_rfl))) rfl ⟨rfl, (Upd.refl _ _).alloc _⟩
theorem Ydd (w : World) : Calls Tryz.prog 94 #[] w fun e w' => e = .returned (.agg #[.int .i64 47, .int .i64 48, .int .i64 53, .int .i64 0, .int .i64 49, .int .i64 0, .int .i64 50, .int .i64 0]) ∧ Upd [] w w' := by
 go_enter Tryz.func94, Tryz.ntmps94
 go_wp2
 exact bodyPost_ret (Yj rfl (Ygv 0 113 w.heap.size _ _ rfl (heap_alloc_new _ _) Tryz.underlying113 rfl (by kernel_rfl))) rfl ⟨rfl, (Upd.refl _ _).alloc _⟩
end
end Go.Proofs.YteiplidhkelkbaaGreat
