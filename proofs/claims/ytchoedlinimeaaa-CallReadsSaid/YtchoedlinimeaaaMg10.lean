/-
  Parts of the proof (their names shortened by a program). No condition.
-/
import Derived.Test.YtchoedlinimeaaaMg01
import Derived.Test.YtchoedlinimeaaaMg09
import Derived.Test.YtchoedlinimeaaaMg05
import Derived.Test.YtchoedlinimeaaaMg03
import Derived.Test.YtchoedlinimeaaaMg04
namespace Go.Proofs.Ytchoedlinimeaaa
open Go Go.RowKit
set_option linter.unusedVariables false
set_option linter.unusedSimpArgs false
set_option maxRecDepth 100000
set_option maxHeartbeats 16000000
section
open Go.Maps
theorem Ygf {w : World} {b : Option Addr} {n c : Nat} {L : List Int} {g : Nat} (h : Ybj w (.slice b n c) L g) (hl : 0 < L.length) : ∃ o, b = some ⟨g, o, none⟩ ∧ ∀ w', Upd [] w w' → ∀ i, i < L.length → w'.cell? ⟨g, o + i, none⟩ = some (.int .u8 (L.getD i 0)) := by
 rcases h with ⟨h1, h2⟩ | ⟨o, c', C, T, f, h1, h2, h3⟩
 ·rw [h2] at hl; cases hl
 ·injection h1 with h1 _ _
  exact ⟨o, h1, fun w' u i hi => by rw [Ya (u.get h2 (by simp))]; exact h3 i hi⟩
theorem rp_cell {w : World} {b : Option Addr} {n c : Nat} {L : List Int} {g : Nat} (h : Rp w (.slice b n c) L g) (hl : 0 < L.length) : ∃ o, b = some ⟨g, o, none⟩ ∧ ∀ w', Upd [] w w' → ∀ i, i < L.length → w'.cell? ⟨g, o + i, none⟩ = some (.int .u32 (L.getD i 0)) := by
 rcases h with ⟨h1, h2⟩ | ⟨o, c', C, T, f, h1, h2, h3, h4⟩
 ·rw [h2] at hl; cases hl
 ·injection h1 with h1 _ _
  exact ⟨o, h1, fun w' u i hi => by rw [Ya (u.get h3 (by simp))]; exact h4 i hi⟩
def CrD (w : World) (a pb : Nat) (M : Mem) (c b : Nat) (C : Cd) (sb : Nat) (x : Int) (d : Nat → Bool) (r : Nat → Value) (w1 : World) : Prop :=
 Kc w a pb M c b C [(sb, .cells (stD St.zero 7 10 13 0 1 2 3 16 x d).cells 37 (0, 0))] w1
section
variable {w w1 : World} {a pb c b sb : Nat} {M : Mem} {C : Cd} {x : Int} {d : Nat → Bool} {r : Nat → Value}
theorem CrD.same (h : CrD w a pb M c b C sb x d r w1) (j : Nat) (h1 : 7 ≠ j) (h2 : 10 ≠ j) (h3 : 13 ≠ j) : CrD w a pb M c b C sb x (Ys d j) r w1 := by
 unfold CrD at *; rw [stD_same j h1 h2 h3]; exact h
theorem CrD.p1 (h : CrD w a pb M c b C sb x d r w1) : CrD w a pb M c b C sb x (Ys d 7) r (w1.setCell ⟨sb, 0, none⟩ (.int .u32 3)) := by
 have := Kc.putR h 0 rfl 0 (by decide) 3
 unfold CrD; rw [← stD_1 (by decide) (by decide)]; exact this
theorem CrD.p2 (h : CrD w a pb M c b C sb x d r w1) : CrD w a pb M c b C sb x (Ys d 10) r (w1.setCell ⟨sb, 1, none⟩ (.int .u32 16)) := by
 have := Kc.putR h 0 rfl 1 (by decide) 16
 unfold CrD; rw [← stD_2 (by decide) (by decide) (by decide)]; exact this
theorem CrD.p3 (h : CrD w a pb M c b C sb x d r w1) : CrD w a pb M c b C sb x (Ys d 13) r (w1.setCell ⟨sb, 2, none⟩ (.int .u32 x)) := by
 have := Kc.putR h 0 rfl 2 (by decide) x
 unfold CrD; rw [← stD_3 (by decide) (by decide) (by decide) (by decide)]; exact this
theorem CrD.start (h : Kc w a pb M c b C [(sb, .cells St.zero.cells 37 (0, 0))] w1) (r : Nat → Value) : CrD w a pb M c b C sb x (fun _ => false) r w1 := by
 unfold CrD; rw [stD_none]; exact h
end
theorem Yeh (inp : ByteArray) (v1 v2 : Value) (L1 L2 : List Int) (g1 g2 : Nat) (w : World) (h1 : Ybj w v1 L1 g1) (hL1 : ∀ i, 0 ≤ L1.getD i 0 ∧ L1.getD i 0 ≤ 255) (hm1 : L1.length ≤ maxLen) (h2 : Rp w v2 L2 g2) (hL2 : ∀ i, 0 ≤ L2.getD i 0 ∧ L2.getD i 0 < 4294967296) (hm2 : L2.length ≤ maxLen) :
  Calls Try.prog 3 #[.string inp, v1, v2] w fun e w' => e = .returned (.bool true) ∧ Upd [] w w' := by
 obtain ⟨s1, t1, rfl⟩ := h1.form
 obtain ⟨s2, t2, rfl⟩ := h2.form
 obtain ⟨l1, hl1⟩ : ∃ l1 : Int, l1 = (L1.length : Int) := ⟨_, rfl⟩
 have ec1 : ((L1.length : Nat) : Int) = l1 := hl1.symm
 obtain ⟨l2, hl2⟩ : ∃ l2 : Int, l2 = (L2.length : Int) := ⟨_, rfl⟩
 have ec2 : ((L2.length : Nat) : Int) = l2 := hl2.symm
 obtain ⟨zi, hzi⟩ : ∃ zi : Int, zi = (inp.size : Int) := ⟨_, rfl⟩
 have ec3 : ((inp.size : Nat) : Int) = zi := hzi.symm
 have HV := Yh_ (And.intro h1 (And.intro hL1 (And.intro h2 hL2)))
 have HZ := Yh_ (And.intro hl1 (And.intro hl2 hzi))
 have tok : True := trivial
 clear h1 hL1 h2 hL2
 by_cases hbig : 200 < zi ∨ 20 < l1 ∨ 20 < l2
 ·have fin : Calls Try.prog 3 #[.string inp, .slice s1 L1.length t1, .slice s2 L2.length t2] w fun e w' => e = .returned (.bool true) ∧ Upd [] w w' := by
   by_cases a : 200 < zi
   ·have d0 : decide (200 < zi) = true := by simp [a]
    clear hbig a hl1 hl2 hzi
    go_enter Try.func3, Try.ntmps3
    go_wp2_with (have _t := tok; clear _t; go_at_call 8; refine (Ybp _).mono ?_; rintro e w0 ⟨rfl, hu0⟩; clear tok)
    go_ret
    exact ⟨rfl, hu0⟩
   ·have d0 : decide (200 < zi) = false := by simp [a]
    by_cases a2 : 20 < l1
    ·have d1 : decide (20 < l1) = true := by simp [a2]
     clear hbig a a2 hl1 hl2 hzi
     go_enter Try.func3, Try.ntmps3
     go_wp2_with (have _t := tok; clear _t; go_at_call 8; refine (Ybp _).mono ?_; rintro e w0 ⟨rfl, hu0⟩; clear tok)
     go_ret
     exact ⟨rfl, hu0⟩
    ·have d1 : decide (20 < l1) = false := by simp [a2]
     have d2 : decide (20 < l2) = true := by simp; omega
     clear hbig a a2 hl1 hl2 hzi
     go_enter Try.func3, Try.ntmps3
     go_wp2_with (have _t := tok; clear _t; go_at_call 8; refine (Ybp _).mono ?_; rintro e w0 ⟨rfl, hu0⟩; clear tok)
     go_ret
     exact ⟨rfl, hu0⟩
  exact fin
 ·have d0 : decide (200 < zi) = false := by simp; omega
  have d1 : decide (20 < l1) = false := by simp; omega
  have d2 : decide (20 < l2) = false := by simp; omega
  have HS := Yh_ (show l1 ≤ 20 ∧ l2 ≤ 20 ∧ zi ≤ 200 by omega)
  clear hbig hl1 hl2 hzi
  go_enter Try.func3, Try.ntmps3
  go_wp2_with (first
   |(have _t := tok; clear _t; go_at_call 8; refine (Ybp _).mono ?_; rintro e w0 ⟨rfl, hu0⟩; clear tok)
   |(have _t := hu0; clear _t; go_at_call 9; refine (Yfy _).mono ?_; rintro e w1 ⟨ma, pb, rfl, ha, hp, hM1, hu1⟩; have H0 := Yh_ (And.intro hu0 (And.intro ha (And.intro hp (And.intro hM1 hu1)))); clear hu0 ha hp hM1 hu1)
   |(have _t := H0; clear _t; go_at_call 10; refine (New_kc (w := w) (l := L2) H0.out.1 H0.out.2.1 H0.out.2.2.1 H0.out.2.2.2.1 H0.out.2.2.2.2 (HV.out.2.2.1.keep (H0.out.1.also H0.out.2.2.2.2 (by simp)) (by simp)) (by have := HS.out; have := HZ.out; omega)).mono ?_; rintro e w4 ⟨c, b, rfl, hk0, _⟩; have K0 := Yh_ hk0; clear hk0 H0)
   |(have _t := K0; clear _t; go_at_call 11; refine (Yc8 Mem.zero ma pb 0 2 3 _ K0.out.m (by decide)).mono ?_; rintro e w2 ⟨rfl, hm, hu⟩; rw [cr_map, Yfe]; have K1 := Yh_ (show Kc w ma pb crM c b ⟨L2, inp, []⟩ [] w2 from K0.out.step hm hu); clear hm hu K0))
  go_loopw [9, 10, 11, 12, 13, 14, 15, 16, 17, 18] (fun got asked i _ _ _ _ _ _ _ wr => ∃ (q A : Int) (G : Nat) (gs : ByteArray) (M : Mem) (C : Cd), got = .string gs ∧ asked = .int .i64 A ∧ i = .int .i64 q ∧ Hid (gs = inp.extract 0 G) ∧ Hid (0 ≤ q ∧ q ≤ l1 ∧ 0 ≤ A ∧ A ≤ q) ∧ Hid (CrI inp L2 M C q.toNat G A.toNat) ∧ Hid (Kc w ma pb M c b C [] wr)) (fun _ _ i _ _ _ _ _ _ _ _ => (l1 - intOf i).toNat)
  case atStart => exact ⟨0, 0, 0, _, _, _, rfl, rfl, rfl, Yh_ (by simp; rfl), Yh_ (by have := HZ.out; omega), Yh_ (CrI.start inp L2), K1⟩
  case round =>
   clear K1
   obtain ⟨q, A, G, gs, M, C, rfl, rfl, rfl, HG, hq, HC, K1⟩ := hrel
   have HN := Yh_ (show C.L.length < 1000000 by rw [HC.out.n]; have := hq.out; have := HS.out; omega)
   by_cases hlt : q < l1
   ·have dlt : decide (q < l1) = true := by simp [hlt]
    have hqq := hq.out
    have hss := HS.out
    have hll := HZ.out
    have HB1 := Yh_ hlt
    have ewq : wrap64 (q + 1) = q + 1 := by unfold wrap64; omega
    have ewa : wrap64 (A + 1) = A + 1 := by unfold wrap64; omega
    obtain ⟨o1, rfl, hc1⟩ := Ygf HV.out.1 (by omega)
    have HV1 := Yh_ hc1
    obtain ⟨x, hx⟩ : ∃ x, L1.getD q.toNat 0 = x := ⟨_, rfl⟩
    have hxb := HV.out.2.1 q.toNat
    rw [hx] at hxb
    obtain ⟨m, hm⟩ : ∃ m, x % 3 = m := ⟨_, rfl⟩
    have e3 : x.tmod 3 = m := by rw [Int.tmod_eq_emod_of_nonneg hxb.1, hm]
    have HX := Yh_ (And.intro hx (And.intro hxb hm))
    by_cases hm0 : m = 0
    ·have hy := HC.out.ask
     obtain ⟨y, hyy⟩ : ∃ y, doR M crA C = y := ⟨_, rfl⟩
     rw [hyy] at hy
     have HY := Yh_ (And.intro hy.1 hyy)
     by_cases hA : A < l2
     ·have dA : decide (A < l2) = true := by simp [hA]
      obtain ⟨o2, rfl, hc2⟩ := rp_cell HV.out.2.2.1 (by omega)
      have HV2 := Yh_ hc2
      have hy2 : L2.getD A.toNat 0 = y := by rw [hy.2, if_pos (by omega)]
      have HYA := Yh_ (And.intro hy2 (show A.toNat < L2.length by omega))
      have b2 : 0 ≤ A ∧ A < l2 := by omega
      have b1 : 0 ≤ q ∧ q < l1 := by omega
      subst hm0
      clear hy hyy hc1 hc2 hx hxb hm hqq hss hll hlt hA hy2
      go_wp2_with (first
       |(have _t := K1; clear _t; refine Yan 37 rfl ?_; refine Yl St.zero wr.heap.size rfl _ _ rfl rfl rfl (heap_alloc_new wr _) rfl ?_; intro w4 hw; have K2 := Yh_ (K1.out.one hw); have c0 : w4.cell? ⟨wr.heap.size, 0, none⟩ = some (.int .u32 (St.zero.R 0)) := (Ya (K2.out.get 0 rfl) 0).trans (St.cR _ 0 (by decide)); have fz := Yg (K2.out.get 0 rfl); have cb : w4.cell? ⟨g1, o1 + q.toNat, none⟩ = some (.int .u8 x) := (by rw [HV1.out w4 K2.out.u q.toNat (by have := HB1.out; have := hq.out; have := HZ.out; omega), HX.out.1]); clear hw K1)
       |(have _t := K2; clear _t; refine Ybn 37 rfl ?_; have hk := K2.out.putR 0 rfl 0 (by decide) 500; dsimp only [List.set] at hk; have K3 := Yh_ (show Kc w ma pb M c b C [(wr.heap.size, .cells crA.cells 37 (0, 0))] _ from hk); clear hk K2 c0 fz cb; refine Yy crA wr.heap.size rfl _ rfl rfl (K3.out.get 0 rfl) ?_)
       |(have _t := K3; clear _t; go_at_call 12; refine (Ycl K3.out crA crA_ok HN.out).mono ?_; rintro e w5 ⟨rfl, hk⟩; rw [HY.out.2, show decide (crA.R 0 = 1) = false from rfl]; have K4 := Yh_ hk; clear hk K3)
       |(have _t := K4; clear _t; refine Yan 37 rfl ?_; refine Yl (crA.setR 0 y) w5.heap.size rfl _ _ rfl rfl rfl (heap_alloc_new w5 _) rfl ?_; intro w6 hw; have K5 := Yh_ (K4.out.one hw); have ct : w6.cell? ⟨w5.heap.size, 0, none⟩ = some (.int .u32 y) := (Ya (K5.out.get 0 rfl) 0).trans (St.cR _ 0 (by decide)); have c2 : w6.cell? ⟨g2, o2 + A.toNat, none⟩ = some (.int .u32 y) := (by rw [HV2.out w6 K5.out.u A.toNat HYA.out.2, HYA.out.1]); clear hw K4))
      try simp only [ewq, ewa]
      go_roundw
      case rel => exact ⟨q + 1, A + 1, G, gs, _, _, rfl, rfl, rfl, HG, Yh_ (by have := HB1.out; have := hq.out; omega), Yh_ (by rw [show (q + 1).toNat = q.toNat + 1 by have := hq.out; omega, show (A + 1).toNat = A.toNat + 1 by have := hq.out; omega]; exact HY.out.1), Yh_ K5.out.none_⟩
      case measure => have := HB1.out; simp only [intOf]; omega
     ·have dA : decide (A < l2) = false := by simp [hA]
      have hy2 : y = 4294967258 := by rw [hy.2, if_neg (by omega)]
      subst hy2
      have b1 : 0 ≤ q ∧ q < l1 := by omega
      subst hm0
      clear hy hyy hc1 hx hxb hm hqq hss hll hlt hA
      go_wp2_with (first
       |(have _t := K1; clear _t; refine Yan 37 rfl ?_; refine Yl St.zero wr.heap.size rfl _ _ rfl rfl rfl (heap_alloc_new wr _) rfl ?_; intro w4 hw; have K2 := Yh_ (K1.out.one hw); have c0 : w4.cell? ⟨wr.heap.size, 0, none⟩ = some (.int .u32 (St.zero.R 0)) := (Ya (K2.out.get 0 rfl) 0).trans (St.cR _ 0 (by decide)); have fz := Yg (K2.out.get 0 rfl); have cb : w4.cell? ⟨g1, o1 + q.toNat, none⟩ = some (.int .u8 x) := (by rw [HV1.out w4 K2.out.u q.toNat (by have := HB1.out; have := hq.out; have := HZ.out; omega), HX.out.1]); clear hw K1)
       |(have _t := K2; clear _t; refine Ybn 37 rfl ?_; have hk := K2.out.putR 0 rfl 0 (by decide) 500; dsimp only [List.set] at hk; have K3 := Yh_ (show Kc w ma pb M c b C [(wr.heap.size, .cells crA.cells 37 (0, 0))] _ from hk); clear hk K2 c0 fz cb; refine Yy crA wr.heap.size rfl _ rfl rfl (K3.out.get 0 rfl) ?_)
       |(have _t := K3; clear _t; go_at_call 12; refine (Ycl K3.out crA crA_ok HN.out).mono ?_; rintro e w5 ⟨rfl, hk⟩; rw [HY.out.2, show decide (crA.R 0 = 1) = false from rfl]; have K4 := Yh_ hk; clear hk K3)
       |(have _t := K4; clear _t; refine Yan 37 rfl ?_; refine Yl (crA.setR 0 4294967258) w5.heap.size rfl _ _ rfl rfl rfl (heap_alloc_new w5 _) rfl ?_; intro w6 hw; have K5 := Yh_ (K4.out.one hw); have ct : w6.cell? ⟨w5.heap.size, 0, none⟩ = some (.int .u32 4294967258) := (Ya (K5.out.get 0 rfl) 0).trans (St.cR _ 0 (by decide)); clear hw K4))
      try simp only [ewq, ewa]
      go_roundw
      case rel => exact ⟨q + 1, A + 1, G, gs, _, _, rfl, rfl, rfl, HG, Yh_ (by have := HB1.out; have := hq.out; omega), Yh_ (by rw [show (q + 1).toNat = q.toNat + 1 by have := hq.out; omega, show (A + 1).toNat = A.toNat + 1 by have := hq.out; omega]; exact HY.out.1), Yh_ K5.out.none_⟩
      case measure => have := HB1.out; simp only [intOf]; omega
    ·have dm : (m == 0) = false := by simp [hm0]
     have b1 : 0 ≤ q ∧ q < l1 := by omega
     have e4 : x % 4294967296 = x := by omega
     have e5 : wrap64 x = x := by unfold wrap64; omega
     clear hc1 hx hm hqq hss hll hlt hm0
     go_upto_region 24 with ((have _t := K1; clear _t; refine Yan 37 rfl ?_; refine Yl St.zero wr.heap.size rfl _ _ rfl rfl rfl (heap_alloc_new wr _) rfl ?_; intro w4 hw; have K2 := Yh_ (K1.out.one hw); have cb : w4.cell? ⟨g1, o1 + q.toNat, none⟩ = some (.int .u8 x) := (by rw [HV1.out w4 K2.out.u q.toNat (by have := HB1.out; have := hq.out; have := HZ.out; omega), HX.out.1]); clear hw K1))
     clear cb
     refine Yat 14 (CrD w ma pb M c b C wr.heap.size x) (fun _ _ => False) (by kernel_rfl) (by decide +kernel) (fun r0 => CrD.start (K2.out.quiet (Upd.refl [] _).drew) r0) (fun _ _ _ h => h.elim) ?_
     simp only [List.take_succ_cons, List.take_zero, List.drop_succ_cons, List.drop_zero]
     apply Yb rfl rfl
     ·intro dn r0 K hd hdep hK w5 hB1
      skip
      have HB := Yh_ hB1
      clear hB1 hdep
      go_wp2_with fail
      first
      |exact hK _ (HB.out.same 0 (by decide) (by decide) (by decide))
      |exact HB.out.same 0 (by decide) (by decide) (by decide)
     ·exact ⟨_, rfl⟩
     apply Yb rfl rfl
     ·intro dn r0 K hd hdep hK w5 hB1
      skip
      have HB := Yh_ hB1
      clear hB1 hdep
      go_wp2_with fail
      first
      |exact hK _ (HB.out.same 1 (by decide) (by decide) (by decide))
      |exact HB.out.same 1 (by decide) (by decide) (by decide)
     ·exact ⟨_, rfl⟩
     apply Yb rfl rfl
     ·intro dn r0 K hd hdep hK w5 hB1
      skip
      have HB := Yh_ hB1
      clear hB1 hdep
      go_wp2_with fail
      first
      |exact hK _ (HB.out.same 2 (by decide) (by decide) (by decide))
      |exact HB.out.same 2 (by decide) (by decide) (by decide)
     ·exact ⟨_, rfl⟩
     apply Yb rfl rfl
     ·intro dn r0 K hd hdep hK w5 hB1
      have cb : w5.cell? ⟨g1, o1 + q.toNat, none⟩ = some (.int .u8 x) := (by rw [HV1.out w5 (Kc.u hB1) q.toNat (by have := HB1.out; have := hq.out; have := HZ.out; omega), HX.out.1])
      have HB := Yh_ hB1
      clear hB1 hdep
      go_wp2_with fail
      first
      |exact hK _ (HB.out.same 3 (by decide) (by decide) (by decide))
      |exact HB.out.same 3 (by decide) (by decide) (by decide)
     ·exact ⟨_, rfl⟩
     apply Yb rfl rfl
     ·intro dn r0 K hd hdep hK w5 hB1
      skip
      have HB := Yh_ hB1
      clear hB1 hdep
      go_wp2_with fail
      first
      |exact hK _ (HB.out.same 4 (by decide) (by decide) (by decide))
      |exact HB.out.same 4 (by decide) (by decide) (by decide)
     ·exact ⟨_, rfl⟩
     apply Yb rfl rfl
     ·intro dn r0 K hd hdep hK w5 hB1
      skip
      have HB := Yh_ hB1
      clear hB1 hdep
      go_wp2_with fail
      first
      |exact hK _ (HB.out.same 5 (by decide) (by decide) (by decide))
      |exact HB.out.same 5 (by decide) (by decide) (by decide)
     ·exact ⟨_, rfl⟩
     apply Yb rfl rfl
     ·intro dn r0 K hd hdep hK w5 hB1
      skip
      have HB := Yh_ hB1
      clear hB1 hdep
      go_wp2_with fail
      first
      |exact hK _ (HB.out.same 6 (by decide) (by decide) (by decide))
      |exact HB.out.same 6 (by decide) (by decide) (by decide)
     ·exact ⟨_, rfl⟩
     apply Yb rfl rfl
     ·intro dn r0 K hd hdep hK w5 hB1
      have f1 : w5.cell? ⟨wr.heap.size, 0, none⟩ = some (.int .u32 ((stD St.zero 7 10 13 0 1 2 3 16 x dn).R 0)) := (Ya (Kc.get hB1 0 rfl) 0).trans (St.cR _ 0 (by decide))
      have f2 := Yg (Kc.get hB1 0 rfl)
      have HB := Yh_ hB1
      clear hB1 hdep
      go_wp2_with fail
      first
      |exact hK _ (HB.out.p1)
      |exact HB.out.p1
     ·exact ⟨undef, rfl⟩
     apply Yb rfl rfl
     ·intro dn r0 K hd hdep hK w5 hB1
      skip
      have HB := Yh_ hB1
      clear hB1 hdep
      go_wp2_with fail
      first
      |exact hK _ (HB.out.same 8 (by decide) (by decide) (by decide))
      |exact HB.out.same 8 (by decide) (by decide) (by decide)
     ·exact ⟨_, rfl⟩
     apply Yb rfl rfl
     ·intro dn r0 K hd hdep hK w5 hB1
      skip
      have HB := Yh_ hB1
      clear hB1 hdep
      go_wp2_with fail
      first
      |exact hK _ (HB.out.same 9 (by decide) (by decide) (by decide))
      |exact HB.out.same 9 (by decide) (by decide) (by decide)
     ·exact ⟨_, rfl⟩
     apply Yb rfl rfl
     ·intro dn r0 K hd hdep hK w5 hB1
      have f1 : w5.cell? ⟨wr.heap.size, 1, none⟩ = some (.int .u32 ((stD St.zero 7 10 13 0 1 2 3 16 x dn).R 1)) := (Ya (Kc.get hB1 0 rfl) 1).trans (St.cR _ 1 (by decide))
      have f2 := Yg (Kc.get hB1 0 rfl)
      have HB := Yh_ hB1
      clear hB1 hdep
      go_wp2_with fail
      first
      |exact hK _ (HB.out.p2)
      |exact HB.out.p2
     ·exact ⟨undef, rfl⟩
     apply Yb rfl rfl
     ·intro dn r0 K hd hdep hK w5 hB1
      skip
      have HB := Yh_ hB1
      clear hB1 hdep
      go_wp2_with fail
      first
      |exact hK _ (HB.out.same 11 (by decide) (by decide) (by decide))
      |exact HB.out.same 11 (by decide) (by decide) (by decide)
     ·exact ⟨_, rfl⟩
     apply Yb rfl rfl
     ·intro dn r0 K hd hdep hK w5 hB1
      skip
      have HB := Yh_ hB1
      clear hB1 hdep
      go_wp2_with fail
      first
      |exact hK _ (HB.out.same 12 (by decide) (by decide) (by decide))
      |exact HB.out.same 12 (by decide) (by decide) (by decide)
     ·exact ⟨_, rfl⟩
     apply Yb rfl rfl
     ·intro dn r0 K hd hdep hK w5 hB1
      have f1 : w5.cell? ⟨wr.heap.size, 2, none⟩ = some (.int .u32 ((stD St.zero 7 10 13 0 1 2 3 16 x dn).R 2)) := (Ya (Kc.get hB1 0 rfl) 2).trans (St.cR _ 2 (by decide))
      have f2 := Yg (Kc.get hB1 0 rfl)
      have HB := Yh_ hB1
      clear hB1 hdep
      go_wp2_with fail
      first
      |exact hK _ (HB.out.p3)
      |exact HB.out.p3
     ·exact ⟨undef, rfl⟩
     refine Yaj (fun _ r0 w5 dn hall hB2 => ?_)
     unfold CrD at hB2
     rw [stD_all (hall 7 (by decide)) (hall 10 (by decide)) (hall 13 (by decide)) (by decide) (by decide) (by decide)] at hB2
     have K3 := Yh_ (show Kc w ma pb M c b C [(wr.heap.size, .cells (crB x).cells 37 (0, 0))] w5 from hB2)
     clear hB2 hall K2
     simp only [Yi]
     obtain ⟨N, hN⟩ : ∃ N, N = min (min x 64).toNat (inp.size - G) := ⟨_, rfl⟩
     obtain ⟨nn, hnn⟩ : ∃ nn : Int, nn = (N : Int) := ⟨_, rfl⟩
     have hy := HC.out.get x (by have := HX.out.2.1; omega) N hN
     rw [← hnn] at hy
     have HY := Yh_ hy
     obtain ⟨gz, hgz⟩ : ∃ gz : Int, (gs.size : Int) = gz := ⟨_, rfl⟩
     have hgz2 : gz = (G : Int) := by rw [← hgz, HG.out, ByteArray.size_extract]; have := HC.out.g; omega
     obtain ⟨dz, hdz⟩ : ∃ dz, zi - gz = dz := ⟨_, rfl⟩
     have hgg := HC.out.g
     have hzz := HZ.out.2.2
     have hxx := HX.out.2.1
     have hss := HS.out
     have ed : wrap64 dz = dz := by unfold wrap64; omega
     obtain ⟨b64, hb64⟩ : ∃ b64 : Int, (if 64 < x then 64 else x) = b64 := ⟨_, rfl⟩
     have en : (if dz < b64 then dz else b64) = nn := by omega
     have e6 : wrap64 nn = nn := by unfold wrap64; omega
     have e7 : nn % 4294967296 = nn := by omega
     have HNN := Yh_ (show (0 ≤ nn ∧ nn ≤ 64) ∧ nn = (N : Int) by omega)
     obtain ⟨S, hS⟩ : ∃ S, inp.extract G (G + N) = S := ⟨_, rfl⟩
     obtain ⟨gs2, hgs2⟩ : ∃ gs2, inp.extract 0 (G + N) = gs2 := ⟨_, rfl⟩
     have eg : gs ++ S = gs2 := by rw [HG.out, ← hS, cr_app, hgs2]
     have hov : ¬ 9223372036854775807 < gs.size + S.size := by rw [← hS, ByteArray.size_extract]; omega
     have HGS := Yh_ (And.intro hS hgs2)
     clear hS hgs2
     have tk1 : True := trivial
     clear hy hN hnn hgz2 hgg hzz hxx hss
     go_wp2_with (first
      |(have _t := K3; clear _t; refine Ybn 37 rfl ?_; refine Yy (crB x) wr.heap.size rfl _ rfl rfl (K3.out.get 0 rfl) ?_)
      |(have _t := K3; clear _t; go_at_call 12; refine (Ycl K3.out (crB x) (crB_ok x (by have := HX.out.2.1; omega)) HN.out).mono ?_; rintro e w6 ⟨rfl, hk⟩; rw [HY.out.2.1, show decide ((crB x).R 0 = 1) = false from rfl]; have K4 := Yh_ hk; clear hk K3)
      |(have _t := K4; clear _t; refine Yan 37 rfl ?_; refine Yl ((crB x).setR 0 nn) w6.heap.size rfl _ _ rfl rfl rfl (heap_alloc_new w6 _) rfl ?_; intro w7 hw; have K5 := Yh_ (K4.out.one hw); have ct : w7.cell? ⟨w6.heap.size, 0, none⟩ = some (.int .u32 nn) := (Ya (K5.out.get 0 rfl) 0).trans (St.cR _ 0 (by decide)); have cb : w7.cell? ⟨g1, o1 + q.toNat, none⟩ = some (.int .u8 x) := (by rw [HV1.out w7 K5.out.u q.toNat (by have := HB1.out; have := hq.out; have := HZ.out; omega), HX.out.1]); clear hw K4)
      |(have _t := K5; clear _t; go_at_call 13; refine (Ye7 (doM M (crB x) C) ma pb 16 nn _ K5.out.m (by decide) (by decide) (by have := HNN.out; omega) (by have := HNN.out; omega)).mono ?_; rintro e w8 ⟨v2, rfl, hown, hu⟩; have hcv := Ycf hown; rw [HY.out.2.2, HGS.out.1] at hcv; have K6 := Yh_ (K5.out.quiet hu).none_; clear hown hu K5))
     try simp only [ewq]
     go_roundw
     case rel => exact ⟨q + 1, A, G + N, _, _, _, rfl, rfl, rfl, Yh_ HGS.out.2.symm, Yh_ (by have := HB1.out; have := hq.out; omega), Yh_ (by rw [show (q + 1).toNat = q.toNat + 1 by have := hq.out; omega]; exact HY.out.1), K6⟩
     case measure => have := HB1.out; simp only [intOf]; omega
   ·have hqk : q = l1 := by have := hq.out; omega
    subst hqk
    have dlt : decide (q < q) = false := by simp
    clear hlt
    obtain ⟨gz, hgz⟩ : ∃ gz : Int, (gs.size : Int) = gz := ⟨_, rfl⟩
    have hgz2 : gz = (G : Int) := by rw [← hgz, HG.out, ByteArray.size_extract]; have := HC.out.g; omega
    have hgg := HC.out.g
    have hss := HS.out
    have hll := HZ.out
    have hqq := hq.out
    have hsl : ∀ w', (Instr.sliceAt 9 (.string inp) none (some (.int .i64 gz)) none).run Try.prog w' = .ok (.string gs) w' := fun w' => by
     rw [hgz2, str_hi w' inp G hgg, HG.out]
    obtain ⟨dz, hdz⟩ : ∃ dz, zi - gz = dz := ⟨_, rfl⟩
    have ed : wrap64 dz = dz := by unfold wrap64; omega
    obtain ⟨da, hda⟩ : ∃ da, l2 - A = da := ⟨_, rfl⟩
    have eda : wrap64 da = da := by unfold wrap64; omega
    obtain ⟨mx, hmx⟩ : ∃ mx : Int, max 0 da = mx := ⟨_, rfl⟩
    have e1 : (C.l.length : Int) = mx := by rw [HC.out.l, List.length_drop]; omega
    have e2 : (C.i.size : Int) = dz := by rw [HC.out.i, ByteArray.size_extract]; omega
    clear hgz2 hgg hss hll hqq
    go_wp2_with (have _t := K1; clear _t; go_at_call 14; refine (Yfv K1.out).mono ?_; rintro e w5 ⟨rfl, hu⟩; rw [e1, e2]; have K2 := Yh_ (K1.out.quiet hu); clear hu K1)
    go_ret
    exact ⟨rfl, K2.out.u⟩
end
def k1 : Mem := Mem.zero.mapN (0 : Int).toNat (1 : Int).toNat 3
def k2 : Mem := k1.putN 0 16909060 (Yp 4).toNat
end Go.Proofs.Ytchoedlinimeaaa
