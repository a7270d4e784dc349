/-
  Parts of the proof (their names shortened by a program). No condition.
-/
import Derived.Test.YtjkolegknpflfaaDoorMg01
import Derived.Test.YtjkolegknpflfaaDoorMg08
import Derived.ChangeSlices
namespace Go.Proofs.YtjkolegknpflfaaDoor
open Go Go.RowKit
set_option linter.unusedVariables false
set_option linter.unusedSimpArgs false
set_option maxRecDepth 100000
set_option maxHeartbeats 16000000
theorem mb_9 (t a n m : Int) (w : World) (hn : 0 ≤ n ∧ n < 4294967296) (hm : 0 ≤ m ∧ m < 256) (h2 : 0 ≤ t) (h3 : t < 64) (h4 : 0 ≤ a) (h5 : a < 64) :
  Calls Tryd.prog 4 #[.int .i64 9, .int .i64 t, .int .i64 a, .int .u32 n, .int .u8 m] w fun e w' => e = .returned (.bool true) ∧ Upd [] w w' := by
 have HM := Yh_ (And.intro hn hm)
 have hm0 := hm
 have tok : True := trivial
 have h0 : (1 : Int) ≤ 9 := by decide
 have h1 : (9 : Int) ≤ 17 := by decide
 have d0 : decide ((1 : Int) ≤ 9) = true := by simp [h0]
 have d1 : decide ((9 : Int) ≤ 17) = true := by simp [h1]
 have d2 : decide (0 ≤ t) = true := by simp [h2]
 have d3 : decide (t < 64) = true := by simp [h3]
 have d4 : decide (0 ≤ a) = true := by simp [h4]
 have d5 : decide (a < 64) = true := by simp [h5]
 obtain ⟨r, hr⟩ : ∃ r, decide (n < 7) = r := ⟨_, rfl⟩
 have HI := Yh_ (show (bdX 9 t a n).is = r by rw [Ycc (k := 9) (t := t) (a := a) (n := n) ⟨h2, h3, h4, h5⟩, ← hr]; show btw n 0 6 = _; unfold btw; rw [decide_eq_true hn.1, Bool.true_and]; exact Ycz n 7)
 clear h0 h1 h2 h3 h4 h5 hn hm
 cases r
 all_goals
  go_enter Tryd.func4, Tryd.ntmps4
  go_upto_region 20 with (have _t := tok; clear _t; go_at_call 7; refine (Yp _).mono ?_; rintro e w0 ⟨rfl, hu0⟩; have H0 := Yh_ (And.intro (hu0.alloc (.cells (bdX 9 t a n).cells 35)) (heap_alloc_new w0 (.cells (bdX 9 t a n).cells 35))); clear hu0 tok)
  try clear d0 d1 d2 d3 d4 d5
  try clear hr
  try clear g2 g3 g9 g10 g17 g8 g12 g13
  change Code.wp _ _ _ _ (w0.alloc (.cells (bdX 9 t a n).cells 35))
  generalize w0.alloc (.cells (bdX 9 t a n).cells 35) = w1 at *
  generalize w0.heap.size = g0 at *
  go_wp2_with fail
  go_loopw [13, 14] (fun v i wr => ∃ q : Int, i = .int .i64 q ∧ Hid (0 ≤ q ∧ q ≤ m) ∧ Hid (Ys wr w1.heap.size v (List.replicate q.toNat bdC)) ∧ Hid (Upd [] w1 wr)) (fun _ i _ => (m - intOf i).toNat)
  case atStart => exact ⟨0, rfl, Yh_ (by have := HM.out; omega), Yh_ (Yaf _ _), Yh_ (Upd.refl _ _)⟩
  case round =>
   obtain ⟨q, rfl, hq, HO, HU⟩ := hrel
   by_cases hlt : q < m
   ·have dlt : decide (q < m) = true := by simp [hlt]
    have hq0 := hq.out
    have e1 : wrap64 (q + 1) = q + 1 := by unfold wrap64; omega
    have HB := Yh_ (show 0 ≤ q ∧ q < m ∧ m < 256 by omega)
    clear hq0 hlt
    have tkA : True := trivial
    go_wp2_with (have _t := tkA; clear _t; at_builtin; refine Yl rfl _ _ rfl w1.heap.size u13 (List.replicate q.toNat bdC) rfl (HO.out.old ((Upd.refl [] wr).alloc (.cells (Yd [bdC]).toArray 35)) (by simp)) _ [bdC] wr.heap.size rfl (Yh (l := [bdC]) (c := 1) (T := 35) (f := (0, 0)) (heap_alloc_new wr (.cells (Yd [bdC]).toArray 35))) (by rw [List.length_replicate]; have := HB.out; simp; omega) (Nat.le_trans HU.out.size (by simp)) ?_; intro v' w2 hg; have hb := HO.out.block; have U2 := Yh_ ((HU.out.alloc (.cells (Yd [bdC]).toArray 35)).new hg.u (fun x hx => (hb x (by simpa using hx)).1)); have O2 := Yh_ (show Ys w2 w1.heap.size v' (List.replicate (q + 1).toNat bdC) by rw [show (q + 1).toNat = q.toNat + 1 by have := HB.out; omega, List.replicate_succ']; exact hg.o); clear hg hb tkA)
    try simp only [e1]
    go_roundw
    case rel => exact ⟨q + 1, rfl, Yh_ (by have := HB.out; omega), O2, U2⟩
    case measure => have := HB.out; simp only [intOf]; omega
   ·have hqm : q = m := by have := hq.out; omega
    subst hqm
    have dlt : decide (q < q) = false := by simp
    obtain ⟨r, hr⟩ : ∃ r, decide (q ≤ 200) = r := ⟨_, rfl⟩
    obtain ⟨gl, hsl, _, _⟩ := HO.out.sl
    have HSL := Yh_ hsl
    have HIL := Yh_ (show isL (List.replicate q.toNat bdC) = r by rw [Yaz, show ((q.toNat : Nat) : Int) = q by have := hq.out; omega]; exact hr)
    have cx := Ya (HU.out.get H0.out.2 (by simp))
    unfold bdX Mi.cells at cx
    clear hlt hsl
    have tkA : True := trivial
    cases r
    all_goals
     go_wp2_with (first
      |(have _t := tkA; clear _t; go_at_call 8; refine (Yr _ [bdX 9 t a n] wr.heap.size _ (Yh (l := [bdX 9 t a n]) (c := 1) (T := 35) (f := (0, 0)) (heap_alloc_new wr (.cells (Yd [bdX 9 t a n]).toArray 35))) (by intro x hx; rw [List.mem_singleton.1 hx]; exact ⟨HM.out.1⟩) (by unfold maxLen; simp)).mono ?_; rintro e w3 ⟨rfl, hu⟩; rw [Ya0, HI.out]; have U3 := Yh_ (((Upd.refl [] wr).alloc (.cells (Yd [bdX 9 t a n]).toArray 35)).also hu (by simp)); clear hu tkA cx)
      |(have _t := U3; clear _t; go_at_call 8; refine (Yr _ (List.replicate q.toNat bdC) gl _ (HSL.out.keep U3.out (by simp)) (Ybb _) (by rw [List.length_replicate]; have := HM.out.2; unfold maxLen; omega)).mono ?_; rintro e w4 ⟨rfl, hu⟩; rw [HIL.out]; have U4 := Yh_ ((H0.out.1.also (HU.out.also U3.out (by simp)) (by simp)).also hu (by simp)); clear hu U3))
     go_ret
     exact ⟨rfl, U4.out⟩
theorem mb_10 (t a n m : Int) (w : World) (hn : 0 ≤ n ∧ n < 4294967296) (hm : 0 ≤ m ∧ m < 256) (h2 : 0 ≤ t) (h3 : t < 64) (h4 : 0 ≤ a) (h5 : a < 64) :
  Calls Tryd.prog 4 #[.int .i64 10, .int .i64 t, .int .i64 a, .int .u32 n, .int .u8 m] w fun e w' => e = .returned (.bool true) ∧ Upd [] w w' := by
 have HM := Yh_ (And.intro hn hm)
 have hm0 := hm
 have tok : True := trivial
 have h0 : (1 : Int) ≤ 10 := by decide
 have h1 : (10 : Int) ≤ 17 := by decide
 have d0 : decide ((1 : Int) ≤ 10) = true := by simp [h0]
 have d1 : decide ((10 : Int) ≤ 17) = true := by simp [h1]
 have d2 : decide (0 ≤ t) = true := by simp [h2]
 have d3 : decide (t < 64) = true := by simp [h3]
 have d4 : decide (0 ≤ a) = true := by simp [h4]
 have d5 : decide (a < 64) = true := by simp [h5]
 obtain ⟨r, hr⟩ : ∃ r, decide (n < 16) = r := ⟨_, rfl⟩
 have HI := Yh_ (show (bdX 10 t a n).is = r by rw [Ycc (k := 10) (t := t) (a := a) (n := n) ⟨h2, h3, h4, h5⟩, ← hr]; show btw n 0 15 = _; unfold btw; rw [decide_eq_true hn.1, Bool.true_and]; exact Ycz n 16)
 clear h0 h1 h2 h3 h4 h5 hn hm
 cases r
 all_goals
  go_enter Tryd.func4, Tryd.ntmps4
  go_upto_region 20 with (have _t := tok; clear _t; go_at_call 7; refine (Yp _).mono ?_; rintro e w0 ⟨rfl, hu0⟩; have H0 := Yh_ (And.intro (hu0.alloc (.cells (bdX 10 t a n).cells 35)) (heap_alloc_new w0 (.cells (bdX 10 t a n).cells 35))); clear hu0 tok)
  try clear d0 d1 d2 d3 d4 d5
  try clear hr
  try clear g2 g3 g9 g10 g17 g8 g12 g13
  change Code.wp _ _ _ _ (w0.alloc (.cells (bdX 10 t a n).cells 35))
  generalize w0.alloc (.cells (bdX 10 t a n).cells 35) = w1 at *
  generalize w0.heap.size = g0 at *
  go_wp2_with fail
  go_loopw [13, 14] (fun v i wr => ∃ q : Int, i = .int .i64 q ∧ Hid (0 ≤ q ∧ q ≤ m) ∧ Hid (Ys wr w1.heap.size v (List.replicate q.toNat bdC)) ∧ Hid (Upd [] w1 wr)) (fun _ i _ => (m - intOf i).toNat)
  case atStart => exact ⟨0, rfl, Yh_ (by have := HM.out; omega), Yh_ (Yaf _ _), Yh_ (Upd.refl _ _)⟩
  case round =>
   obtain ⟨q, rfl, hq, HO, HU⟩ := hrel
   by_cases hlt : q < m
   ·have dlt : decide (q < m) = true := by simp [hlt]
    have hq0 := hq.out
    have e1 : wrap64 (q + 1) = q + 1 := by unfold wrap64; omega
    have HB := Yh_ (show 0 ≤ q ∧ q < m ∧ m < 256 by omega)
    clear hq0 hlt
    have tkA : True := trivial
    go_wp2_with (have _t := tkA; clear _t; at_builtin; refine Yl rfl _ _ rfl w1.heap.size u13 (List.replicate q.toNat bdC) rfl (HO.out.old ((Upd.refl [] wr).alloc (.cells (Yd [bdC]).toArray 35)) (by simp)) _ [bdC] wr.heap.size rfl (Yh (l := [bdC]) (c := 1) (T := 35) (f := (0, 0)) (heap_alloc_new wr (.cells (Yd [bdC]).toArray 35))) (by rw [List.length_replicate]; have := HB.out; simp; omega) (Nat.le_trans HU.out.size (by simp)) ?_; intro v' w2 hg; have hb := HO.out.block; have U2 := Yh_ ((HU.out.alloc (.cells (Yd [bdC]).toArray 35)).new hg.u (fun x hx => (hb x (by simpa using hx)).1)); have O2 := Yh_ (show Ys w2 w1.heap.size v' (List.replicate (q + 1).toNat bdC) by rw [show (q + 1).toNat = q.toNat + 1 by have := HB.out; omega, List.replicate_succ']; exact hg.o); clear hg hb tkA)
    try simp only [e1]
    go_roundw
    case rel => exact ⟨q + 1, rfl, Yh_ (by have := HB.out; omega), O2, U2⟩
    case measure => have := HB.out; simp only [intOf]; omega
   ·have hqm : q = m := by have := hq.out; omega
    subst hqm
    have dlt : decide (q < q) = false := by simp
    obtain ⟨r, hr⟩ : ∃ r, decide (q ≤ 200) = r := ⟨_, rfl⟩
    obtain ⟨gl, hsl, _, _⟩ := HO.out.sl
    have HSL := Yh_ hsl
    have HIL := Yh_ (show isL (List.replicate q.toNat bdC) = r by rw [Yaz, show ((q.toNat : Nat) : Int) = q by have := hq.out; omega]; exact hr)
    have cx := Ya (HU.out.get H0.out.2 (by simp))
    unfold bdX Mi.cells at cx
    clear hlt hsl
    have tkA : True := trivial
    cases r
    all_goals
     go_wp2_with (first
      |(have _t := tkA; clear _t; go_at_call 8; refine (Yr _ [bdX 10 t a n] wr.heap.size _ (Yh (l := [bdX 10 t a n]) (c := 1) (T := 35) (f := (0, 0)) (heap_alloc_new wr (.cells (Yd [bdX 10 t a n]).toArray 35))) (by intro x hx; rw [List.mem_singleton.1 hx]; exact ⟨HM.out.1⟩) (by unfold maxLen; simp)).mono ?_; rintro e w3 ⟨rfl, hu⟩; rw [Ya0, HI.out]; have U3 := Yh_ (((Upd.refl [] wr).alloc (.cells (Yd [bdX 10 t a n]).toArray 35)).also hu (by simp)); clear hu tkA cx)
      |(have _t := U3; clear _t; go_at_call 8; refine (Yr _ (List.replicate q.toNat bdC) gl _ (HSL.out.keep U3.out (by simp)) (Ybb _) (by rw [List.length_replicate]; have := HM.out.2; unfold maxLen; omega)).mono ?_; rintro e w4 ⟨rfl, hu⟩; rw [HIL.out]; have U4 := Yh_ ((H0.out.1.also (HU.out.also U3.out (by simp)) (by simp)).also hu (by simp)); clear hu U3))
     go_ret
     exact ⟨rfl, U4.out⟩
theorem mb_17 (t a n m : Int) (w : World) (hn : 0 ≤ n ∧ n < 4294967296) (hm : 0 ≤ m ∧ m < 256) (h2 : 0 ≤ t) (h3 : t < 64) (h4 : 0 ≤ a) (h5 : a < 64) :
  Calls Tryd.prog 4 #[.int .i64 17, .int .i64 t, .int .i64 a, .int .u32 n, .int .u8 m] w fun e w' => e = .returned (.bool true) ∧ Upd [] w w' := by
 have HM := Yh_ (And.intro hn hm)
 have hm0 := hm
 have tok : True := trivial
 have h0 : (1 : Int) ≤ 17 := by decide
 have h1 : (17 : Int) ≤ 17 := by decide
 have d0 : decide ((1 : Int) ≤ 17) = true := by simp [h0]
 have d1 : decide ((17 : Int) ≤ 17) = true := by simp [h1]
 have d2 : decide (0 ≤ t) = true := by simp [h2]
 have d3 : decide (t < 64) = true := by simp [h3]
 have d4 : decide (0 ≤ a) = true := by simp [h4]
 have d5 : decide (a < 64) = true := by simp [h5]
 obtain ⟨r, hr⟩ : ∃ r, decide (n < 2) = r := ⟨_, rfl⟩
 have HI := Yh_ (show (bdX 17 t a n).is = r by rw [Ycc (k := 17) (t := t) (a := a) (n := n) ⟨h2, h3, h4, h5⟩, ← hr]; show decide (n ≤ 1) = _; exact Ycz n 2)
 clear h0 h1 h2 h3 h4 h5 hn hm
 cases r
 all_goals
  go_enter Tryd.func4, Tryd.ntmps4
  go_upto_region 20 with (have _t := tok; clear _t; go_at_call 7; refine (Yp _).mono ?_; rintro e w0 ⟨rfl, hu0⟩; have H0 := Yh_ (And.intro (hu0.alloc (.cells (bdX 17 t a n).cells 35)) (heap_alloc_new w0 (.cells (bdX 17 t a n).cells 35))); clear hu0 tok)
  try clear d0 d1 d2 d3 d4 d5
  try clear hr
  try clear g2 g3 g9 g10 g17 g8 g12 g13
  change Code.wp _ _ _ _ (w0.alloc (.cells (bdX 17 t a n).cells 35))
  generalize w0.alloc (.cells (bdX 17 t a n).cells 35) = w1 at *
  generalize w0.heap.size = g0 at *
  go_wp2_with fail
  go_loopw [13, 14] (fun v i wr => ∃ q : Int, i = .int .i64 q ∧ Hid (0 ≤ q ∧ q ≤ m) ∧ Hid (Ys wr w1.heap.size v (List.replicate q.toNat bdC)) ∧ Hid (Upd [] w1 wr)) (fun _ i _ => (m - intOf i).toNat)
  case atStart => exact ⟨0, rfl, Yh_ (by have := HM.out; omega), Yh_ (Yaf _ _), Yh_ (Upd.refl _ _)⟩
  case round =>
   obtain ⟨q, rfl, hq, HO, HU⟩ := hrel
   by_cases hlt : q < m
   ·have dlt : decide (q < m) = true := by simp [hlt]
    have hq0 := hq.out
    have e1 : wrap64 (q + 1) = q + 1 := by unfold wrap64; omega
    have HB := Yh_ (show 0 ≤ q ∧ q < m ∧ m < 256 by omega)
    clear hq0 hlt
    have tkA : True := trivial
    go_wp2_with (have _t := tkA; clear _t; at_builtin; refine Yl rfl _ _ rfl w1.heap.size u13 (List.replicate q.toNat bdC) rfl (HO.out.old ((Upd.refl [] wr).alloc (.cells (Yd [bdC]).toArray 35)) (by simp)) _ [bdC] wr.heap.size rfl (Yh (l := [bdC]) (c := 1) (T := 35) (f := (0, 0)) (heap_alloc_new wr (.cells (Yd [bdC]).toArray 35))) (by rw [List.length_replicate]; have := HB.out; simp; omega) (Nat.le_trans HU.out.size (by simp)) ?_; intro v' w2 hg; have hb := HO.out.block; have U2 := Yh_ ((HU.out.alloc (.cells (Yd [bdC]).toArray 35)).new hg.u (fun x hx => (hb x (by simpa using hx)).1)); have O2 := Yh_ (show Ys w2 w1.heap.size v' (List.replicate (q + 1).toNat bdC) by rw [show (q + 1).toNat = q.toNat + 1 by have := HB.out; omega, List.replicate_succ']; exact hg.o); clear hg hb tkA)
    try simp only [e1]
    go_roundw
    case rel => exact ⟨q + 1, rfl, Yh_ (by have := HB.out; omega), O2, U2⟩
    case measure => have := HB.out; simp only [intOf]; omega
   ·have hqm : q = m := by have := hq.out; omega
    subst hqm
    have dlt : decide (q < q) = false := by simp
    obtain ⟨r, hr⟩ : ∃ r, decide (q ≤ 200) = r := ⟨_, rfl⟩
    obtain ⟨gl, hsl, _, _⟩ := HO.out.sl
    have HSL := Yh_ hsl
    have HIL := Yh_ (show isL (List.replicate q.toNat bdC) = r by rw [Yaz, show ((q.toNat : Nat) : Int) = q by have := hq.out; omega]; exact hr)
    have cx := Ya (HU.out.get H0.out.2 (by simp))
    unfold bdX Mi.cells at cx
    clear hlt hsl
    have tkA : True := trivial
    cases r
    all_goals
     go_wp2_with (first
      |(have _t := tkA; clear _t; go_at_call 8; refine (Yr _ [bdX 17 t a n] wr.heap.size _ (Yh (l := [bdX 17 t a n]) (c := 1) (T := 35) (f := (0, 0)) (heap_alloc_new wr (.cells (Yd [bdX 17 t a n]).toArray 35))) (by intro x hx; rw [List.mem_singleton.1 hx]; exact ⟨HM.out.1⟩) (by unfold maxLen; simp)).mono ?_; rintro e w3 ⟨rfl, hu⟩; rw [Ya0, HI.out]; have U3 := Yh_ (((Upd.refl [] wr).alloc (.cells (Yd [bdX 17 t a n]).toArray 35)).also hu (by simp)); clear hu tkA cx)
      |(have _t := U3; clear _t; go_at_call 8; refine (Yr _ (List.replicate q.toNat bdC) gl _ (HSL.out.keep U3.out (by simp)) (Ybb _) (by rw [List.length_replicate]; have := HM.out.2; unfold maxLen; omega)).mono ?_; rintro e w4 ⟨rfl, hu⟩; rw [HIL.out]; have U4 := Yh_ ((H0.out.1.also (HU.out.also U3.out (by simp)) (by simp)).also hu (by simp)); clear hu U3))
     go_ret
     exact ⟨rfl, U4.out⟩
theorem mb_8 (t a n m : Int) (w : World) (hn : 0 ≤ n ∧ n < 4294967296) (hm : 0 ≤ m ∧ m < 256) (h2 : 0 ≤ t) (h3 : t < 64) (h4 : 0 ≤ a) (h5 : a < 64) :
  Calls Tryd.prog 4 #[.int .i64 8, .int .i64 t, .int .i64 a, .int .u32 n, .int .u8 m] w fun e w' => e = .returned (.bool true) ∧ Upd [] w w' := by
 have HM := Yh_ (And.intro hn hm)
 have hm0 := hm
 have tok : True := trivial
 have h0 : (1 : Int) ≤ 8 := by decide
 have h1 : (8 : Int) ≤ 17 := by decide
 have d0 : decide ((1 : Int) ≤ 8) = true := by simp [h0]
 have d1 : decide ((8 : Int) ≤ 17) = true := by simp [h1]
 have d2 : decide (0 ≤ t) = true := by simp [h2]
 have d3 : decide (t < 64) = true := by simp [h3]
 have d4 : decide (0 ≤ a) = true := by simp [h4]
 have d5 : decide (a < 64) = true := by simp [h5]
 clear h0 h1 h2 h3 h4 h5 hn hm
 go_enter Tryd.func4, Tryd.ntmps4
 go_wp2_with (have _t := tok; clear _t; go_at_call 7; refine (Yp _).mono ?_; rintro e w0 ⟨rfl, hu0⟩; have H0 := Yh_ (hu0.alloc (.cells (bdX 8 t a n).cells 35)); clear hu0 tok)
 go_ret
 exact ⟨rfl, H0.out⟩
theorem mb_12 (t a n m : Int) (w : World) (hn : 0 ≤ n ∧ n < 4294967296) (hm : 0 ≤ m ∧ m < 256) (h2 : 0 ≤ t) (h3 : t < 64) (h4 : 0 ≤ a) (h5 : a < 64) :
  Calls Tryd.prog 4 #[.int .i64 12, .int .i64 t, .int .i64 a, .int .u32 n, .int .u8 m] w fun e w' => e = .returned (.bool true) ∧ Upd [] w w' := by
 have HM := Yh_ (And.intro hn hm)
 have hm0 := hm
 have tok : True := trivial
 have h0 : (1 : Int) ≤ 12 := by decide
 have h1 : (12 : Int) ≤ 17 := by decide
 have d0 : decide ((1 : Int) ≤ 12) = true := by simp [h0]
 have d1 : decide ((12 : Int) ≤ 17) = true := by simp [h1]
 have d2 : decide (0 ≤ t) = true := by simp [h2]
 have d3 : decide (t < 64) = true := by simp [h3]
 have d4 : decide (0 ≤ a) = true := by simp [h4]
 have d5 : decide (a < 64) = true := by simp [h5]
 clear h0 h1 h2 h3 h4 h5 hn hm
 go_enter Tryd.func4, Tryd.ntmps4
 go_wp2_with (have _t := tok; clear _t; go_at_call 7; refine (Yp _).mono ?_; rintro e w0 ⟨rfl, hu0⟩; have H0 := Yh_ (hu0.alloc (.cells (bdX 12 t a n).cells 35)); clear hu0 tok)
 go_ret
 exact ⟨rfl, H0.out⟩
theorem mb_13 (t a n m : Int) (w : World) (hn : 0 ≤ n ∧ n < 4294967296) (hm : 0 ≤ m ∧ m < 256) (h2 : 0 ≤ t) (h3 : t < 64) (h4 : 0 ≤ a) (h5 : a < 64) :
  Calls Tryd.prog 4 #[.int .i64 13, .int .i64 t, .int .i64 a, .int .u32 n, .int .u8 m] w fun e w' => e = .returned (.bool true) ∧ Upd [] w w' := by
 have HM := Yh_ (And.intro hn hm)
 have hm0 := hm
 have tok : True := trivial
 have h0 : (1 : Int) ≤ 13 := by decide
 have h1 : (13 : Int) ≤ 17 := by decide
 have d0 : decide ((1 : Int) ≤ 13) = true := by simp [h0]
 have d1 : decide ((13 : Int) ≤ 17) = true := by simp [h1]
 have d2 : decide (0 ≤ t) = true := by simp [h2]
 have d3 : decide (t < 64) = true := by simp [h3]
 have d4 : decide (0 ≤ a) = true := by simp [h4]
 have d5 : decide (a < 64) = true := by simp [h5]
 clear h0 h1 h2 h3 h4 h5 hn hm
 go_enter Tryd.func4, Tryd.ntmps4
 go_wp2_with (have _t := tok; clear _t; go_at_call 7; refine (Yp _).mono ?_; rintro e w0 ⟨rfl, hu0⟩; have H0 := Yh_ (hu0.alloc (.cells (bdX 13 t a n).cells 35)); clear hu0 tok)
 go_ret
 exact ⟨rfl, H0.out⟩
theorem mb_else (k t a n m : Int) (w : World) (hn : 0 ≤ n ∧ n < 4294967296) (hm : 0 ≤ m ∧ m < 256) (h0 : 1 ≤ k) (h1 : k ≤ 17) (h2 : 0 ≤ t) (h3 : t < 64) (h4 : 0 ≤ a) (h5 : a < 64) (e2 : k ≠ 2) (e3 : k ≠ 3) (e9 : k ≠ 9) (e10 : k ≠ 10) (e17 : k ≠ 17) (e8 : k ≠ 8) (e12 : k ≠ 12) (e13 : k ≠ 13) :
  Calls Tryd.prog 4 #[.int .i64 k, .int .i64 t, .int .i64 a, .int .u32 n, .int .u8 m] w fun e w' => e = .returned (.bool true) ∧ Upd [] w w' := by
 have HM := Yh_ (And.intro hn hm)
 have hm0 := hm
 have tok : True := trivial
 have d0 : decide (1 ≤ k) = true := by simp [h0]
 have d1 : decide (k ≤ 17) = true := by simp [h1]
 have d2 : decide (0 ≤ t) = true := by simp [h2]
 have d3 : decide (t < 64) = true := by simp [h3]
 have d4 : decide (0 ≤ a) = true := by simp [h4]
 have d5 : decide (a < 64) = true := by simp [h5]
 have g2 : (k == 2) = false := by simp [e2]
 have g3 : (k == 3) = false := by simp [e3]
 have g9 : (k == 9) = false := by simp [e9]
 have g10 : (k == 10) = false := by simp [e10]
 have g17 : (k == 17) = false := by simp [e17]
 have g8 : (k == 8) = false := by simp [e8]
 have g12 : (k == 12) = false := by simp [e12]
 have g13 : (k == 13) = false := by simp [e13]
 have HI := Yh_ (show (bdX k t a n).is = true by
  rw [Ycc (k := k) (t := t) (a := a) (n := n) ⟨h2, h3, h4, h5⟩]
  unfold Mi.kOk bdX
  dsimp only
  rw [if_neg (by omega), if_neg e9, if_neg e10, if_neg e8, if_neg e12, if_neg e13, if_neg e17]
  unfold btw; simp; omega)
 clear h0 h1 h2 h3 h4 h5 hn hm e2 e3 e8 e9 e10 e12 e13 e17
 go_enter Tryd.func4, Tryd.ntmps4
 go_upto_region 20 with (have _t := tok; clear _t; go_at_call 7; refine (Yp _).mono ?_; rintro e w0 ⟨rfl, hu0⟩; have H0 := Yh_ (And.intro (hu0.alloc (.cells (bdX k t a n).cells 35)) (heap_alloc_new w0 (.cells (bdX k t a n).cells 35))); clear hu0 tok)
 try clear d0 d1 d2 d3 d4 d5
 try clear hr
 try clear g2 g3 g9 g10 g17 g8 g12 g13
 change Code.wp _ _ _ _ (w0.alloc (.cells (bdX k t a n).cells 35))
 generalize w0.alloc (.cells (bdX k t a n).cells 35) = w1 at *
 generalize w0.heap.size = g0 at *
 go_wp2_with fail
 go_loopw [13, 14] (fun v i wr => ∃ q : Int, i = .int .i64 q ∧ Hid (0 ≤ q ∧ q ≤ m) ∧ Hid (Ys wr w1.heap.size v (List.replicate q.toNat bdC)) ∧ Hid (Upd [] w1 wr)) (fun _ i _ => (m - intOf i).toNat)
 case atStart => exact ⟨0, rfl, Yh_ (by have := HM.out; omega), Yh_ (Yaf _ _), Yh_ (Upd.refl _ _)⟩
 case round =>
  obtain ⟨q, rfl, hq, HO, HU⟩ := hrel
  by_cases hlt : q < m
  ·have dlt : decide (q < m) = true := by simp [hlt]
   have hq0 := hq.out
   have e1 : wrap64 (q + 1) = q + 1 := by unfold wrap64; omega
   have HB := Yh_ (show 0 ≤ q ∧ q < m ∧ m < 256 by omega)
   clear hq0 hlt
   have tkA : True := trivial
   go_wp2_with (have _t := tkA; clear _t; at_builtin; refine Yl rfl _ _ rfl w1.heap.size u13 (List.replicate q.toNat bdC) rfl (HO.out.old ((Upd.refl [] wr).alloc (.cells (Yd [bdC]).toArray 35)) (by simp)) _ [bdC] wr.heap.size rfl (Yh (l := [bdC]) (c := 1) (T := 35) (f := (0, 0)) (heap_alloc_new wr (.cells (Yd [bdC]).toArray 35))) (by rw [List.length_replicate]; have := HB.out; simp; omega) (Nat.le_trans HU.out.size (by simp)) ?_; intro v' w2 hg; have hb := HO.out.block; have U2 := Yh_ ((HU.out.alloc (.cells (Yd [bdC]).toArray 35)).new hg.u (fun x hx => (hb x (by simpa using hx)).1)); have O2 := Yh_ (show Ys w2 w1.heap.size v' (List.replicate (q + 1).toNat bdC) by rw [show (q + 1).toNat = q.toNat + 1 by have := HB.out; omega, List.replicate_succ']; exact hg.o); clear hg hb tkA)
   try simp only [e1]
   go_roundw
   case rel => exact ⟨q + 1, rfl, Yh_ (by have := HB.out; omega), O2, U2⟩
   case measure => have := HB.out; simp only [intOf]; omega
  ·have hqm : q = m := by have := hq.out; omega
   subst hqm
   have dlt : decide (q < q) = false := by simp
   obtain ⟨r, hr⟩ : ∃ r, decide (q ≤ 200) = r := ⟨_, rfl⟩
   obtain ⟨gl, hsl, _, _⟩ := HO.out.sl
   have HSL := Yh_ hsl
   have HIL := Yh_ (show isL (List.replicate q.toNat bdC) = r by rw [Yaz, show ((q.toNat : Nat) : Int) = q by have := hq.out; omega]; exact hr)
   have cx := Ya (HU.out.get H0.out.2 (by simp))
   unfold bdX Mi.cells at cx
   clear hlt hsl
   have tkA : True := trivial
   cases r
   all_goals
    go_wp2_with (first
     |(have _t := tkA; clear _t; go_at_call 8; refine (Yr _ [bdX k t a n] wr.heap.size _ (Yh (l := [bdX k t a n]) (c := 1) (T := 35) (f := (0, 0)) (heap_alloc_new wr (.cells (Yd [bdX k t a n]).toArray 35))) (by intro x hx; rw [List.mem_singleton.1 hx]; exact ⟨HM.out.1⟩) (by unfold maxLen; simp)).mono ?_; rintro e w3 ⟨rfl, hu⟩; rw [Ya0, HI.out]; have U3 := Yh_ (((Upd.refl [] wr).alloc (.cells (Yd [bdX k t a n]).toArray 35)).also hu (by simp)); clear hu tkA cx)
     |(have _t := U3; clear _t; go_at_call 8; refine (Yr _ (List.replicate q.toNat bdC) gl _ (HSL.out.keep U3.out (by simp)) (Ybb _) (by rw [List.length_replicate]; have := HM.out.2; unfold maxLen; omega)).mono ?_; rintro e w4 ⟨rfl, hu⟩; rw [HIL.out]; have U4 := Yh_ ((H0.out.1.also (HU.out.also U3.out (by simp)) (by simp)).also hu (by simp)); clear hu U3))
    go_ret
    exact ⟨rfl, U4.out⟩
theorem Ydc (k t a n m : Int) (w : World) (hn : 0 ≤ n ∧ n < 4294967296) (hm : 0 ≤ m ∧ m < 256) :
  Calls Tryd.prog 4 #[.int .i64 k, .int .i64 t, .int .i64 a, .int .u32 n, .int .u8 m] w fun e w' => e = .returned (.bool true) ∧ Upd [] w w' := by
 by_cases h0 : 1 ≤ k
 rotate_left
 ·exact mb_no0 k t a n m w hn hm h0
 by_cases h1 : k ≤ 17
 rotate_left
 ·exact mb_no1 k t a n m w hn hm h0 h1
 by_cases h2 : 0 ≤ t
 rotate_left
 ·exact mb_no2 k t a n m w hn hm h0 h1 h2
 by_cases h3 : t < 64
 rotate_left
 ·exact mb_no3 k t a n m w hn hm h0 h1 h2 h3
 by_cases h4 : 0 ≤ a
 rotate_left
 ·exact mb_no4 k t a n m w hn hm h0 h1 h2 h3 h4
 by_cases h5 : a < 64
 rotate_left
 ·exact mb_no5 k t a n m w hn hm h0 h1 h2 h3 h4 h5
 by_cases e2 : k = 2
 ·subst e2; exact mb_2 t a n m w hn hm h2 h3 h4 h5
 by_cases e3 : k = 3
 ·subst e3; exact mb_3 t a n m w hn hm h2 h3 h4 h5
 by_cases e9 : k = 9
 ·subst e9; exact mb_9 t a n m w hn hm h2 h3 h4 h5
 by_cases e10 : k = 10
 ·subst e10; exact mb_10 t a n m w hn hm h2 h3 h4 h5
 by_cases e17 : k = 17
 ·subst e17; exact mb_17 t a n m w hn hm h2 h3 h4 h5
 by_cases e8 : k = 8
 ·subst e8; exact mb_8 t a n m w hn hm h2 h3 h4 h5
 by_cases e12 : k = 12
 ·subst e12; exact mb_12 t a n m w hn hm h2 h3 h4 h5
 by_cases e13 : k = 13
 ·subst e13; exact mb_13 t a n m w hn hm h2 h3 h4 h5
 exact mb_else k t a n m w hn hm h0 h1 h2 h3 h4 h5 e2 e3 e9 e10 e17 e8 e12 e13
section
open Go.WideShapes Go.ChangeShapes
def Rp (w : World) (v : Value) (l : List Int) (g : Nat) : Prop :=
 (v = .slice none 0 0 ∧ l = []) ∨ ∃ o c C T f, v = .slice (some ⟨g, o, none⟩) l.length c ∧ l.length ≤ c ∧ w.heap[g]? = some (.cells C T f) ∧ ∀ i, i < l.length → C[o + i]? = some (.int .u32 (l.getD i 0))
theorem Rp.form {w : World} {v : Value} {l : List Int} {g : Nat} (h : Rp w v l g) : ∃ b c, v = .slice b l.length c := by
 rcases h with ⟨h1, h2⟩ | ⟨o, c, _, _, _, h1, _⟩
 ·exact ⟨none, 0, by rw [h1, h2]; rfl⟩
 ·exact ⟨_, _, h1⟩
theorem Rp.keep {w w' : World} {v : Value} {l : List Int} {g : Nat} {S : List Nat} (h : Rp w v l g) (u : Upd S w w') (hg : g ∉ S) : Rp w' v l g := by
 rcases h with h | ⟨o, c, C, T, f, h1, h2, h3, h4⟩
 ·exact .inl h
 ·exact .inr ⟨o, c, C, T, f, h1, h2, u.get h3 hg, h4⟩
theorem Rp.old {w w' : World} {v : Value} {l : List Int} {g : Nat} (h : Rp w v l g) (u : Upd [] w w') : Rp w' v l g := h.keep u (by simp)
theorem Rp.cell {w : World} {b : Option Addr} {n c : Nat} {l : List Int} {g : Nat} (h : Rp w (.slice b n c) l g) (hl : 0 < l.length) : ∃ o, b = some ⟨g, o, none⟩ ∧ n = l.length ∧ ∀ i, i < l.length → w.cell? ⟨g, o + i, none⟩ = some (.int .u32 (l.getD i 0)) := by
 rcases h with ⟨h1, h2⟩ | ⟨o, c', C, T, f, h1, h2, h3, h4⟩
 ·rw [h2] at hl; cases hl
 ·injection h1 with e1 e2 e3
  exact ⟨o, e1, e2, fun i hi => by rw [Ya h3]; exact h4 i hi⟩
theorem wf_word {z : Int} (h : (Lit.int .u32 z).wf = true) : 0 ≤ z ∧ z < 4294967296 := by
 simp [Lit.wf, IntKind.min, IntKind.max, IntKind.signed, IntKind.bits] at h
 omega
end
end Go.Proofs.YtjkolegknpflfaaDoor
