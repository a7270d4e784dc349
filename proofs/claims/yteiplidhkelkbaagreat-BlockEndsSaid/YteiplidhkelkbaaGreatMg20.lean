/-
  Parts of the proof (their names shortened by a program). No condition.
-/
import Derived.Test.YteiplidhkelkbaaGreatMg01
import Derived.Test.YteiplidhkelkbaaGreatMg19
namespace Go.Proofs.YteiplidhkelkbaaGreat
open Go Go.RowKit
set_option linter.unusedVariables false
set_option linter.unusedSimpArgs false
set_option maxRecDepth 100000
set_option maxHeartbeats 16000000
theorem Ybv (c : Int) (hc : 0 ≤ c ∧ c ≤ 255) : bits .and .u8 (c / 8) 7 = c / 8 % 8 := by
 have h : ∀ k : Fin 256, bits .and .u8 ((k.val : Int) / 8) 7 = (k.val : Int) / 8 % 8 := by decide +kernel
 have := h ⟨c.toNat, by omega⟩
 simpa only [show ((c.toNat : Nat) : Int) = c by omega] using this
theorem Ysy (d g : Nat) (s : Rd) (v : Value) (L : List Int) (w : World) (hD : Yl w d v L g s) (c : Int) (hl : L.length < 2) :
  Calls Tryz.prog 74 #[.pointer (some ⟨d, 0, none⟩), .int .u8 c] w (Yr d v L g w ⟨Ins.zero, false, s⟩) := by
 obtain ⟨sb, sc, rfl⟩ := hD.b.form
 have q1 : decide ((L.length : Int) < 2) = true := by simp; omega
 have q2 : decide (L.length < 2) = true := by simp; omega
 have c0 := Ya (Yc (.cells #[.int .i64 0, .int .i64 0, .int .i64 0, .int .i64 0, .int .u32 0, .int .i64 0, .int .i64 0, .int .u32 0, .int .i64 0, .int .i64 0, .int .u32 0, .int .i64 0, .int .i64 0, .int .u32 0, .bool false, .int .i64 0] 42) hD.h)
 have H1 := Yh_ (RiS.start hD)
 clear hD hl
 go_enter Tryz.func74, Tryz.ntmps74
 go_wp2_with (have _t := H1; clear _t; refine Ye 42 rfl ?_; refine Yb Ins.zero (w.heap.size) rfl _ _ rfl rfl rfl (H1.out).r (H1.out).z ?_; intro w2 hw; have H2 := Yh_ ((H1.out).store hw); clear hw H1)
 exact bodyPost_ret (Yg rfl (Yi 4 (w.heap.size) _ rfl H2.out.r) (Yk 5 rfl)) rfl ⟨rfl, H2.out.h, H2.out.u⟩
theorem Yg31 : (∀ (d g : Nat) (s : Rd) (v : Value) (L : List Int) (w : World) (hD : Yl w d v L g s) (k : Nat) (sh : Bool) (hs : s = ⟨k, sh, false⟩) (hl : 1 < L.length), Calls Tryz.prog 74 #[.pointer (some ⟨d, 0, none⟩), .int .u8 129] w (Yr d v L g w ⟨Ins.zero, false, ⟨k, sh, false⟩⟩)) ∧
 (∀ (d g : Nat) (s : Rd) (v : Value) (L : List Int) (w : World) (hD : Yl w d v L g s) (k : Nat) (sh : Bool) (hs : s = ⟨k, sh, false⟩) (hl : 1 < L.length), Calls Tryz.prog 74 #[.pointer (some ⟨d, 0, none⟩), .int .u8 131] w (Yr d v L g w ⟨Ins.zero, false, ⟨k, sh, false⟩⟩)) ∧
 (∀ (d g : Nat) (s : Rd) (v : Value) (L : List Int) (w : World) (hD : Yl w d v L g s) (k : Nat) (sh : Bool) (hs : s = ⟨k, sh, false⟩) (hl : 1 < L.length), Calls Tryz.prog 74 #[.pointer (some ⟨d, 0, none⟩), .int .u8 133] w (Yr d v L g w ⟨Ins.zero, false, ⟨k, sh, false⟩⟩)) ∧
 (∀ (d g : Nat) (s : Rd) (v : Value) (L : List Int) (w : World) (hD : Yl w d v L g s) (k : Nat) (sh : Bool) (hs : s = ⟨k, sh, false⟩) (hl : 1 < L.length), Calls Tryz.prog 74 #[.pointer (some ⟨d, 0, none⟩), .int .u8 135] w (Yr d v L g w ⟨Ins.zero, false, ⟨k, sh, false⟩⟩)) ∧
 (∀ (d g : Nat) (s : Rd) (v : Value) (L : List Int) (w : World) (hD : Yl w d v L g s) (k : Nat) (sh : Bool) (hs : s = ⟨k, sh, false⟩) (hl : 1 < L.length), Calls Tryz.prog 74 #[.pointer (some ⟨d, 0, none⟩), .int .u8 136] w (Yr d v L g w ⟨Ins.zero, false, ⟨k, sh, false⟩⟩)) ∧
 (∀ (d g : Nat) (s : Rd) (v : Value) (L : List Int) (w : World) (hD : Yl w d v L g s) (k : Nat) (sh : Bool) (hs : s = ⟨k, sh, false⟩) (hl : 1 < L.length), Calls Tryz.prog 74 #[.pointer (some ⟨d, 0, none⟩), .int .u8 137] w (Yr d v L g w ⟨Ins.zero, false, ⟨k, sh, false⟩⟩)) ∧
 (∀ (d g : Nat) (s : Rd) (v : Value) (L : List Int) (w : World) (hD : Yl w d v L g s) (k : Nat) (sh : Bool) (hs : s = ⟨k, sh, false⟩) (hl : 1 < L.length), Calls Tryz.prog 74 #[.pointer (some ⟨d, 0, none⟩), .int .u8 138] w (Yr d v L g w ⟨Ins.zero, false, ⟨k, sh, false⟩⟩)) ∧
 (∀ (d g : Nat) (s : Rd) (v : Value) (L : List Int) (w : World) (hD : Yl w d v L g s) (k : Nat) (sh : Bool) (hs : s = ⟨k, sh, false⟩) (hl : 1 < L.length), Calls Tryz.prog 74 #[.pointer (some ⟨d, 0, none⟩), .int .u8 139] w (Yr d v L g w ⟨Ins.zero, false, ⟨k, sh, false⟩⟩)) := by
 refine ⟨fun d g s v L w hD k sh hs hl => ?_, fun d g s v L w hD k sh hs hl => ?_, fun d g s v L w hD k sh hs hl => ?_, fun d g s v L w hD k sh hs hl => ?_, fun d g s v L w hD k sh hs hl => ?_, fun d g s v L w hD k sh hs hl => ?_, fun d g s v L w hD k sh hs hl => ?_, fun d g s v L w hD k sh hs hl => ?_⟩
 all_goals
  subst hs
  obtain ⟨ao, sc, rfl, hsc⟩ : ∃ ao c, v = .slice (some ⟨g, ao, none⟩) L.length c ∧ L.length ≤ c := by
   rcases hD.b with ⟨_, h1⟩ | ⟨ao, c, _, _, _, h1, _⟩
   ·rw [h1] at hl; simp at hl
   ·exact ⟨ao, c, h1, hD.c _ _ _ h1⟩
  have hL := hD.r
  have hx := hL 1
  have hls := hD.n
  unfold maxLen at hls
  have q1 : decide ((L.length : Int) < 2) = false := by simp; omega
  have q2 : decide (L.length < 2) = false := by simp; omega
  have q3 : 1 < L.length := hl
  have HC := Yh_ (fun (W : World) (hb : Ybz W (.slice (some ⟨g, ao, none⟩) L.length sc) L g) => Ybs W hl hb)
  obtain ⟨x, hxe⟩ : ∃ x, L.getD 1 0 = x := ⟨_, rfl⟩
  rw [hxe] at hx HC
  have q4 := Ybv x hx
  obtain ⟨n, hn⟩ : ∃ n, x / 8 % 8 = n := ⟨_, rfl⟩
  obtain ⟨md, hmd⟩ : ∃ md, x / 64 = md := ⟨_, rfl⟩
  have hn8 : 0 ≤ n ∧ n < 8 := by omega
  rw [hn] at q4
  have q5 : x / 64 = md := hmd
  clear hn hmd hxe
  have c0 := Ya (Yc (.cells #[.int .i64 0, .int .i64 0, .int .i64 0, .int .i64 0, .int .u32 0, .int .i64 0, .int .i64 0, .int .u32 0, .int .i64 0, .int .i64 0, .int .u32 0, .int .i64 0, .int .i64 0, .int .u32 0, .bool false, .int .i64 0] 42) hD.h)
  have H1 := Yh_ (RiS.start hD)
  clear hD hl hx hls hL
  go_enter Tryz.func74, Tryz.ntmps74
  go_wp2_with fail
  clear c0
  have HQ := Yh_ q5
  refine Ybc 18 (RiS w d (.slice (some ⟨g, ao, none⟩) L.length sc) L g ⟨k, sh, false⟩ w.heap.size Ins.zero.cells) (fun _ _ => False) (by kernel_rfl) (by kernel_rfl) (H1.out.step (Upd.refl [] _).drew) (fun _ _ _ h => h.elim) ?_
  simp only [List.take_succ_cons, List.take_zero, List.drop_succ_cons, List.drop_zero]
  iterate 18
   apply Yao rfl rfl
   ·intro K hK w1 hB1
    obtain ⟨c0, c1, c2, c3⟩ := hB1.h.cells
    have cb := HC.out _ hB1.h.b
    have HB := Yh_ hB1
    clear hB1
    go_wp2_with fail
    first
    |exact hK _ HB.out
    |exact HB.out
   ·exact ⟨_, rfl⟩
  refine Yaw (fun _ w2 hB2 => ?_)
  obtain ⟨c0, c1, c2, c3⟩ := hB2.h.cells
  have f2 := Yh hB2.h.h
  have H2 := Yh_ hB2
  clear hB2 H1
  go_wp2_with (have _t := H2; clear _t; refine Ye 42 rfl ?_; refine Yb Ins.zero (w.heap.size) rfl _ _ rfl rfl rfl (H2.out).r (H2.out).z ?_; intro w3 hw; have H3 := Yh_ ((H2.out).store hw); clear hw H2)
  exact bodyPost_ret (Yg rfl (Yi 4 (w.heap.size) _ rfl H3.out.r) (Yk 5 rfl)) rfl ⟨rfl, H3.out.h, H3.out.u⟩
theorem Yrq (d g : Nat) (s : Rd) (v : Value) (L : List Int) (w : World) (hD : Yl w d v L g s) (k : Nat) (sh : Bool) (hs : s = ⟨k, sh, false⟩) (hl : 1 < L.length)  :
  Calls Tryz.prog 74 #[.pointer (some ⟨d, 0, none⟩), .int .u8 141] w (Yr d v L g w ⟨Ins.zero, false, ⟨k, sh, false⟩⟩) := by
 subst hs
 obtain ⟨ao, sc, rfl, hsc⟩ : ∃ ao c, v = .slice (some ⟨g, ao, none⟩) L.length c ∧ L.length ≤ c := by
  rcases hD.b with ⟨_, h1⟩ | ⟨ao, c, _, _, _, h1, _⟩
  ·rw [h1] at hl; simp at hl
  ·exact ⟨ao, c, h1, hD.c _ _ _ h1⟩
 have hL := hD.r
 have hx := hL 1
 have hls := hD.n
 unfold maxLen at hls
 have q1 : decide ((L.length : Int) < 2) = false := by simp; omega
 have q2 : decide (L.length < 2) = false := by simp; omega
 have q3 : 1 < L.length := hl
 have HC := Yh_ (fun (W : World) (hb : Ybz W (.slice (some ⟨g, ao, none⟩) L.length sc) L g) => Ybs W hl hb)
 obtain ⟨x, hxe⟩ : ∃ x, L.getD 1 0 = x := ⟨_, rfl⟩
 rw [hxe] at hx HC
 have q4 := Ybv x hx
 obtain ⟨n, hn⟩ : ∃ n, x / 8 % 8 = n := ⟨_, rfl⟩
 obtain ⟨md, hmd⟩ : ∃ md, x / 64 = md := ⟨_, rfl⟩
 have hn8 : 0 ≤ n ∧ n < 8 := by omega
 rw [hn] at q4
 have q5 : x / 64 = md := hmd
 clear hn hmd hxe
 have c0 := Ya (Yc (.cells #[.int .i64 0, .int .i64 0, .int .i64 0, .int .i64 0, .int .u32 0, .int .i64 0, .int .i64 0, .int .u32 0, .int .i64 0, .int .i64 0, .int .u32 0, .int .i64 0, .int .i64 0, .int .u32 0, .bool false, .int .i64 0] 42) hD.h)
 have H1 := Yh_ (RiS.start hD)
 clear hD hl hx hls hL
 go_enter Tryz.func74, Tryz.ntmps74
 go_wp2_with fail
 clear c0
 have HQ := Yh_ q5
 refine Ybc 18 (RiS w d (.slice (some ⟨g, ao, none⟩) L.length sc) L g ⟨k, sh, false⟩ w.heap.size Ins.zero.cells) (fun _ _ => False) (by kernel_rfl) (by kernel_rfl) (H1.out.step (Upd.refl [] _).drew) (fun _ _ _ h => h.elim) ?_
 simp only [List.take_succ_cons, List.take_zero, List.drop_succ_cons, List.drop_zero]
 iterate 18
  apply Yao rfl rfl
  ·intro K hK w1 hB1
   obtain ⟨c0, c1, c2, c3⟩ := hB1.h.cells
   have cb := HC.out _ hB1.h.b
   have HB := Yh_ hB1
   clear hB1
   go_wp2_with fail
   first
   |exact hK _ HB.out
   |exact HB.out
  ·exact ⟨_, rfl⟩
 refine Yaw (fun _ w2 hB2 => ?_)
 obtain ⟨c0, c1, c2, c3⟩ := hB2.h.cells
 have f2 := Yh hB2.h.h
 have H2 := Yh_ hB2
 clear hB2 H1
 go_wp2_with (have _t := H2; clear _t; refine Ye 42 rfl ?_; refine Yb Ins.zero (w.heap.size) rfl _ _ rfl rfl rfl (H2.out).r (H2.out).z ?_; intro w3 hw; have H3 := Yh_ ((H2.out).store hw); clear hw H2)
 exact bodyPost_ret (Yg rfl (Yi 4 (w.heap.size) _ rfl H3.out.r) (Yk 5 rfl)) rfl ⟨rfl, H3.out.h, H3.out.u⟩
theorem Yg32 : (∀ (d g : Nat) (s : Rd) (v : Value) (L : List Int) (w : World) (hD : Yl w d v L g s) (k : Nat) (sh : Bool) (hs : s = ⟨k, sh, false⟩) (hl : 1 < L.length) (hc : Yaa (L.getD 1 0 / 8 % 8) = 0), Calls Tryz.prog 74 #[.pointer (some ⟨d, 0, none⟩), .int .u8 193] w (Yr d v L g w ⟨Ins.zero, true, ⟨k, false, false⟩⟩)) ∧
 (∀ (d g : Nat) (s : Rd) (v : Value) (L : List Int) (w : World) (hD : Yl w d v L g s) (k : Nat) (sh : Bool) (hs : s = ⟨k, sh, false⟩) (hl : 1 < L.length) (hc : Yaa (L.getD 1 0 / 8 % 8) = 0), Calls Tryz.prog 74 #[.pointer (some ⟨d, 0, none⟩), .int .u8 209] w (Yr d v L g w ⟨Ins.zero, true, ⟨k, false, false⟩⟩)) ∧
 (∀ (d g : Nat) (s : Rd) (v : Value) (L : List Int) (w : World) (hD : Yl w d v L g s) (k : Nat) (sh : Bool) (hs : s = ⟨k, sh, false⟩) (hl : 1 < L.length) (hc : Yaa (L.getD 1 0 / 8 % 8) = 0), Calls Tryz.prog 74 #[.pointer (some ⟨d, 0, none⟩), .int .u8 211] w (Yr d v L g w ⟨Ins.zero, true, ⟨k, false, false⟩⟩)) := by
 refine ⟨fun d g s v L w hD k sh hs hl hc => ?_, fun d g s v L w hD k sh hs hl hc => ?_, fun d g s v L w hD k sh hs hl hc => ?_⟩
 all_goals
  subst hs
  obtain ⟨ao, sc, rfl, hsc⟩ : ∃ ao c, v = .slice (some ⟨g, ao, none⟩) L.length c ∧ L.length ≤ c := by
   rcases hD.b with ⟨_, h1⟩ | ⟨ao, c, _, _, _, h1, _⟩
   ·rw [h1] at hl; simp at hl
   ·exact ⟨ao, c, h1, hD.c _ _ _ h1⟩
  have hL := hD.r
  have hx := hL 1
  have hls := hD.n
  unfold maxLen at hls
  have q1 : decide ((L.length : Int) < 2) = false := by simp; omega
  have q2 : decide (L.length < 2) = false := by simp; omega
  have q3 : 1 < L.length := hl
  have HC := Yh_ (fun (W : World) (hb : Ybz W (.slice (some ⟨g, ao, none⟩) L.length sc) L g) => Ybs W hl hb)
  obtain ⟨x, hxe⟩ : ∃ x, L.getD 1 0 = x := ⟨_, rfl⟩
  rw [hxe] at hx HC
  rw [hxe] at hc
  have q4 := Ybv x hx
  obtain ⟨n, hn⟩ : ∃ n, x / 8 % 8 = n := ⟨_, rfl⟩
  obtain ⟨md, hmd⟩ : ∃ md, x / 64 = md := ⟨_, rfl⟩
  have hn8 : 0 ≤ n ∧ n < 8 := by omega
  rw [hn] at q4 hc
  have q5 : x / 64 = md := hmd
  clear hn hmd hxe
  have c0 := Ya (Yc (.cells #[.int .i64 0, .int .i64 0, .int .i64 0, .int .i64 0, .int .u32 0, .int .i64 0, .int .i64 0, .int .u32 0, .int .i64 0, .int .i64 0, .int .u32 0, .int .i64 0, .int .i64 0, .int .u32 0, .bool false, .int .i64 0] 42) hD.h)
  have hix := fun w : World => Ydf hn8.1 hn8.2 w
  rw [hc] at hix
  have H1 := Yh_ (RiS.start hD)
  clear hD hl hx hls hL hc
  go_enter Tryz.func74, Tryz.ntmps74
  go_wp2_with fail
  clear c0
  have HQ := Yh_ q5
  refine Ybc 18 (RiS w d (.slice (some ⟨g, ao, none⟩) L.length sc) L g ⟨k, sh, false⟩ w.heap.size Ins.zero.cells) (fun _ _ => False) (by kernel_rfl) (by kernel_rfl) (H1.out.step (Upd.refl [] _).drew) (fun _ _ _ h => h.elim) ?_
  simp only [List.take_succ_cons, List.take_zero, List.drop_succ_cons, List.drop_zero]
  iterate 18
   apply Yao rfl rfl
   ·intro K hK w1 hB1
    obtain ⟨c0, c1, c2, c3⟩ := hB1.h.cells
    have cb := HC.out _ hB1.h.b
    have HB := Yh_ hB1
    clear hB1
    go_wp2_with fail
    first
    |exact hK _ HB.out
    |exact HB.out
   ·exact ⟨_, rfl⟩
  refine Yaw (fun _ w2 hB2 => ?_)
  obtain ⟨c0, c1, c2, c3⟩ := hB2.h.cells
  have f2 := Yh hB2.h.h
  have H2 := Yh_ hB2
  clear hB2 H1
  go_wp2_with (first | (go_at_call 75; refine (Ych _).mono ?_; rintro e w3 ⟨rfl, hu⟩; have H3 := Yh_ (H2.out.step hu); obtain ⟨c0, c1, c2, c3⟩ := H3.out.h.cells; have f3 := Yh H3.out.h.h; clear hu H2 f2) | (have _t := H3; clear _t; refine Ye 42 rfl ?_; refine Yb Ins.zero (w.heap.size) rfl _ _ rfl rfl rfl (((H3.out).setS false)).r (((H3.out).setS false)).z ?_; intro w4 hw; have H4 := Yh_ ((((H3.out).setS false)).store hw); clear hw H3))
  exact bodyPost_ret (Yg rfl (Yi 4 (w.heap.size) _ rfl H4.out.r) (Yk 5 rfl)) rfl ⟨rfl, H4.out.h, H4.out.u⟩
theorem Yg33 : (∀ (d g : Nat) (s : Rd) (v : Value) (L : List Int) (w : World) (hD : Yl w d v L g s) (k : Nat) (sh : Bool) (hs : s = ⟨k, sh, false⟩) (hl : 1 < L.length) (hc : Yaa (L.getD 1 0 / 8 % 8) ≠ 0), Calls Tryz.prog 74 #[.pointer (some ⟨d, 0, none⟩), .int .u8 193] w (Yr d v L g w ⟨Ins.zero, false, ⟨k, sh, false⟩⟩)) ∧
 (∀ (d g : Nat) (s : Rd) (v : Value) (L : List Int) (w : World) (hD : Yl w d v L g s) (k : Nat) (sh : Bool) (hs : s = ⟨k, sh, false⟩) (hl : 1 < L.length) (hc : Yaa (L.getD 1 0 / 8 % 8) ≠ 0), Calls Tryz.prog 74 #[.pointer (some ⟨d, 0, none⟩), .int .u8 209] w (Yr d v L g w ⟨Ins.zero, false, ⟨k, sh, false⟩⟩)) ∧
 (∀ (d g : Nat) (s : Rd) (v : Value) (L : List Int) (w : World) (hD : Yl w d v L g s) (k : Nat) (sh : Bool) (hs : s = ⟨k, sh, false⟩) (hl : 1 < L.length) (hc : Yaa (L.getD 1 0 / 8 % 8) ≠ 0), Calls Tryz.prog 74 #[.pointer (some ⟨d, 0, none⟩), .int .u8 211] w (Yr d v L g w ⟨Ins.zero, false, ⟨k, sh, false⟩⟩)) := by
 refine ⟨fun d g s v L w hD k sh hs hl hc => ?_, fun d g s v L w hD k sh hs hl hc => ?_, fun d g s v L w hD k sh hs hl hc => ?_⟩
 all_goals
  subst hs
  obtain ⟨ao, sc, rfl, hsc⟩ : ∃ ao c, v = .slice (some ⟨g, ao, none⟩) L.length c ∧ L.length ≤ c := by
   rcases hD.b with ⟨_, h1⟩ | ⟨ao, c, _, _, _, h1, _⟩
   ·rw [h1] at hl; simp at hl
   ·exact ⟨ao, c, h1, hD.c _ _ _ h1⟩
  have hL := hD.r
  have hx := hL 1
  have hls := hD.n
  unfold maxLen at hls
  have q1 : decide ((L.length : Int) < 2) = false := by simp; omega
  have q2 : decide (L.length < 2) = false := by simp; omega
  have q3 : 1 < L.length := hl
  have HC := Yh_ (fun (W : World) (hb : Ybz W (.slice (some ⟨g, ao, none⟩) L.length sc) L g) => Ybs W hl hb)
  obtain ⟨x, hxe⟩ : ∃ x, L.getD 1 0 = x := ⟨_, rfl⟩
  rw [hxe] at hx HC
  rw [hxe] at hc
  have q4 := Ybv x hx
  obtain ⟨n, hn⟩ : ∃ n, x / 8 % 8 = n := ⟨_, rfl⟩
  obtain ⟨md, hmd⟩ : ∃ md, x / 64 = md := ⟨_, rfl⟩
  have hn8 : 0 ≤ n ∧ n < 8 := by omega
  rw [hn] at q4 hc
  have q5 : x / 64 = md := hmd
  clear hn hmd hxe
  have c0 := Ya (Yc (.cells #[.int .i64 0, .int .i64 0, .int .i64 0, .int .i64 0, .int .u32 0, .int .i64 0, .int .i64 0, .int .u32 0, .int .i64 0, .int .i64 0, .int .u32 0, .int .i64 0, .int .i64 0, .int .u32 0, .bool false, .int .i64 0] 42) hD.h)
  have hix := fun w : World => Ydf hn8.1 hn8.2 w
  have q7 : (Yaa n == 0) = false := by simpa using hc
  have H1 := Yh_ (RiS.start hD)
  clear hD hl hx hls hL hc
  go_enter Tryz.func74, Tryz.ntmps74
  go_wp2_with fail
  clear c0
  have HQ := Yh_ q5
  refine Ybc 18 (RiS w d (.slice (some ⟨g, ao, none⟩) L.length sc) L g ⟨k, sh, false⟩ w.heap.size Ins.zero.cells) (fun _ _ => False) (by kernel_rfl) (by kernel_rfl) (H1.out.step (Upd.refl [] _).drew) (fun _ _ _ h => h.elim) ?_
  simp only [List.take_succ_cons, List.take_zero, List.drop_succ_cons, List.drop_zero]
  iterate 18
   apply Yao rfl rfl
   ·intro K hK w1 hB1
    obtain ⟨c0, c1, c2, c3⟩ := hB1.h.cells
    have cb := HC.out _ hB1.h.b
    have HB := Yh_ hB1
    clear hB1
    go_wp2_with fail
    first
    |exact hK _ HB.out
    |exact HB.out
   ·exact ⟨_, rfl⟩
  refine Yaw (fun _ w2 hB2 => ?_)
  obtain ⟨c0, c1, c2, c3⟩ := hB2.h.cells
  have f2 := Yh hB2.h.h
  have H2 := Yh_ hB2
  clear hB2 H1
  go_wp2_with (first | (go_at_call 75; refine (Ych _).mono ?_; rintro e w3 ⟨rfl, hu⟩; have H3 := Yh_ (H2.out.step hu); obtain ⟨c0, c1, c2, c3⟩ := H3.out.h.cells; have f3 := Yh H3.out.h.h; clear hu H2 f2) | (have _t := H3; clear _t; refine Ye 42 rfl ?_; refine Yb Ins.zero (w.heap.size) rfl _ _ rfl rfl rfl (H3.out).r (H3.out).z ?_; intro w4 hw; have H4 := Yh_ ((H3.out).store hw); clear hw H3))
  exact bodyPost_ret (Yg rfl (Yi 4 (w.heap.size) _ rfl H4.out.r) (Yk 5 rfl)) rfl ⟨rfl, H4.out.h, H4.out.u⟩
theorem Ysv (d g : Nat) (s : Rd) (v : Value) (L : List Int) (w : World) (hD : Yl w d v L g s) (k : Nat) (sh : Bool) (hs : s = ⟨k, sh, false⟩) (hl : 1 < L.length)  :
  Calls Tryz.prog 74 #[.pointer (some ⟨d, 0, none⟩), .int .u8 217] w (Yr d v L g w ⟨Ins.zero, true, ⟨k, false, false⟩⟩) := by
 subst hs
 obtain ⟨ao, sc, rfl, hsc⟩ : ∃ ao c, v = .slice (some ⟨g, ao, none⟩) L.length c ∧ L.length ≤ c := by
  rcases hD.b with ⟨_, h1⟩ | ⟨ao, c, _, _, _, h1, _⟩
  ·rw [h1] at hl; simp at hl
  ·exact ⟨ao, c, h1, hD.c _ _ _ h1⟩
 have hL := hD.r
 have hx := hL 1
 have hls := hD.n
 unfold maxLen at hls
 have q1 : decide ((L.length : Int) < 2) = false := by simp; omega
 have q2 : decide (L.length < 2) = false := by simp; omega
 have q3 : 1 < L.length := hl
 have HC := Yh_ (fun (W : World) (hb : Ybz W (.slice (some ⟨g, ao, none⟩) L.length sc) L g) => Ybs W hl hb)
 obtain ⟨x, hxe⟩ : ∃ x, L.getD 1 0 = x := ⟨_, rfl⟩
 rw [hxe] at hx HC
 have q4 := Ybv x hx
 obtain ⟨n, hn⟩ : ∃ n, x / 8 % 8 = n := ⟨_, rfl⟩
 obtain ⟨md, hmd⟩ : ∃ md, x / 64 = md := ⟨_, rfl⟩
 have hn8 : 0 ≤ n ∧ n < 8 := by omega
 rw [hn] at q4
 have q5 : x / 64 = md := hmd
 clear hn hmd hxe
 have c0 := Ya (Yc (.cells #[.int .i64 0, .int .i64 0, .int .i64 0, .int .i64 0, .int .u32 0, .int .i64 0, .int .i64 0, .int .u32 0, .int .i64 0, .int .i64 0, .int .u32 0, .int .i64 0, .int .i64 0, .int .u32 0, .bool false, .int .i64 0] 42) hD.h)
 have H1 := Yh_ (RiS.start hD)
 clear hD hl hx hls hL
 go_enter Tryz.func74, Tryz.ntmps74
 go_wp2_with fail
 clear c0
 have HQ := Yh_ q5
 refine Ybc 18 (RiS w d (.slice (some ⟨g, ao, none⟩) L.length sc) L g ⟨k, sh, false⟩ w.heap.size Ins.zero.cells) (fun _ _ => False) (by kernel_rfl) (by kernel_rfl) (H1.out.step (Upd.refl [] _).drew) (fun _ _ _ h => h.elim) ?_
 simp only [List.take_succ_cons, List.take_zero, List.drop_succ_cons, List.drop_zero]
 iterate 18
  apply Yao rfl rfl
  ·intro K hK w1 hB1
   obtain ⟨c0, c1, c2, c3⟩ := hB1.h.cells
   have cb := HC.out _ hB1.h.b
   have HB := Yh_ hB1
   clear hB1
   go_wp2_with fail
   first
   |exact hK _ HB.out
   |exact HB.out
  ·exact ⟨_, rfl⟩
 refine Yaw (fun _ w2 hB2 => ?_)
 obtain ⟨c0, c1, c2, c3⟩ := hB2.h.cells
 have f2 := Yh hB2.h.h
 have H2 := Yh_ hB2
 clear hB2 H1
 go_wp2_with (have _t := H2; clear _t; refine Ye 42 rfl ?_; refine Yb Ins.zero (w.heap.size) rfl _ _ rfl rfl rfl (((H2.out).setS false)).r (((H2.out).setS false)).z ?_; intro w3 hw; have H3 := Yh_ ((((H2.out).setS false)).store hw); clear hw H2)
 exact bodyPost_ret (Yg rfl (Yi 4 (w.heap.size) _ rfl H3.out.r) (Yk 5 rfl)) rfl ⟨rfl, H3.out.h, H3.out.u⟩
theorem Ymo (d g : Nat) (s : Rd) (v : Value) (L : List Int) (w : World) (hD : Yl w d v L g s) (k : Nat) (sh : Bool) (hs : s = ⟨k, sh, false⟩) (hl : 1 < L.length) (hc : Yar (L.getD 1 0 / 8 % 8) = 0) :
  Calls Tryz.prog 74 #[.pointer (some ⟨d, 0, none⟩), .int .u8 220] w (Yr d v L g w ⟨Ins.zero, true, ⟨k, false, false⟩⟩) := by
 subst hs
 obtain ⟨ao, sc, rfl, hsc⟩ : ∃ ao c, v = .slice (some ⟨g, ao, none⟩) L.length c ∧ L.length ≤ c := by
  rcases hD.b with ⟨_, h1⟩ | ⟨ao, c, _, _, _, h1, _⟩
  ·rw [h1] at hl; simp at hl
  ·exact ⟨ao, c, h1, hD.c _ _ _ h1⟩
 have hL := hD.r
 have hx := hL 1
 have hls := hD.n
 unfold maxLen at hls
 have q1 : decide ((L.length : Int) < 2) = false := by simp; omega
 have q2 : decide (L.length < 2) = false := by simp; omega
 have q3 : 1 < L.length := hl
 have HC := Yh_ (fun (W : World) (hb : Ybz W (.slice (some ⟨g, ao, none⟩) L.length sc) L g) => Ybs W hl hb)
 obtain ⟨x, hxe⟩ : ∃ x, L.getD 1 0 = x := ⟨_, rfl⟩
 rw [hxe] at hx HC
 rw [hxe] at hc
 have q4 := Ybv x hx
 obtain ⟨n, hn⟩ : ∃ n, x / 8 % 8 = n := ⟨_, rfl⟩
 obtain ⟨md, hmd⟩ : ∃ md, x / 64 = md := ⟨_, rfl⟩
 have hn8 : 0 ≤ n ∧ n < 8 := by omega
 rw [hn] at q4 hc
 have q5 : x / 64 = md := hmd
 clear hn hmd hxe
 have c0 := Ya (Yc (.cells #[.int .i64 0, .int .i64 0, .int .i64 0, .int .i64 0, .int .u32 0, .int .i64 0, .int .i64 0, .int .u32 0, .int .i64 0, .int .i64 0, .int .u32 0, .int .i64 0, .int .i64 0, .int .u32 0, .bool false, .int .i64 0] 42) hD.h)
 have hix := fun w : World => Ydq hn8.1 hn8.2 w
 rw [hc] at hix
 have H1 := Yh_ (RiS.start hD)
 clear hD hl hx hls hL hc
 go_enter Tryz.func74, Tryz.ntmps74
 go_wp2_with fail
 clear c0
 have HQ := Yh_ q5
 refine Ybc 18 (RiS w d (.slice (some ⟨g, ao, none⟩) L.length sc) L g ⟨k, sh, false⟩ w.heap.size Ins.zero.cells) (fun _ _ => False) (by kernel_rfl) (by kernel_rfl) (H1.out.step (Upd.refl [] _).drew) (fun _ _ _ h => h.elim) ?_
 simp only [List.take_succ_cons, List.take_zero, List.drop_succ_cons, List.drop_zero]
 iterate 18
  apply Yao rfl rfl
  ·intro K hK w1 hB1
   obtain ⟨c0, c1, c2, c3⟩ := hB1.h.cells
   have cb := HC.out _ hB1.h.b
   have HB := Yh_ hB1
   clear hB1
   go_wp2_with fail
   first
   |exact hK _ HB.out
   |exact HB.out
  ·exact ⟨_, rfl⟩
 refine Yaw (fun _ w2 hB2 => ?_)
 obtain ⟨c0, c1, c2, c3⟩ := hB2.h.cells
 have f2 := Yh hB2.h.h
 have H2 := Yh_ hB2
 clear hB2 H1
 go_wp2_with (first | (go_at_call 94; refine (Ydd _).mono ?_; rintro e w3 ⟨rfl, hu⟩; have H3 := Yh_ (H2.out.step hu); obtain ⟨c0, c1, c2, c3⟩ := H3.out.h.cells; have f3 := Yh H3.out.h.h; clear hu H2 f2) | (have _t := H3; clear _t; refine Ye 42 rfl ?_; refine Yb Ins.zero (w.heap.size) rfl _ _ rfl rfl rfl (((H3.out).setS false)).r (((H3.out).setS false)).z ?_; intro w4 hw; have H4 := Yh_ ((((H3.out).setS false)).store hw); clear hw H3))
 exact bodyPost_ret (Yg rfl (Yi 4 (w.heap.size) _ rfl H4.out.r) (Yk 5 rfl)) rfl ⟨rfl, H4.out.h, H4.out.u⟩
theorem Yn2 (d g : Nat) (s : Rd) (v : Value) (L : List Int) (w : World) (hD : Yl w d v L g s) (k : Nat) (sh : Bool) (hs : s = ⟨k, sh, false⟩) (hl : 1 < L.length) (hc : Yar (L.getD 1 0 / 8 % 8) ≠ 0 ∧ L.getD 1 0 / 64 = 3) :
  Calls Tryz.prog 74 #[.pointer (some ⟨d, 0, none⟩), .int .u8 220] w (Yr d v L g w ⟨Ins.zero, true, ⟨k, false, false⟩⟩) := by
 subst hs
 obtain ⟨ao, sc, rfl, hsc⟩ : ∃ ao c, v = .slice (some ⟨g, ao, none⟩) L.length c ∧ L.length ≤ c := by
  rcases hD.b with ⟨_, h1⟩ | ⟨ao, c, _, _, _, h1, _⟩
  ·rw [h1] at hl; simp at hl
  ·exact ⟨ao, c, h1, hD.c _ _ _ h1⟩
 have hL := hD.r
 have hx := hL 1
 have hls := hD.n
 unfold maxLen at hls
 have q1 : decide ((L.length : Int) < 2) = false := by simp; omega
 have q2 : decide (L.length < 2) = false := by simp; omega
 have q3 : 1 < L.length := hl
 have HC := Yh_ (fun (W : World) (hb : Ybz W (.slice (some ⟨g, ao, none⟩) L.length sc) L g) => Ybs W hl hb)
 obtain ⟨x, hxe⟩ : ∃ x, L.getD 1 0 = x := ⟨_, rfl⟩
 rw [hxe] at hx HC
 rw [hxe] at hc
 have q4 := Ybv x hx
 obtain ⟨n, hn⟩ : ∃ n, x / 8 % 8 = n := ⟨_, rfl⟩
 obtain ⟨md, hmd⟩ : ∃ md, x / 64 = md := ⟨_, rfl⟩
 have hn8 : 0 ≤ n ∧ n < 8 := by omega
 rw [hn] at q4 hc
 rw [hmd] at hc
 have q5 : x / 64 = md := hmd
 clear hn hmd hxe
 have c0 := Ya (Yc (.cells #[.int .i64 0, .int .i64 0, .int .i64 0, .int .i64 0, .int .u32 0, .int .i64 0, .int .i64 0, .int .u32 0, .int .i64 0, .int .i64 0, .int .u32 0, .int .i64 0, .int .i64 0, .int .u32 0, .bool false, .int .i64 0] 42) hD.h)
 have hix := fun w : World => Ydq hn8.1 hn8.2 w
 have q7 : (Yar n == 0) = false := by simpa using hc.1
 obtain rfl : md = 3 := hc.2
 have H1 := Yh_ (RiS.start hD)
 clear hD hl hx hls hL hc
 go_enter Tryz.func74, Tryz.ntmps74
 go_wp2_with fail
 clear c0
 have HQ := Yh_ q5
 refine Ybc 18 (RiS w d (.slice (some ⟨g, ao, none⟩) L.length sc) L g ⟨k, sh, false⟩ w.heap.size Ins.zero.cells) (fun _ _ => False) (by kernel_rfl) (by kernel_rfl) (H1.out.step (Upd.refl [] _).drew) (fun _ _ _ h => h.elim) ?_
 simp only [List.take_succ_cons, List.take_zero, List.drop_succ_cons, List.drop_zero]
 iterate 18
  apply Yao rfl rfl
  ·intro K hK w1 hB1
   obtain ⟨c0, c1, c2, c3⟩ := hB1.h.cells
   have cb := HC.out _ hB1.h.b
   have HB := Yh_ hB1
   clear hB1
   go_wp2_with fail
   first
   |exact hK _ HB.out
   |exact HB.out
  ·exact ⟨_, rfl⟩
 refine Yaw (fun _ w2 hB2 => ?_)
 obtain ⟨c0, c1, c2, c3⟩ := hB2.h.cells
 have f2 := Yh hB2.h.h
 have H2 := Yh_ hB2
 clear hB2 H1
 go_wp2_with (first | (go_at_call 94; refine (Ydd _).mono ?_; rintro e w3 ⟨rfl, hu⟩; have H3 := Yh_ (H2.out.step hu); obtain ⟨c0, c1, c2, c3⟩ := H3.out.h.cells; have f3 := Yh H3.out.h.h; clear hu H2 f2) | (have _t := H3; clear _t; refine Ye 42 rfl ?_; refine Yb Ins.zero (w.heap.size) rfl _ _ rfl rfl rfl (((H3.out).setS false)).r (((H3.out).setS false)).z ?_; intro w4 hw; have H4 := Yh_ ((((H3.out).setS false)).store hw); clear hw H3))
 exact bodyPost_ret (Yg rfl (Yi 4 (w.heap.size) _ rfl H4.out.r) (Yk 5 rfl)) rfl ⟨rfl, H4.out.h, H4.out.u⟩
theorem Ynl (d g : Nat) (s : Rd) (v : Value) (L : List Int) (w : World) (hD : Yl w d v L g s) (k : Nat) (sh : Bool) (hs : s = ⟨k, sh, false⟩) (hl : 1 < L.length) (hc : Yar (L.getD 1 0 / 8 % 8) ≠ 0 ∧ L.getD 1 0 / 64 ≠ 3) :
  Calls Tryz.prog 74 #[.pointer (some ⟨d, 0, none⟩), .int .u8 220] w (Yr d v L g w ⟨Ins.zero, false, ⟨k, sh, false⟩⟩) := by
 subst hs
 obtain ⟨ao, sc, rfl, hsc⟩ : ∃ ao c, v = .slice (some ⟨g, ao, none⟩) L.length c ∧ L.length ≤ c := by
  rcases hD.b with ⟨_, h1⟩ | ⟨ao, c, _, _, _, h1, _⟩
  ·rw [h1] at hl; simp at hl
  ·exact ⟨ao, c, h1, hD.c _ _ _ h1⟩
 have hL := hD.r
 have hx := hL 1
 have hls := hD.n
 unfold maxLen at hls
 have q1 : decide ((L.length : Int) < 2) = false := by simp; omega
 have q2 : decide (L.length < 2) = false := by simp; omega
 have q3 : 1 < L.length := hl
 have HC := Yh_ (fun (W : World) (hb : Ybz W (.slice (some ⟨g, ao, none⟩) L.length sc) L g) => Ybs W hl hb)
 obtain ⟨x, hxe⟩ : ∃ x, L.getD 1 0 = x := ⟨_, rfl⟩
 rw [hxe] at hx HC
 rw [hxe] at hc
 have q4 := Ybv x hx
 obtain ⟨n, hn⟩ : ∃ n, x / 8 % 8 = n := ⟨_, rfl⟩
 obtain ⟨md, hmd⟩ : ∃ md, x / 64 = md := ⟨_, rfl⟩
 have hn8 : 0 ≤ n ∧ n < 8 := by omega
 rw [hn] at q4 hc
 rw [hmd] at hc
 have q5 : x / 64 = md := hmd
 clear hn hmd hxe
 have c0 := Ya (Yc (.cells #[.int .i64 0, .int .i64 0, .int .i64 0, .int .i64 0, .int .u32 0, .int .i64 0, .int .i64 0, .int .u32 0, .int .i64 0, .int .i64 0, .int .u32 0, .int .i64 0, .int .i64 0, .int .u32 0, .bool false, .int .i64 0] 42) hD.h)
 have hix := fun w : World => Ydq hn8.1 hn8.2 w
 have q7 : (Yar n == 0) = false := by simpa using hc.1
 have q8 : (md == 3) = false := by simpa using hc.2
 have H1 := Yh_ (RiS.start hD)
 clear hD hl hx hls hL hc
 go_enter Tryz.func74, Tryz.ntmps74
 go_wp2_with fail
 clear c0
 have HQ := Yh_ q5
 refine Ybc 18 (RiS w d (.slice (some ⟨g, ao, none⟩) L.length sc) L g ⟨k, sh, false⟩ w.heap.size Ins.zero.cells) (fun _ _ => False) (by kernel_rfl) (by kernel_rfl) (H1.out.step (Upd.refl [] _).drew) (fun _ _ _ h => h.elim) ?_
 simp only [List.take_succ_cons, List.take_zero, List.drop_succ_cons, List.drop_zero]
 iterate 18
  apply Yao rfl rfl
  ·intro K hK w1 hB1
   obtain ⟨c0, c1, c2, c3⟩ := hB1.h.cells
   have cb := HC.out _ hB1.h.b
   have HB := Yh_ hB1
   clear hB1
   go_wp2_with fail
   first
   |exact hK _ HB.out
   |exact HB.out
  ·exact ⟨_, rfl⟩
 refine Yaw (fun _ w2 hB2 => ?_)
 obtain ⟨c0, c1, c2, c3⟩ := hB2.h.cells
 have f2 := Yh hB2.h.h
 have H2 := Yh_ hB2
 clear hB2 H1
 go_wp2_with (first | (go_at_call 94; refine (Ydd _).mono ?_; rintro e w3 ⟨rfl, hu⟩; have H3 := Yh_ (H2.out.step hu); obtain ⟨c0, c1, c2, c3⟩ := H3.out.h.cells; have f3 := Yh H3.out.h.h; clear hu H2 f2) | (have _t := H3; clear _t; refine Ye 42 rfl ?_; refine Yb Ins.zero (w.heap.size) rfl _ _ rfl rfl rfl (H3.out).r (H3.out).z ?_; intro w4 hw; have H4 := Yh_ ((H3.out).store hw); clear hw H3))
 exact bodyPost_ret (Yg rfl (Yi 4 (w.heap.size) _ rfl H4.out.r) (Yk 5 rfl)) rfl ⟨rfl, H4.out.h, H4.out.u⟩
theorem Yn4 (d g : Nat) (s : Rd) (v : Value) (L : List Int) (w : World) (hD : Yl w d v L g s) (k : Nat) (sh : Bool) (hs : s = ⟨k, sh, false⟩) (hl : 1 < L.length) (hc : L.getD 1 0 / 8 % 8 = 0) :
  Calls Tryz.prog 74 #[.pointer (some ⟨d, 0, none⟩), .int .u8 221] w (Yr d v L g w ⟨Ins.zero, false, ⟨k, sh, false⟩⟩) := by
 subst hs
 obtain ⟨ao, sc, rfl, hsc⟩ : ∃ ao c, v = .slice (some ⟨g, ao, none⟩) L.length c ∧ L.length ≤ c := by
  rcases hD.b with ⟨_, h1⟩ | ⟨ao, c, _, _, _, h1, _⟩
  ·rw [h1] at hl; simp at hl
  ·exact ⟨ao, c, h1, hD.c _ _ _ h1⟩
 have hL := hD.r
 have hx := hL 1
 have hls := hD.n
 unfold maxLen at hls
 have q1 : decide ((L.length : Int) < 2) = false := by simp; omega
 have q2 : decide (L.length < 2) = false := by simp; omega
 have q3 : 1 < L.length := hl
 have HC := Yh_ (fun (W : World) (hb : Ybz W (.slice (some ⟨g, ao, none⟩) L.length sc) L g) => Ybs W hl hb)
 obtain ⟨x, hxe⟩ : ∃ x, L.getD 1 0 = x := ⟨_, rfl⟩
 rw [hxe] at hx HC
 rw [hxe] at hc
 have q4 := Ybv x hx
 obtain ⟨n, hn⟩ : ∃ n, x / 8 % 8 = n := ⟨_, rfl⟩
 obtain ⟨md, hmd⟩ : ∃ md, x / 64 = md := ⟨_, rfl⟩
 have hn8 : 0 ≤ n ∧ n < 8 := by omega
 rw [hn] at q4 hc
 have q5 : x / 64 = md := hmd
 clear hn hmd hxe
 have c0 := Ya (Yc (.cells #[.int .i64 0, .int .i64 0, .int .i64 0, .int .i64 0, .int .u32 0, .int .i64 0, .int .i64 0, .int .u32 0, .int .i64 0, .int .i64 0, .int .u32 0, .int .i64 0, .int .i64 0, .int .u32 0, .bool false, .int .i64 0] 42) hD.h)
 obtain rfl : n = 0 := hc
 have H1 := Yh_ (RiS.start hD)
 clear hD hl hx hls hL
 go_enter Tryz.func74, Tryz.ntmps74
 go_wp2_with fail
 clear c0
 have HQ := Yh_ q5
 refine Ybc 18 (RiS w d (.slice (some ⟨g, ao, none⟩) L.length sc) L g ⟨k, sh, false⟩ w.heap.size Ins.zero.cells) (fun _ _ => False) (by kernel_rfl) (by kernel_rfl) (H1.out.step (Upd.refl [] _).drew) (fun _ _ _ h => h.elim) ?_
 simp only [List.take_succ_cons, List.take_zero, List.drop_succ_cons, List.drop_zero]
 iterate 18
  apply Yao rfl rfl
  ·intro K hK w1 hB1
   obtain ⟨c0, c1, c2, c3⟩ := hB1.h.cells
   have cb := HC.out _ hB1.h.b
   have HB := Yh_ hB1
   clear hB1
   go_wp2_with fail
   first
   |exact hK _ HB.out
   |exact HB.out
  ·exact ⟨_, rfl⟩
 refine Yaw (fun _ w2 hB2 => ?_)
 obtain ⟨c0, c1, c2, c3⟩ := hB2.h.cells
 have f2 := Yh hB2.h.h
 have H2 := Yh_ hB2
 clear hB2 H1
 go_wp2_with (have _t := H2; clear _t; refine Ye 42 rfl ?_; refine Yb Ins.zero (w.heap.size) rfl _ _ rfl rfl rfl (H2.out).r (H2.out).z ?_; intro w3 hw; have H3 := Yh_ ((H2.out).store hw); clear hw H2)
 exact bodyPost_ret (Yg rfl (Yi 4 (w.heap.size) _ rfl H3.out.r) (Yk 5 rfl)) rfl ⟨rfl, H3.out.h, H3.out.u⟩
theorem Yn9 (d g : Nat) (s : Rd) (v : Value) (L : List Int) (w : World) (hD : Yl w d v L g s) (k : Nat) (sh : Bool) (hs : s = ⟨k, sh, false⟩) (hl : 1 < L.length) (hc : L.getD 1 0 / 8 % 8 = 3) :
  Calls Tryz.prog 74 #[.pointer (some ⟨d, 0, none⟩), .int .u8 221] w (Yr d v L g w ⟨Ins.zero, false, ⟨k, sh, false⟩⟩) := by
 subst hs
 obtain ⟨ao, sc, rfl, hsc⟩ : ∃ ao c, v = .slice (some ⟨g, ao, none⟩) L.length c ∧ L.length ≤ c := by
  rcases hD.b with ⟨_, h1⟩ | ⟨ao, c, _, _, _, h1, _⟩
  ·rw [h1] at hl; simp at hl
  ·exact ⟨ao, c, h1, hD.c _ _ _ h1⟩
 have hL := hD.r
 have hx := hL 1
 have hls := hD.n
 unfold maxLen at hls
 have q1 : decide ((L.length : Int) < 2) = false := by simp; omega
 have q2 : decide (L.length < 2) = false := by simp; omega
 have q3 : 1 < L.length := hl
 have HC := Yh_ (fun (W : World) (hb : Ybz W (.slice (some ⟨g, ao, none⟩) L.length sc) L g) => Ybs W hl hb)
 obtain ⟨x, hxe⟩ : ∃ x, L.getD 1 0 = x := ⟨_, rfl⟩
 rw [hxe] at hx HC
 rw [hxe] at hc
 have q4 := Ybv x hx
 obtain ⟨n, hn⟩ : ∃ n, x / 8 % 8 = n := ⟨_, rfl⟩
 obtain ⟨md, hmd⟩ : ∃ md, x / 64 = md := ⟨_, rfl⟩
 have hn8 : 0 ≤ n ∧ n < 8 := by omega
 rw [hn] at q4 hc
 have q5 : x / 64 = md := hmd
 clear hn hmd hxe
 have c0 := Ya (Yc (.cells #[.int .i64 0, .int .i64 0, .int .i64 0, .int .i64 0, .int .u32 0, .int .i64 0, .int .i64 0, .int .u32 0, .int .i64 0, .int .i64 0, .int .u32 0, .int .i64 0, .int .i64 0, .int .u32 0, .bool false, .int .i64 0] 42) hD.h)
 obtain rfl : n = 3 := hc
 have H1 := Yh_ (RiS.start hD)
 clear hD hl hx hls hL
 go_enter Tryz.func74, Tryz.ntmps74
 go_wp2_with fail
 clear c0
 have HQ := Yh_ q5
 refine Ybc 18 (RiS w d (.slice (some ⟨g, ao, none⟩) L.length sc) L g ⟨k, sh, false⟩ w.heap.size Ins.zero.cells) (fun _ _ => False) (by kernel_rfl) (by kernel_rfl) (H1.out.step (Upd.refl [] _).drew) (fun _ _ _ h => h.elim) ?_
 simp only [List.take_succ_cons, List.take_zero, List.drop_succ_cons, List.drop_zero]
 iterate 18
  apply Yao rfl rfl
  ·intro K hK w1 hB1
   obtain ⟨c0, c1, c2, c3⟩ := hB1.h.cells
   have cb := HC.out _ hB1.h.b
   have HB := Yh_ hB1
   clear hB1
   go_wp2_with fail
   first
   |exact hK _ HB.out
   |exact HB.out
  ·exact ⟨_, rfl⟩
 refine Yaw (fun _ w2 hB2 => ?_)
 obtain ⟨c0, c1, c2, c3⟩ := hB2.h.cells
 have f2 := Yh hB2.h.h
 have H2 := Yh_ hB2
 clear hB2 H1
 go_wp2_with (have _t := H2; clear _t; refine Ye 42 rfl ?_; refine Yb Ins.zero (w.heap.size) rfl _ _ rfl rfl rfl (H2.out).r (H2.out).z ?_; intro w3 hw; have H3 := Yh_ ((H2.out).store hw); clear hw H2)
 exact bodyPost_ret (Yg rfl (Yi 4 (w.heap.size) _ rfl H3.out.r) (Yk 5 rfl)) rfl ⟨rfl, H3.out.h, H3.out.u⟩
theorem Yn6 (d g : Nat) (s : Rd) (v : Value) (L : List Int) (w : World) (hD : Yl w d v L g s) (k : Nat) (sh : Bool) (hs : s = ⟨k, sh, false⟩) (hl : 1 < L.length) (hc : L.getD 1 0 / 8 % 8 ≠ 0 ∧ L.getD 1 0 / 8 % 8 ≠ 3) :
  Calls Tryz.prog 74 #[.pointer (some ⟨d, 0, none⟩), .int .u8 221] w (Yr d v L g w ⟨Ins.zero, true, ⟨k, false, false⟩⟩) := by
 subst hs
 obtain ⟨ao, sc, rfl, hsc⟩ : ∃ ao c, v = .slice (some ⟨g, ao, none⟩) L.length c ∧ L.length ≤ c := by
  rcases hD.b with ⟨_, h1⟩ | ⟨ao, c, _, _, _, h1, _⟩
  ·rw [h1] at hl; simp at hl
  ·exact ⟨ao, c, h1, hD.c _ _ _ h1⟩
 have hL := hD.r
 have hx := hL 1
 have hls := hD.n
 unfold maxLen at hls
 have q1 : decide ((L.length : Int) < 2) = false := by simp; omega
 have q2 : decide (L.length < 2) = false := by simp; omega
 have q3 : 1 < L.length := hl
 have HC := Yh_ (fun (W : World) (hb : Ybz W (.slice (some ⟨g, ao, none⟩) L.length sc) L g) => Ybs W hl hb)
 obtain ⟨x, hxe⟩ : ∃ x, L.getD 1 0 = x := ⟨_, rfl⟩
 rw [hxe] at hx HC
 rw [hxe] at hc
 have q4 := Ybv x hx
 obtain ⟨n, hn⟩ : ∃ n, x / 8 % 8 = n := ⟨_, rfl⟩
 obtain ⟨md, hmd⟩ : ∃ md, x / 64 = md := ⟨_, rfl⟩
 have hn8 : 0 ≤ n ∧ n < 8 := by omega
 rw [hn] at q4 hc
 have q5 : x / 64 = md := hmd
 clear hn hmd hxe
 have c0 := Ya (Yc (.cells #[.int .i64 0, .int .i64 0, .int .i64 0, .int .i64 0, .int .u32 0, .int .i64 0, .int .i64 0, .int .u32 0, .int .i64 0, .int .i64 0, .int .u32 0, .int .i64 0, .int .i64 0, .int .u32 0, .bool false, .int .i64 0] 42) hD.h)
 have q7 : (n != 0) = true := by simpa using hc.1
 have q8 : (n != 3) = true := by simpa using hc.2
 have H1 := Yh_ (RiS.start hD)
 clear hD hl hx hls hL hc
 go_enter Tryz.func74, Tryz.ntmps74
 go_wp2_with fail
 clear c0
 have HQ := Yh_ q5
 refine Ybc 18 (RiS w d (.slice (some ⟨g, ao, none⟩) L.length sc) L g ⟨k, sh, false⟩ w.heap.size Ins.zero.cells) (fun _ _ => False) (by kernel_rfl) (by kernel_rfl) (H1.out.step (Upd.refl [] _).drew) (fun _ _ _ h => h.elim) ?_
 simp only [List.take_succ_cons, List.take_zero, List.drop_succ_cons, List.drop_zero]
 iterate 18
  apply Yao rfl rfl
  ·intro K hK w1 hB1
   obtain ⟨c0, c1, c2, c3⟩ := hB1.h.cells
   have cb := HC.out _ hB1.h.b
   have HB := Yh_ hB1
   clear hB1
   go_wp2_with fail
   first
   |exact hK _ HB.out
   |exact HB.out
  ·exact ⟨_, rfl⟩
 refine Yaw (fun _ w2 hB2 => ?_)
 obtain ⟨c0, c1, c2, c3⟩ := hB2.h.cells
 have f2 := Yh hB2.h.h
 have H2 := Yh_ hB2
 clear hB2 H1
 go_wp2_with (have _t := H2; clear _t; refine Ye 42 rfl ?_; refine Yb Ins.zero (w.heap.size) rfl _ _ rfl rfl rfl (((H2.out).setS false)).r (((H2.out).setS false)).z ?_; intro w3 hw; have H3 := Yh_ ((((H2.out).setS false)).store hw); clear hw H2)
 exact bodyPost_ret (Yg rfl (Yi 4 (w.heap.size) _ rfl H3.out.r) (Yk 5 rfl)) rfl ⟨rfl, H3.out.h, H3.out.u⟩
theorem Ymx (d g : Nat) (s : Rd) (v : Value) (L : List Int) (w : World) (hD : Yl w d v L g s) (k : Nat) (sh : Bool) (hs : s = ⟨k, sh, false⟩) (hl : 1 < L.length) (hc : L.getD 1 0 / 8 % 8 = 1) :
  Calls Tryz.prog 74 #[.pointer (some ⟨d, 0, none⟩), .int .u8 247] w (Yr d v L g w ⟨Ins.zero, true, ⟨k, false, false⟩⟩) := by
 subst hs
 obtain ⟨ao, sc, rfl, hsc⟩ : ∃ ao c, v = .slice (some ⟨g, ao, none⟩) L.length c ∧ L.length ≤ c := by
  rcases hD.b with ⟨_, h1⟩ | ⟨ao, c, _, _, _, h1, _⟩
  ·rw [h1] at hl; simp at hl
  ·exact ⟨ao, c, h1, hD.c _ _ _ h1⟩
 have hL := hD.r
 have hx := hL 1
 have hls := hD.n
 unfold maxLen at hls
 have q1 : decide ((L.length : Int) < 2) = false := by simp; omega
 have q2 : decide (L.length < 2) = false := by simp; omega
 have q3 : 1 < L.length := hl
 have HC := Yh_ (fun (W : World) (hb : Ybz W (.slice (some ⟨g, ao, none⟩) L.length sc) L g) => Ybs W hl hb)
 obtain ⟨x, hxe⟩ : ∃ x, L.getD 1 0 = x := ⟨_, rfl⟩
 rw [hxe] at hx HC
 rw [hxe] at hc
 have q4 := Ybv x hx
 obtain ⟨n, hn⟩ : ∃ n, x / 8 % 8 = n := ⟨_, rfl⟩
 obtain ⟨md, hmd⟩ : ∃ md, x / 64 = md := ⟨_, rfl⟩
 have hn8 : 0 ≤ n ∧ n < 8 := by omega
 rw [hn] at q4 hc
 have q5 : x / 64 = md := hmd
 clear hn hmd hxe
 have c0 := Ya (Yc (.cells #[.int .i64 0, .int .i64 0, .int .i64 0, .int .i64 0, .int .u32 0, .int .i64 0, .int .i64 0, .int .u32 0, .int .i64 0, .int .i64 0, .int .u32 0, .int .i64 0, .int .i64 0, .int .u32 0, .bool false, .int .i64 0] 42) hD.h)
 obtain rfl : n = 1 := hc
 have H1 := Yh_ (RiS.start hD)
 clear hD hl hx hls hL
 go_enter Tryz.func74, Tryz.ntmps74
 go_wp2_with fail
 clear c0
 have HQ := Yh_ q5
 refine Ybc 18 (RiS w d (.slice (some ⟨g, ao, none⟩) L.length sc) L g ⟨k, sh, false⟩ w.heap.size Ins.zero.cells) (fun _ _ => False) (by kernel_rfl) (by kernel_rfl) (H1.out.step (Upd.refl [] _).drew) (fun _ _ _ h => h.elim) ?_
 simp only [List.take_succ_cons, List.take_zero, List.drop_succ_cons, List.drop_zero]
 iterate 18
  apply Yao rfl rfl
  ·intro K hK w1 hB1
   obtain ⟨c0, c1, c2, c3⟩ := hB1.h.cells
   have cb := HC.out _ hB1.h.b
   have HB := Yh_ hB1
   clear hB1
   go_wp2_with fail
   first
   |exact hK _ HB.out
   |exact HB.out
  ·exact ⟨_, rfl⟩
 refine Yaw (fun _ w2 hB2 => ?_)
 obtain ⟨c0, c1, c2, c3⟩ := hB2.h.cells
 have f2 := Yh hB2.h.h
 have H2 := Yh_ hB2
 clear hB2 H1
 go_wp2_with (have _t := H2; clear _t; refine Ye 42 rfl ?_; refine Yb Ins.zero (w.heap.size) rfl _ _ rfl rfl rfl (((H2.out).setS false)).r (((H2.out).setS false)).z ?_; intro w3 hw; have H3 := Yh_ ((((H2.out).setS false)).store hw); clear hw H2)
 exact bodyPost_ret (Yg rfl (Yi 4 (w.heap.size) _ rfl H3.out.r) (Yk 5 rfl)) rfl ⟨rfl, H3.out.h, H3.out.u⟩
theorem Yoj (d g : Nat) (s : Rd) (v : Value) (L : List Int) (w : World) (hD : Yl w d v L g s) (k : Nat) (sh : Bool) (hs : s = ⟨k, sh, false⟩) (hl : 1 < L.length) (hc : L.getD 1 0 / 8 % 8 ≠ 1) :
  Calls Tryz.prog 74 #[.pointer (some ⟨d, 0, none⟩), .int .u8 247] w (Yr d v L g w ⟨Ins.zero, false, ⟨k, sh, false⟩⟩) := by
 subst hs
 obtain ⟨ao, sc, rfl, hsc⟩ : ∃ ao c, v = .slice (some ⟨g, ao, none⟩) L.length c ∧ L.length ≤ c := by
  rcases hD.b with ⟨_, h1⟩ | ⟨ao, c, _, _, _, h1, _⟩
  ·rw [h1] at hl; simp at hl
  ·exact ⟨ao, c, h1, hD.c _ _ _ h1⟩
 have hL := hD.r
 have hx := hL 1
 have hls := hD.n
 unfold maxLen at hls
 have q1 : decide ((L.length : Int) < 2) = false := by simp; omega
 have q2 : decide (L.length < 2) = false := by simp; omega
 have q3 : 1 < L.length := hl
 have HC := Yh_ (fun (W : World) (hb : Ybz W (.slice (some ⟨g, ao, none⟩) L.length sc) L g) => Ybs W hl hb)
 obtain ⟨x, hxe⟩ : ∃ x, L.getD 1 0 = x := ⟨_, rfl⟩
 rw [hxe] at hx HC
 rw [hxe] at hc
 have q4 := Ybv x hx
 obtain ⟨n, hn⟩ : ∃ n, x / 8 % 8 = n := ⟨_, rfl⟩
 obtain ⟨md, hmd⟩ : ∃ md, x / 64 = md := ⟨_, rfl⟩
 have hn8 : 0 ≤ n ∧ n < 8 := by omega
 rw [hn] at q4 hc
 have q5 : x / 64 = md := hmd
 clear hn hmd hxe
 have c0 := Ya (Yc (.cells #[.int .i64 0, .int .i64 0, .int .i64 0, .int .i64 0, .int .u32 0, .int .i64 0, .int .i64 0, .int .u32 0, .int .i64 0, .int .i64 0, .int .u32 0, .int .i64 0, .int .i64 0, .int .u32 0, .bool false, .int .i64 0] 42) hD.h)
 have q7 : (n == 1) = false := by simpa using hc
 have H1 := Yh_ (RiS.start hD)
 clear hD hl hx hls hL hc
 go_enter Tryz.func74, Tryz.ntmps74
 go_wp2_with fail
 clear c0
 have HQ := Yh_ q5
 refine Ybc 18 (RiS w d (.slice (some ⟨g, ao, none⟩) L.length sc) L g ⟨k, sh, false⟩ w.heap.size Ins.zero.cells) (fun _ _ => False) (by kernel_rfl) (by kernel_rfl) (H1.out.step (Upd.refl [] _).drew) (fun _ _ _ h => h.elim) ?_
 simp only [List.take_succ_cons, List.take_zero, List.drop_succ_cons, List.drop_zero]
 iterate 18
  apply Yao rfl rfl
  ·intro K hK w1 hB1
   obtain ⟨c0, c1, c2, c3⟩ := hB1.h.cells
   have cb := HC.out _ hB1.h.b
   have HB := Yh_ hB1
   clear hB1
   go_wp2_with fail
   first
   |exact hK _ HB.out
   |exact HB.out
  ·exact ⟨_, rfl⟩
 refine Yaw (fun _ w2 hB2 => ?_)
 obtain ⟨c0, c1, c2, c3⟩ := hB2.h.cells
 have f2 := Yh hB2.h.h
 have H2 := Yh_ hB2
 clear hB2 H1
 go_wp2_with (have _t := H2; clear _t; refine Ye 42 rfl ?_; refine Yb Ins.zero (w.heap.size) rfl _ _ rfl rfl rfl (H2.out).r (H2.out).z ?_; intro w3 hw; have H3 := Yh_ ((H2.out).store hw); clear hw H2)
 exact bodyPost_ret (Yg rfl (Yi 4 (w.heap.size) _ rfl H3.out.r) (Yk 5 rfl)) rfl ⟨rfl, H3.out.h, H3.out.u⟩
theorem Yok (d g : Nat) (s : Rd) (v : Value) (L : List Int) (w : World) (hD : Yl w d v L g s) (k : Nat) (sh : Bool) (hs : s = ⟨k, sh, false⟩) (hl : 1 < L.length) (hc : L.getD 1 0 / 8 % 8 = 3) :
  Calls Tryz.prog 74 #[.pointer (some ⟨d, 0, none⟩), .int .u8 255] w (Yr d v L g w ⟨Ins.zero, true, ⟨k, false, false⟩⟩) := by
 subst hs
 obtain ⟨ao, sc, rfl, hsc⟩ : ∃ ao c, v = .slice (some ⟨g, ao, none⟩) L.length c ∧ L.length ≤ c := by
  rcases hD.b with ⟨_, h1⟩ | ⟨ao, c, _, _, _, h1, _⟩
  ·rw [h1] at hl; simp at hl
  ·exact ⟨ao, c, h1, hD.c _ _ _ h1⟩
 have hL := hD.r
 have hx := hL 1
 have hls := hD.n
 unfold maxLen at hls
 have q1 : decide ((L.length : Int) < 2) = false := by simp; omega
 have q2 : decide (L.length < 2) = false := by simp; omega
 have q3 : 1 < L.length := hl
 have HC := Yh_ (fun (W : World) (hb : Ybz W (.slice (some ⟨g, ao, none⟩) L.length sc) L g) => Ybs W hl hb)
 obtain ⟨x, hxe⟩ : ∃ x, L.getD 1 0 = x := ⟨_, rfl⟩
 rw [hxe] at hx HC
 rw [hxe] at hc
 have q4 := Ybv x hx
 obtain ⟨n, hn⟩ : ∃ n, x / 8 % 8 = n := ⟨_, rfl⟩
 obtain ⟨md, hmd⟩ : ∃ md, x / 64 = md := ⟨_, rfl⟩
 have hn8 : 0 ≤ n ∧ n < 8 := by omega
 rw [hn] at q4 hc
 have q5 : x / 64 = md := hmd
 clear hn hmd hxe
 have c0 := Ya (Yc (.cells #[.int .i64 0, .int .i64 0, .int .i64 0, .int .i64 0, .int .u32 0, .int .i64 0, .int .i64 0, .int .u32 0, .int .i64 0, .int .i64 0, .int .u32 0, .int .i64 0, .int .i64 0, .int .u32 0, .bool false, .int .i64 0] 42) hD.h)
 obtain rfl : n = 3 := hc
 have H1 := Yh_ (RiS.start hD)
 clear hD hl hx hls hL
 go_enter Tryz.func74, Tryz.ntmps74
 go_wp2_with fail
 clear c0
 have HQ := Yh_ q5
 refine Ybc 18 (RiS w d (.slice (some ⟨g, ao, none⟩) L.length sc) L g ⟨k, sh, false⟩ w.heap.size Ins.zero.cells) (fun _ _ => False) (by kernel_rfl) (by kernel_rfl) (H1.out.step (Upd.refl [] _).drew) (fun _ _ _ h => h.elim) ?_
 simp only [List.take_succ_cons, List.take_zero, List.drop_succ_cons, List.drop_zero]
 iterate 18
  apply Yao rfl rfl
  ·intro K hK w1 hB1
   obtain ⟨c0, c1, c2, c3⟩ := hB1.h.cells
   have cb := HC.out _ hB1.h.b
   have HB := Yh_ hB1
   clear hB1
   go_wp2_with fail
   first
   |exact hK _ HB.out
   |exact HB.out
  ·exact ⟨_, rfl⟩
 refine Yaw (fun _ w2 hB2 => ?_)
 obtain ⟨c0, c1, c2, c3⟩ := hB2.h.cells
 have f2 := Yh hB2.h.h
 have H2 := Yh_ hB2
 clear hB2 H1
 go_wp2_with (have _t := H2; clear _t; refine Ye 42 rfl ?_; refine Yb Ins.zero (w.heap.size) rfl _ _ rfl rfl rfl (((H2.out).setS false)).r (((H2.out).setS false)).z ?_; intro w3 hw; have H3 := Yh_ ((((H2.out).setS false)).store hw); clear hw H2)
 exact bodyPost_ret (Yg rfl (Yi 4 (w.heap.size) _ rfl H3.out.r) (Yk 5 rfl)) rfl ⟨rfl, H3.out.h, H3.out.u⟩
theorem Yne (d g : Nat) (s : Rd) (v : Value) (L : List Int) (w : World) (hD : Yl w d v L g s) (k : Nat) (sh : Bool) (hs : s = ⟨k, sh, false⟩) (hl : 1 < L.length) (hc : L.getD 1 0 / 8 % 8 = 5) :
  Calls Tryz.prog 74 #[.pointer (some ⟨d, 0, none⟩), .int .u8 255] w (Yr d v L g w ⟨Ins.zero, true, ⟨k, false, false⟩⟩) := by
 subst hs
 obtain ⟨ao, sc, rfl, hsc⟩ : ∃ ao c, v = .slice (some ⟨g, ao, none⟩) L.length c ∧ L.length ≤ c := by
  rcases hD.b with ⟨_, h1⟩ | ⟨ao, c, _, _, _, h1, _⟩
  ·rw [h1] at hl; simp at hl
  ·exact ⟨ao, c, h1, hD.c _ _ _ h1⟩
 have hL := hD.r
 have hx := hL 1
 have hls := hD.n
 unfold maxLen at hls
 have q1 : decide ((L.length : Int) < 2) = false := by simp; omega
 have q2 : decide (L.length < 2) = false := by simp; omega
 have q3 : 1 < L.length := hl
 have HC := Yh_ (fun (W : World) (hb : Ybz W (.slice (some ⟨g, ao, none⟩) L.length sc) L g) => Ybs W hl hb)
 obtain ⟨x, hxe⟩ : ∃ x, L.getD 1 0 = x := ⟨_, rfl⟩
 rw [hxe] at hx HC
 rw [hxe] at hc
 have q4 := Ybv x hx
 obtain ⟨n, hn⟩ : ∃ n, x / 8 % 8 = n := ⟨_, rfl⟩
 obtain ⟨md, hmd⟩ : ∃ md, x / 64 = md := ⟨_, rfl⟩
 have hn8 : 0 ≤ n ∧ n < 8 := by omega
 rw [hn] at q4 hc
 have q5 : x / 64 = md := hmd
 clear hn hmd hxe
 have c0 := Ya (Yc (.cells #[.int .i64 0, .int .i64 0, .int .i64 0, .int .i64 0, .int .u32 0, .int .i64 0, .int .i64 0, .int .u32 0, .int .i64 0, .int .i64 0, .int .u32 0, .int .i64 0, .int .i64 0, .int .u32 0, .bool false, .int .i64 0] 42) hD.h)
 obtain rfl : n = 5 := hc
 have H1 := Yh_ (RiS.start hD)
 clear hD hl hx hls hL
 go_enter Tryz.func74, Tryz.ntmps74
 go_wp2_with fail
 clear c0
 have HQ := Yh_ q5
 refine Ybc 18 (RiS w d (.slice (some ⟨g, ao, none⟩) L.length sc) L g ⟨k, sh, false⟩ w.heap.size Ins.zero.cells) (fun _ _ => False) (by kernel_rfl) (by kernel_rfl) (H1.out.step (Upd.refl [] _).drew) (fun _ _ _ h => h.elim) ?_
 simp only [List.take_succ_cons, List.take_zero, List.drop_succ_cons, List.drop_zero]
 iterate 18
  apply Yao rfl rfl
  ·intro K hK w1 hB1
   obtain ⟨c0, c1, c2, c3⟩ := hB1.h.cells
   have cb := HC.out _ hB1.h.b
   have HB := Yh_ hB1
   clear hB1
   go_wp2_with fail
   first
   |exact hK _ HB.out
   |exact HB.out
  ·exact ⟨_, rfl⟩
 refine Yaw (fun _ w2 hB2 => ?_)
 obtain ⟨c0, c1, c2, c3⟩ := hB2.h.cells
 have f2 := Yh hB2.h.h
 have H2 := Yh_ hB2
 clear hB2 H1
 go_wp2_with (have _t := H2; clear _t; refine Ye 42 rfl ?_; refine Yb Ins.zero (w.heap.size) rfl _ _ rfl rfl rfl (((H2.out).setS false)).r (((H2.out).setS false)).z ?_; intro w3 hw; have H3 := Yh_ ((((H2.out).setS false)).store hw); clear hw H2)
 exact bodyPost_ret (Yg rfl (Yi 4 (w.heap.size) _ rfl H3.out.r) (Yk 5 rfl)) rfl ⟨rfl, H3.out.h, H3.out.u⟩
theorem Yms (d g : Nat) (s : Rd) (v : Value) (L : List Int) (w : World) (hD : Yl w d v L g s) (k : Nat) (sh : Bool) (hs : s = ⟨k, sh, false⟩) (hl : 1 < L.length) (hc : L.getD 1 0 / 8 % 8 = 7) :
  Calls Tryz.prog 74 #[.pointer (some ⟨d, 0, none⟩), .int .u8 255] w (Yr d v L g w ⟨Ins.zero, false, ⟨k, false, true⟩⟩) := by
 subst hs
 obtain ⟨ao, sc, rfl, hsc⟩ : ∃ ao c, v = .slice (some ⟨g, ao, none⟩) L.length c ∧ L.length ≤ c := by
  rcases hD.b with ⟨_, h1⟩ | ⟨ao, c, _, _, _, h1, _⟩
  ·rw [h1] at hl; simp at hl
  ·exact ⟨ao, c, h1, hD.c _ _ _ h1⟩
 have hL := hD.r
 have hx := hL 1
 have hls := hD.n
 unfold maxLen at hls
 have q1 : decide ((L.length : Int) < 2) = false := by simp; omega
 have q2 : decide (L.length < 2) = false := by simp; omega
 have q3 : 1 < L.length := hl
 have HC := Yh_ (fun (W : World) (hb : Ybz W (.slice (some ⟨g, ao, none⟩) L.length sc) L g) => Ybs W hl hb)
 obtain ⟨x, hxe⟩ : ∃ x, L.getD 1 0 = x := ⟨_, rfl⟩
 rw [hxe] at hx HC
 rw [hxe] at hc
 have q4 := Ybv x hx
 obtain ⟨n, hn⟩ : ∃ n, x / 8 % 8 = n := ⟨_, rfl⟩
 obtain ⟨md, hmd⟩ : ∃ md, x / 64 = md := ⟨_, rfl⟩
 have hn8 : 0 ≤ n ∧ n < 8 := by omega
 rw [hn] at q4 hc
 have q5 : x / 64 = md := hmd
 clear hn hmd hxe
 have c0 := Ya (Yc (.cells #[.int .i64 0, .int .i64 0, .int .i64 0, .int .i64 0, .int .u32 0, .int .i64 0, .int .i64 0, .int .u32 0, .int .i64 0, .int .i64 0, .int .u32 0, .int .i64 0, .int .i64 0, .int .u32 0, .bool false, .int .i64 0] 42) hD.h)
 obtain rfl : n = 7 := hc
 have H1 := Yh_ (RiS.start hD)
 clear hD hl hx hls hL
 go_enter Tryz.func74, Tryz.ntmps74
 go_wp2_with fail
 clear c0
 have HQ := Yh_ q5
 refine Ybc 18 (RiS w d (.slice (some ⟨g, ao, none⟩) L.length sc) L g ⟨k, sh, false⟩ w.heap.size Ins.zero.cells) (fun _ _ => False) (by kernel_rfl) (by kernel_rfl) (H1.out.step (Upd.refl [] _).drew) (fun _ _ _ h => h.elim) ?_
 simp only [List.take_succ_cons, List.take_zero, List.drop_succ_cons, List.drop_zero]
 iterate 18
  apply Yao rfl rfl
  ·intro K hK w1 hB1
   obtain ⟨c0, c1, c2, c3⟩ := hB1.h.cells
   have cb := HC.out _ hB1.h.b
   have HB := Yh_ hB1
   clear hB1
   go_wp2_with fail
   first
   |exact hK _ HB.out
   |exact HB.out
  ·exact ⟨_, rfl⟩
 refine Yaw (fun _ w2 hB2 => ?_)
 obtain ⟨c0, c1, c2, c3⟩ := hB2.h.cells
 have f2 := Yh hB2.h.h
 have H2 := Yh_ hB2
 clear hB2 H1
 go_wp2_with (have _t := H2; clear _t; refine Ye 42 rfl ?_; refine Yb Ins.zero (w.heap.size) rfl _ _ rfl rfl rfl (((((H2.out).setB true)).setS false)).r (((((H2.out).setB true)).setS false)).z ?_; intro w3 hw; have H3 := Yh_ ((((((H2.out).setB true)).setS false)).store hw); clear hw H2)
 exact bodyPost_ret (Yg rfl (Yi 4 (w.heap.size) _ rfl H3.out.r) (Yk 5 rfl)) rfl ⟨rfl, H3.out.h, H3.out.u⟩
theorem Ynk (d g : Nat) (s : Rd) (v : Value) (L : List Int) (w : World) (hD : Yl w d v L g s) (k : Nat) (sh : Bool) (hs : s = ⟨k, sh, false⟩) (hl : 1 < L.length) (hc : L.getD 1 0 / 8 % 8 ≠ 3 ∧ L.getD 1 0 / 8 % 8 ≠ 5 ∧ L.getD 1 0 / 8 % 8 ≠ 7) :
  Calls Tryz.prog 74 #[.pointer (some ⟨d, 0, none⟩), .int .u8 255] w (Yr d v L g w ⟨Ins.zero, false, ⟨k, sh, false⟩⟩) := by
 subst hs
 obtain ⟨ao, sc, rfl, hsc⟩ : ∃ ao c, v = .slice (some ⟨g, ao, none⟩) L.length c ∧ L.length ≤ c := by
  rcases hD.b with ⟨_, h1⟩ | ⟨ao, c, _, _, _, h1, _⟩
  ·rw [h1] at hl; simp at hl
  ·exact ⟨ao, c, h1, hD.c _ _ _ h1⟩
 have hL := hD.r
 have hx := hL 1
 have hls := hD.n
 unfold maxLen at hls
 have q1 : decide ((L.length : Int) < 2) = false := by simp; omega
 have q2 : decide (L.length < 2) = false := by simp; omega
 have q3 : 1 < L.length := hl
 have HC := Yh_ (fun (W : World) (hb : Ybz W (.slice (some ⟨g, ao, none⟩) L.length sc) L g) => Ybs W hl hb)
 obtain ⟨x, hxe⟩ : ∃ x, L.getD 1 0 = x := ⟨_, rfl⟩
 rw [hxe] at hx HC
 rw [hxe] at hc
 have q4 := Ybv x hx
 obtain ⟨n, hn⟩ : ∃ n, x / 8 % 8 = n := ⟨_, rfl⟩
 obtain ⟨md, hmd⟩ : ∃ md, x / 64 = md := ⟨_, rfl⟩
 have hn8 : 0 ≤ n ∧ n < 8 := by omega
 rw [hn] at q4 hc
 have q5 : x / 64 = md := hmd
 clear hn hmd hxe
 have c0 := Ya (Yc (.cells #[.int .i64 0, .int .i64 0, .int .i64 0, .int .i64 0, .int .u32 0, .int .i64 0, .int .i64 0, .int .u32 0, .int .i64 0, .int .i64 0, .int .u32 0, .int .i64 0, .int .i64 0, .int .u32 0, .bool false, .int .i64 0] 42) hD.h)
 have q7 : (n == 3) = false := by simpa using hc.1
 have q8 : (n == 5) = false := by simpa using hc.2.1
 have q9 : (n == 7) = false := by simpa using hc.2.2
 have H1 := Yh_ (RiS.start hD)
 clear hD hl hx hls hL hc
 go_enter Tryz.func74, Tryz.ntmps74
 go_wp2_with fail
 clear c0
 have HQ := Yh_ q5
 refine Ybc 18 (RiS w d (.slice (some ⟨g, ao, none⟩) L.length sc) L g ⟨k, sh, false⟩ w.heap.size Ins.zero.cells) (fun _ _ => False) (by kernel_rfl) (by kernel_rfl) (H1.out.step (Upd.refl [] _).drew) (fun _ _ _ h => h.elim) ?_
 simp only [List.take_succ_cons, List.take_zero, List.drop_succ_cons, List.drop_zero]
 iterate 18
  apply Yao rfl rfl
  ·intro K hK w1 hB1
   obtain ⟨c0, c1, c2, c3⟩ := hB1.h.cells
   have cb := HC.out _ hB1.h.b
   have HB := Yh_ hB1
   clear hB1
   go_wp2_with fail
   first
   |exact hK _ HB.out
   |exact HB.out
  ·exact ⟨_, rfl⟩
 refine Yaw (fun _ w2 hB2 => ?_)
 obtain ⟨c0, c1, c2, c3⟩ := hB2.h.cells
 have f2 := Yh hB2.h.h
 have H2 := Yh_ hB2
 clear hB2 H1
 go_wp2_with (have _t := H2; clear _t; refine Ye 42 rfl ?_; refine Yb Ins.zero (w.heap.size) rfl _ _ rfl rfl rfl (H2.out).r (H2.out).z ?_; intro w3 hw; have H3 := Yh_ ((H2.out).store hw); clear hw H2)
 exact bodyPost_ret (Yg rfl (Yi 4 (w.heap.size) _ rfl H3.out.r) (Yk 5 rfl)) rfl ⟨rfl, H3.out.h, H3.out.u⟩
theorem Yg34 : (∀ (d g : Nat) (s : Rd) (v : Value) (L : List Int) (w : World) (hD : Yl w d v L g s) (k : Nat) (sh : Bool) (hs : s = ⟨k, sh, false⟩) (hl : 1 < L.length) (hc : L.getD 1 0 / 8 % 8 = 0), Calls Tryz.prog 74 #[.pointer (some ⟨d, 0, none⟩), .int .u8 198] w (Yr d v L g w ⟨Ins.zero, false, ⟨k, sh, false⟩⟩)) ∧
 (∀ (d g : Nat) (s : Rd) (v : Value) (L : List Int) (w : World) (hD : Yl w d v L g s) (k : Nat) (sh : Bool) (hs : s = ⟨k, sh, false⟩) (hl : 1 < L.length) (hc : L.getD 1 0 / 8 % 8 = 0), Calls Tryz.prog 74 #[.pointer (some ⟨d, 0, none⟩), .int .u8 199] w (Yr d v L g w ⟨Ins.zero, false, ⟨k, sh, false⟩⟩)) := by
 refine ⟨fun d g s v L w hD k sh hs hl hc => ?_, fun d g s v L w hD k sh hs hl hc => ?_⟩
 all_goals
  subst hs
  obtain ⟨ao, sc, rfl, hsc⟩ : ∃ ao c, v = .slice (some ⟨g, ao, none⟩) L.length c ∧ L.length ≤ c := by
   rcases hD.b with ⟨_, h1⟩ | ⟨ao, c, _, _, _, h1, _⟩
   ·rw [h1] at hl; simp at hl
   ·exact ⟨ao, c, h1, hD.c _ _ _ h1⟩
  have hL := hD.r
  have hx := hL 1
  have hls := hD.n
  unfold maxLen at hls
  have q1 : decide ((L.length : Int) < 2) = false := by simp; omega
  have q2 : decide (L.length < 2) = false := by simp; omega
  have q3 : 1 < L.length := hl
  have HC := Yh_ (fun (W : World) (hb : Ybz W (.slice (some ⟨g, ao, none⟩) L.length sc) L g) => Ybs W hl hb)
  obtain ⟨x, hxe⟩ : ∃ x, L.getD 1 0 = x := ⟨_, rfl⟩
  rw [hxe] at hx HC
  rw [hxe] at hc
  have q4 := Ybv x hx
  obtain ⟨n, hn⟩ : ∃ n, x / 8 % 8 = n := ⟨_, rfl⟩
  obtain ⟨md, hmd⟩ : ∃ md, x / 64 = md := ⟨_, rfl⟩
  have hn8 : 0 ≤ n ∧ n < 8 := by omega
  rw [hn] at q4 hc
  have q5 : x / 64 = md := hmd
  clear hn hmd hxe
  have c0 := Ya (Yc (.cells #[.int .i64 0, .int .i64 0, .int .i64 0, .int .i64 0, .int .u32 0, .int .i64 0, .int .i64 0, .int .u32 0, .int .i64 0, .int .i64 0, .int .u32 0, .int .i64 0, .int .i64 0, .int .u32 0, .bool false, .int .i64 0] 42) hD.h)
  obtain rfl : n = 0 := hc
  have H1 := Yh_ (RiS.start hD)
  clear hD hl hx hls hL
  go_enter Tryz.func74, Tryz.ntmps74
  go_wp2_with fail
  clear c0
  have HQ := Yh_ q5
  refine Ybc 18 (RiS w d (.slice (some ⟨g, ao, none⟩) L.length sc) L g ⟨k, sh, false⟩ w.heap.size Ins.zero.cells) (fun _ _ => False) (by kernel_rfl) (by kernel_rfl) (H1.out.step (Upd.refl [] _).drew) (fun _ _ _ h => h.elim) ?_
  simp only [List.take_succ_cons, List.take_zero, List.drop_succ_cons, List.drop_zero]
  iterate 18
   apply Yao rfl rfl
   ·intro K hK w1 hB1
    obtain ⟨c0, c1, c2, c3⟩ := hB1.h.cells
    have cb := HC.out _ hB1.h.b
    have HB := Yh_ hB1
    clear hB1
    go_wp2_with fail
    first
    |exact hK _ HB.out
    |exact HB.out
   ·exact ⟨_, rfl⟩
  refine Yaw (fun _ w2 hB2 => ?_)
  obtain ⟨c0, c1, c2, c3⟩ := hB2.h.cells
  have f2 := Yh hB2.h.h
  have H2 := Yh_ hB2
  clear hB2 H1
  go_wp2_with (have _t := H2; clear _t; refine Ye 42 rfl ?_; refine Yb Ins.zero (w.heap.size) rfl _ _ rfl rfl rfl (((H2.out).setB false)).r (((H2.out).setB false)).z ?_; intro w3 hw; have H3 := Yh_ ((((H2.out).setB false)).store hw); clear hw H2)
  exact bodyPost_ret (Yg rfl (Yi 4 (w.heap.size) _ rfl H3.out.r) (Yk 5 rfl)) rfl ⟨rfl, H3.out.h, H3.out.u⟩
theorem Yg35 : (∀ (d g : Nat) (s : Rd) (v : Value) (L : List Int) (w : World) (hD : Yl w d v L g s) (k : Nat) (sh : Bool) (hs : s = ⟨k, sh, false⟩) (hl : 1 < L.length) (hc : L.getD 1 0 / 8 % 8 ≠ 0), Calls Tryz.prog 74 #[.pointer (some ⟨d, 0, none⟩), .int .u8 198] w (Yr d v L g w ⟨Ins.zero, false, ⟨k, false, true⟩⟩)) ∧
 (∀ (d g : Nat) (s : Rd) (v : Value) (L : List Int) (w : World) (hD : Yl w d v L g s) (k : Nat) (sh : Bool) (hs : s = ⟨k, sh, false⟩) (hl : 1 < L.length) (hc : L.getD 1 0 / 8 % 8 ≠ 0), Calls Tryz.prog 74 #[.pointer (some ⟨d, 0, none⟩), .int .u8 199] w (Yr d v L g w ⟨Ins.zero, false, ⟨k, false, true⟩⟩)) := by
 refine ⟨fun d g s v L w hD k sh hs hl hc => ?_, fun d g s v L w hD k sh hs hl hc => ?_⟩
 all_goals
  subst hs
  obtain ⟨ao, sc, rfl, hsc⟩ : ∃ ao c, v = .slice (some ⟨g, ao, none⟩) L.length c ∧ L.length ≤ c := by
   rcases hD.b with ⟨_, h1⟩ | ⟨ao, c, _, _, _, h1, _⟩
   ·rw [h1] at hl; simp at hl
   ·exact ⟨ao, c, h1, hD.c _ _ _ h1⟩
  have hL := hD.r
  have hx := hL 1
  have hls := hD.n
  unfold maxLen at hls
  have q1 : decide ((L.length : Int) < 2) = false := by simp; omega
  have q2 : decide (L.length < 2) = false := by simp; omega
  have q3 : 1 < L.length := hl
  have HC := Yh_ (fun (W : World) (hb : Ybz W (.slice (some ⟨g, ao, none⟩) L.length sc) L g) => Ybs W hl hb)
  obtain ⟨x, hxe⟩ : ∃ x, L.getD 1 0 = x := ⟨_, rfl⟩
  rw [hxe] at hx HC
  rw [hxe] at hc
  have q4 := Ybv x hx
  obtain ⟨n, hn⟩ : ∃ n, x / 8 % 8 = n := ⟨_, rfl⟩
  obtain ⟨md, hmd⟩ : ∃ md, x / 64 = md := ⟨_, rfl⟩
  have hn8 : 0 ≤ n ∧ n < 8 := by omega
  rw [hn] at q4 hc
  have q5 : x / 64 = md := hmd
  clear hn hmd hxe
  have c0 := Ya (Yc (.cells #[.int .i64 0, .int .i64 0, .int .i64 0, .int .i64 0, .int .u32 0, .int .i64 0, .int .i64 0, .int .u32 0, .int .i64 0, .int .i64 0, .int .u32 0, .int .i64 0, .int .i64 0, .int .u32 0, .bool false, .int .i64 0] 42) hD.h)
  have q7 : (n != 0) = true := by simpa using hc
  have q8 : (n == 0) = false := by simpa using hc
  have H1 := Yh_ (RiS.start hD)
  clear hD hl hx hls hL hc
  go_enter Tryz.func74, Tryz.ntmps74
  go_wp2_with fail
  clear c0
  have HQ := Yh_ q5
  refine Ybc 18 (RiS w d (.slice (some ⟨g, ao, none⟩) L.length sc) L g ⟨k, sh, false⟩ w.heap.size Ins.zero.cells) (fun _ _ => False) (by kernel_rfl) (by kernel_rfl) (H1.out.step (Upd.refl [] _).drew) (fun _ _ _ h => h.elim) ?_
  simp only [List.take_succ_cons, List.take_zero, List.drop_succ_cons, List.drop_zero]
  iterate 18
   apply Yao rfl rfl
   ·intro K hK w1 hB1
    obtain ⟨c0, c1, c2, c3⟩ := hB1.h.cells
    have cb := HC.out _ hB1.h.b
    have HB := Yh_ hB1
    clear hB1
    go_wp2_with fail
    first
    |exact hK _ HB.out
    |exact HB.out
   ·exact ⟨_, rfl⟩
  refine Yaw (fun _ w2 hB2 => ?_)
  obtain ⟨c0, c1, c2, c3⟩ := hB2.h.cells
  have f2 := Yh hB2.h.h
  have H2 := Yh_ hB2
  clear hB2 H1
  go_wp2_with (have _t := H2; clear _t; refine Ye 42 rfl ?_; refine Yb Ins.zero (w.heap.size) rfl _ _ rfl rfl rfl (((((H2.out).setB true)).setS false)).r (((((H2.out).setB true)).setS false)).z ?_; intro w3 hw; have H3 := Yh_ ((((((H2.out).setB true)).setS false)).store hw); clear hw H2)
  exact bodyPost_ret (Yg rfl (Yi 4 (w.heap.size) _ rfl H3.out.r) (Yk 5 rfl)) rfl ⟨rfl, H3.out.h, H3.out.u⟩
end Go.Proofs.YteiplidhkelkbaaGreat
