/-
  Parts of the proof (their names shortened by a program). No condition.
-/
import Derived.Test.YteiplidhkelkbaaGreatMg01
import Derived.Test.YteiplidhkelkbaaGreatMg23
namespace Go.Proofs.YteiplidhkelkbaaGreat
open Go Go.RowKit
set_option linter.unusedVariables false
set_option linter.unusedSimpArgs false
set_option maxRecDepth 100000
set_option maxHeartbeats 16000000
theorem Yg36 : (∀ (d g : Nat) (s : Rd) (v : Value) (L : List Int) (w : World) (hD : Yl w d v L g s) (o : Opd) (ho : reM L s = o) (n : Int) (hn : reN L s = n) (k2 : Nat) (hs2 : Yab L s = ⟨k2, true, false⟩) (q : RI) (hq : ∀ w1, Yl w1 d v L g ⟨k2, true, false⟩ → Calls Tryz.prog 74 #[.pointer (some ⟨d, 0, none⟩), .int .u8 129] w1 (Yr d v L g w1 q)), Calls Tryz.prog 61 #[.pointer (some ⟨d, 0, none⟩), .int .u8 129] w (Yr d v L g w ⟨q.i, q.e, q.s⟩)) ∧
 (∀ (d g : Nat) (s : Rd) (v : Value) (L : List Int) (w : World) (hD : Yl w d v L g s) (o : Opd) (ho : reM L s = o) (n : Int) (hn : reN L s = n) (k2 : Nat) (hs2 : Yab L s = ⟨k2, true, false⟩) (q : RI) (hq : ∀ w1, Yl w1 d v L g ⟨k2, true, false⟩ → Calls Tryz.prog 74 #[.pointer (some ⟨d, 0, none⟩), .int .u8 131] w1 (Yr d v L g w1 q)), Calls Tryz.prog 61 #[.pointer (some ⟨d, 0, none⟩), .int .u8 131] w (Yr d v L g w ⟨q.i, q.e, q.s⟩)) ∧
 (∀ (d g : Nat) (s : Rd) (v : Value) (L : List Int) (w : World) (hD : Yl w d v L g s) (o : Opd) (ho : reM L s = o) (n : Int) (hn : reN L s = n) (k2 : Nat) (hs2 : Yab L s = ⟨k2, true, false⟩) (q : RI) (hq : ∀ w1, Yl w1 d v L g ⟨k2, true, false⟩ → Calls Tryz.prog 74 #[.pointer (some ⟨d, 0, none⟩), .int .u8 133] w1 (Yr d v L g w1 q)), Calls Tryz.prog 61 #[.pointer (some ⟨d, 0, none⟩), .int .u8 133] w (Yr d v L g w ⟨q.i, q.e, q.s⟩)) ∧
 (∀ (d g : Nat) (s : Rd) (v : Value) (L : List Int) (w : World) (hD : Yl w d v L g s) (o : Opd) (ho : reM L s = o) (n : Int) (hn : reN L s = n) (k2 : Nat) (hs2 : Yab L s = ⟨k2, true, false⟩) (q : RI) (hq : ∀ w1, Yl w1 d v L g ⟨k2, true, false⟩ → Calls Tryz.prog 74 #[.pointer (some ⟨d, 0, none⟩), .int .u8 135] w1 (Yr d v L g w1 q)), Calls Tryz.prog 61 #[.pointer (some ⟨d, 0, none⟩), .int .u8 135] w (Yr d v L g w ⟨q.i, q.e, q.s⟩)) ∧
 (∀ (d g : Nat) (s : Rd) (v : Value) (L : List Int) (w : World) (hD : Yl w d v L g s) (o : Opd) (ho : reM L s = o) (n : Int) (hn : reN L s = n) (k2 : Nat) (hs2 : Yab L s = ⟨k2, true, false⟩) (q : RI) (hq : ∀ w1, Yl w1 d v L g ⟨k2, true, false⟩ → Calls Tryz.prog 74 #[.pointer (some ⟨d, 0, none⟩), .int .u8 136] w1 (Yr d v L g w1 q)), Calls Tryz.prog 61 #[.pointer (some ⟨d, 0, none⟩), .int .u8 136] w (Yr d v L g w ⟨q.i, q.e, q.s⟩)) ∧
 (∀ (d g : Nat) (s : Rd) (v : Value) (L : List Int) (w : World) (hD : Yl w d v L g s) (o : Opd) (ho : reM L s = o) (n : Int) (hn : reN L s = n) (k2 : Nat) (hs2 : Yab L s = ⟨k2, true, false⟩) (q : RI) (hq : ∀ w1, Yl w1 d v L g ⟨k2, true, false⟩ → Calls Tryz.prog 74 #[.pointer (some ⟨d, 0, none⟩), .int .u8 137] w1 (Yr d v L g w1 q)), Calls Tryz.prog 61 #[.pointer (some ⟨d, 0, none⟩), .int .u8 137] w (Yr d v L g w ⟨q.i, q.e, q.s⟩)) ∧
 (∀ (d g : Nat) (s : Rd) (v : Value) (L : List Int) (w : World) (hD : Yl w d v L g s) (o : Opd) (ho : reM L s = o) (n : Int) (hn : reN L s = n) (k2 : Nat) (hs2 : Yab L s = ⟨k2, true, false⟩) (q : RI) (hq : ∀ w1, Yl w1 d v L g ⟨k2, true, false⟩ → Calls Tryz.prog 74 #[.pointer (some ⟨d, 0, none⟩), .int .u8 138] w1 (Yr d v L g w1 q)), Calls Tryz.prog 61 #[.pointer (some ⟨d, 0, none⟩), .int .u8 138] w (Yr d v L g w ⟨q.i, q.e, q.s⟩)) ∧
 (∀ (d g : Nat) (s : Rd) (v : Value) (L : List Int) (w : World) (hD : Yl w d v L g s) (o : Opd) (ho : reM L s = o) (n : Int) (hn : reN L s = n) (k2 : Nat) (hs2 : Yab L s = ⟨k2, true, false⟩) (q : RI) (hq : ∀ w1, Yl w1 d v L g ⟨k2, true, false⟩ → Calls Tryz.prog 74 #[.pointer (some ⟨d, 0, none⟩), .int .u8 139] w1 (Yr d v L g w1 q)), Calls Tryz.prog 61 #[.pointer (some ⟨d, 0, none⟩), .int .u8 139] w (Yr d v L g w ⟨q.i, q.e, q.s⟩)) := by
 refine ⟨fun d g s v L w hD o ho n hn k2 hs2 q hq => ?_, fun d g s v L w hD o ho n hn k2 hs2 q hq => ?_, fun d g s v L w hD o ho n hn k2 hs2 q hq => ?_, fun d g s v L w hD o ho n hn k2 hs2 q hq => ?_, fun d g s v L w hD o ho n hn k2 hs2 q hq => ?_, fun d g s v L w hD o ho n hn k2 hs2 q hq => ?_, fun d g s v L w hD o ho n hn k2 hs2 q hq => ?_, fun d g s v L w hD o ho n hn k2 hs2 q hq => ?_⟩
 all_goals
  have HO := Yh_ ho
  have HN := Yh_ hn
  have HS2 := Yh_ hs2
  have HQ := Yh_ hq
  have H1 := Yh_ (RiS.start hD)
  clear hD ho hn hs2 hq
  go_enter Tryz.func61, Tryz.ntmps61
  go_wp2_with (first | (have _t := H1; clear _t; go_at_call 72; refine (Ya4 d g _ v L _ (H1.out).h).mono ?_; rintro e w2 ⟨rfl, h, hu⟩; rw [HO.out, HN.out]; rw [HS2.out] at h; unfold Opd.val; have H2 := Yh_ (((H1.out).call h hu).mvar o); have cs := Ya (Yc (.cells #[.int .i64 o.k, .int .i64 o.r, .int .u32 o.imm, .int .i64 o.b, .int .i64 o.x, .int .u32 o.sc] 40) h.h); have fs := Yh (Yc (.cells #[.int .i64 o.k, .int .i64 o.r, .int .u32 o.imm, .int .i64 o.b, .int .i64 o.x, .int .u32 o.sc] 40) h.h); clear h hu H1) | (have _t := H2; clear _t; go_at_call 74; refine (HQ.out _ (H2.out).h).mono ?_; rintro e w3 ⟨rfl, h, hu⟩; have H3 := Yh_ ((H2.out).call h hu); clear h hu H2 cs fs) | (have _t := H3; clear _t; refine Ye 42 rfl ?_; refine Yb q.i (w.heap.size) rfl _ _ rfl rfl rfl (H3.out).r (H3.out).z ?_; intro w4 hw; have H4 := Yh_ ((H3.out).store hw); clear hw H3))
  exact bodyPost_ret (Yg rfl (Yi 4 (w.heap.size) _ rfl H4.out.r) (Yk 5 rfl)) rfl ⟨rfl, H4.out.h, H4.out.u⟩
theorem Yg37 : (∀ (d g : Nat) (s : Rd) (v : Value) (L : List Int) (w : World) (hD : Yl w d v L g s) (o : Opd) (ho : reM L s = o) (n : Int) (hn : reN L s = n) (k2 : Nat) (hs2 : Yab L s = ⟨k2, true, false⟩) (q : RI) (hq : ∀ w1, Yl w1 d v L g ⟨k2, true, false⟩ → Calls Tryz.prog 74 #[.pointer (some ⟨d, 0, none⟩), .int .u8 141] w1 (Yr d v L g w1 q)), Calls Tryz.prog 61 #[.pointer (some ⟨d, 0, none⟩), .int .u8 141] w (Yr d v L g w ⟨q.i, q.e, q.s⟩)) ∧
 (∀ (d g : Nat) (s : Rd) (v : Value) (L : List Int) (w : World) (hD : Yl w d v L g s) (o : Opd) (ho : reM L s = o) (n : Int) (hn : reN L s = n) (k2 : Nat) (hs2 : Yab L s = ⟨k2, true, false⟩) (q : RI) (hq : ∀ w1, Yl w1 d v L g ⟨k2, true, false⟩ → Calls Tryz.prog 74 #[.pointer (some ⟨d, 0, none⟩), .int .u8 193] w1 (Yr d v L g w1 q)), Calls Tryz.prog 61 #[.pointer (some ⟨d, 0, none⟩), .int .u8 193] w (Yr d v L g w ⟨q.i, q.e, q.s⟩)) ∧
 (∀ (d g : Nat) (s : Rd) (v : Value) (L : List Int) (w : World) (hD : Yl w d v L g s) (o : Opd) (ho : reM L s = o) (n : Int) (hn : reN L s = n) (k2 : Nat) (hs2 : Yab L s = ⟨k2, true, false⟩) (q : RI) (hq : ∀ w1, Yl w1 d v L g ⟨k2, true, false⟩ → Calls Tryz.prog 74 #[.pointer (some ⟨d, 0, none⟩), .int .u8 198] w1 (Yr d v L g w1 q)), Calls Tryz.prog 61 #[.pointer (some ⟨d, 0, none⟩), .int .u8 198] w (Yr d v L g w ⟨q.i, q.e, q.s⟩)) ∧
 (∀ (d g : Nat) (s : Rd) (v : Value) (L : List Int) (w : World) (hD : Yl w d v L g s) (o : Opd) (ho : reM L s = o) (n : Int) (hn : reN L s = n) (k2 : Nat) (hs2 : Yab L s = ⟨k2, true, false⟩) (q : RI) (hq : ∀ w1, Yl w1 d v L g ⟨k2, true, false⟩ → Calls Tryz.prog 74 #[.pointer (some ⟨d, 0, none⟩), .int .u8 199] w1 (Yr d v L g w1 q)), Calls Tryz.prog 61 #[.pointer (some ⟨d, 0, none⟩), .int .u8 199] w (Yr d v L g w ⟨q.i, q.e, q.s⟩)) ∧
 (∀ (d g : Nat) (s : Rd) (v : Value) (L : List Int) (w : World) (hD : Yl w d v L g s) (o : Opd) (ho : reM L s = o) (n : Int) (hn : reN L s = n) (k2 : Nat) (hs2 : Yab L s = ⟨k2, true, false⟩) (q : RI) (hq : ∀ w1, Yl w1 d v L g ⟨k2, true, false⟩ → Calls Tryz.prog 74 #[.pointer (some ⟨d, 0, none⟩), .int .u8 209] w1 (Yr d v L g w1 q)), Calls Tryz.prog 61 #[.pointer (some ⟨d, 0, none⟩), .int .u8 209] w (Yr d v L g w ⟨q.i, q.e, q.s⟩)) ∧
 (∀ (d g : Nat) (s : Rd) (v : Value) (L : List Int) (w : World) (hD : Yl w d v L g s) (o : Opd) (ho : reM L s = o) (n : Int) (hn : reN L s = n) (k2 : Nat) (hs2 : Yab L s = ⟨k2, true, false⟩) (q : RI) (hq : ∀ w1, Yl w1 d v L g ⟨k2, true, false⟩ → Calls Tryz.prog 74 #[.pointer (some ⟨d, 0, none⟩), .int .u8 211] w1 (Yr d v L g w1 q)), Calls Tryz.prog 61 #[.pointer (some ⟨d, 0, none⟩), .int .u8 211] w (Yr d v L g w ⟨q.i, q.e, q.s⟩)) ∧
 (∀ (d g : Nat) (s : Rd) (v : Value) (L : List Int) (w : World) (hD : Yl w d v L g s) (o : Opd) (ho : reM L s = o) (n : Int) (hn : reN L s = n) (k2 : Nat) (hs2 : Yab L s = ⟨k2, true, false⟩) (q : RI) (hq : ∀ w1, Yl w1 d v L g ⟨k2, true, false⟩ → Calls Tryz.prog 74 #[.pointer (some ⟨d, 0, none⟩), .int .u8 217] w1 (Yr d v L g w1 q)), Calls Tryz.prog 61 #[.pointer (some ⟨d, 0, none⟩), .int .u8 217] w (Yr d v L g w ⟨q.i, q.e, q.s⟩)) ∧
 (∀ (d g : Nat) (s : Rd) (v : Value) (L : List Int) (w : World) (hD : Yl w d v L g s) (o : Opd) (ho : reM L s = o) (n : Int) (hn : reN L s = n) (k2 : Nat) (hs2 : Yab L s = ⟨k2, true, false⟩) (q : RI) (hq : ∀ w1, Yl w1 d v L g ⟨k2, true, false⟩ → Calls Tryz.prog 74 #[.pointer (some ⟨d, 0, none⟩), .int .u8 220] w1 (Yr d v L g w1 q)), Calls Tryz.prog 61 #[.pointer (some ⟨d, 0, none⟩), .int .u8 220] w (Yr d v L g w ⟨q.i, q.e, q.s⟩)) := by
 refine ⟨fun d g s v L w hD o ho n hn k2 hs2 q hq => ?_, fun d g s v L w hD o ho n hn k2 hs2 q hq => ?_, fun d g s v L w hD o ho n hn k2 hs2 q hq => ?_, fun d g s v L w hD o ho n hn k2 hs2 q hq => ?_, fun d g s v L w hD o ho n hn k2 hs2 q hq => ?_, fun d g s v L w hD o ho n hn k2 hs2 q hq => ?_, fun d g s v L w hD o ho n hn k2 hs2 q hq => ?_, fun d g s v L w hD o ho n hn k2 hs2 q hq => ?_⟩
 all_goals
  have HO := Yh_ ho
  have HN := Yh_ hn
  have HS2 := Yh_ hs2
  have HQ := Yh_ hq
  have H1 := Yh_ (RiS.start hD)
  clear hD ho hn hs2 hq
  go_enter Tryz.func61, Tryz.ntmps61
  go_wp2_with (first | (have _t := H1; clear _t; go_at_call 72; refine (Ya4 d g _ v L _ (H1.out).h).mono ?_; rintro e w2 ⟨rfl, h, hu⟩; rw [HO.out, HN.out]; rw [HS2.out] at h; unfold Opd.val; have H2 := Yh_ (((H1.out).call h hu).mvar o); have cs := Ya (Yc (.cells #[.int .i64 o.k, .int .i64 o.r, .int .u32 o.imm, .int .i64 o.b, .int .i64 o.x, .int .u32 o.sc] 40) h.h); have fs := Yh (Yc (.cells #[.int .i64 o.k, .int .i64 o.r, .int .u32 o.imm, .int .i64 o.b, .int .i64 o.x, .int .u32 o.sc] 40) h.h); clear h hu H1) | (have _t := H2; clear _t; go_at_call 74; refine (HQ.out _ (H2.out).h).mono ?_; rintro e w3 ⟨rfl, h, hu⟩; have H3 := Yh_ ((H2.out).call h hu); clear h hu H2 cs fs) | (have _t := H3; clear _t; refine Ye 42 rfl ?_; refine Yb q.i (w.heap.size) rfl _ _ rfl rfl rfl (H3.out).r (H3.out).z ?_; intro w4 hw; have H4 := Yh_ ((H3.out).store hw); clear hw H3))
  exact bodyPost_ret (Yg rfl (Yi 4 (w.heap.size) _ rfl H4.out.r) (Yk 5 rfl)) rfl ⟨rfl, H4.out.h, H4.out.u⟩
theorem Yg38 : (∀ (d g : Nat) (s : Rd) (v : Value) (L : List Int) (w : World) (hD : Yl w d v L g s) (o : Opd) (ho : reM L s = o) (n : Int) (hn : reN L s = n) (k2 : Nat) (hs2 : Yab L s = ⟨k2, true, false⟩) (q : RI) (hq : ∀ w1, Yl w1 d v L g ⟨k2, true, false⟩ → Calls Tryz.prog 74 #[.pointer (some ⟨d, 0, none⟩), .int .u8 221] w1 (Yr d v L g w1 q)), Calls Tryz.prog 61 #[.pointer (some ⟨d, 0, none⟩), .int .u8 221] w (Yr d v L g w ⟨q.i, q.e, q.s⟩)) ∧
 (∀ (d g : Nat) (s : Rd) (v : Value) (L : List Int) (w : World) (hD : Yl w d v L g s) (o : Opd) (ho : reM L s = o) (n : Int) (hn : reN L s = n) (k2 : Nat) (hs2 : Yab L s = ⟨k2, true, false⟩) (q : RI) (hq : ∀ w1, Yl w1 d v L g ⟨k2, true, false⟩ → Calls Tryz.prog 74 #[.pointer (some ⟨d, 0, none⟩), .int .u8 247] w1 (Yr d v L g w1 q)), Calls Tryz.prog 61 #[.pointer (some ⟨d, 0, none⟩), .int .u8 247] w (Yr d v L g w ⟨q.i, q.e, q.s⟩)) ∧
 (∀ (d g : Nat) (s : Rd) (v : Value) (L : List Int) (w : World) (hD : Yl w d v L g s) (o : Opd) (ho : reM L s = o) (n : Int) (hn : reN L s = n) (k2 : Nat) (hs2 : Yab L s = ⟨k2, true, false⟩) (q : RI) (hq : ∀ w1, Yl w1 d v L g ⟨k2, true, false⟩ → Calls Tryz.prog 74 #[.pointer (some ⟨d, 0, none⟩), .int .u8 255] w1 (Yr d v L g w1 q)), Calls Tryz.prog 61 #[.pointer (some ⟨d, 0, none⟩), .int .u8 255] w (Yr d v L g w ⟨q.i, q.e, q.s⟩)) := by
 refine ⟨fun d g s v L w hD o ho n hn k2 hs2 q hq => ?_, fun d g s v L w hD o ho n hn k2 hs2 q hq => ?_, fun d g s v L w hD o ho n hn k2 hs2 q hq => ?_⟩
 all_goals
  have HO := Yh_ ho
  have HN := Yh_ hn
  have HS2 := Yh_ hs2
  have HQ := Yh_ hq
  have H1 := Yh_ (RiS.start hD)
  clear hD ho hn hs2 hq
  go_enter Tryz.func61, Tryz.ntmps61
  go_wp2_with (first | (have _t := H1; clear _t; go_at_call 72; refine (Ya4 d g _ v L _ (H1.out).h).mono ?_; rintro e w2 ⟨rfl, h, hu⟩; rw [HO.out, HN.out]; rw [HS2.out] at h; unfold Opd.val; have H2 := Yh_ (((H1.out).call h hu).mvar o); have cs := Ya (Yc (.cells #[.int .i64 o.k, .int .i64 o.r, .int .u32 o.imm, .int .i64 o.b, .int .i64 o.x, .int .u32 o.sc] 40) h.h); have fs := Yh (Yc (.cells #[.int .i64 o.k, .int .i64 o.r, .int .u32 o.imm, .int .i64 o.b, .int .i64 o.x, .int .u32 o.sc] 40) h.h); clear h hu H1) | (have _t := H2; clear _t; go_at_call 74; refine (HQ.out _ (H2.out).h).mono ?_; rintro e w3 ⟨rfl, h, hu⟩; have H3 := Yh_ ((H2.out).call h hu); clear h hu H2 cs fs) | (have _t := H3; clear _t; refine Ye 42 rfl ?_; refine Yb q.i (w.heap.size) rfl _ _ rfl rfl rfl (H3.out).r (H3.out).z ?_; intro w4 hw; have H4 := Yh_ ((H3.out).store hw); clear hw H3))
  exact bodyPost_ret (Yg rfl (Yi 4 (w.heap.size) _ rfl H4.out.r) (Yk 5 rfl)) rfl ⟨rfl, H4.out.h, H4.out.u⟩
theorem Yg39 : (∀ (d g : Nat) (s : Rd) (v : Value) (L : List Int) (w : World) (hD : Yl w d v L g s) (o : Opd) (ho : reM L s = o) (n : Int) (hn : reN L s = n) (k2 : Nat) (hs2 : Yab L s = ⟨k2, false, false⟩) (q : RI) (hq : ∀ w1, Yl w1 d v L g ⟨k2, false, false⟩ → Calls Tryz.prog 76 #[.pointer (some ⟨d, 0, none⟩), .int .u8 198, .agg #[.int .i64 o.k, .int .i64 o.r, .int .u32 o.imm, .int .i64 o.b, .int .i64 o.x, .int .u32 o.sc], .int .i64 n] w1 (Yr d v L g w1 q)), Calls Tryz.prog 61 #[.pointer (some ⟨d, 0, none⟩), .int .u8 198] w (Yr d v L g w ⟨q.i, q.e, q.s⟩)) ∧
 (∀ (d g : Nat) (s : Rd) (v : Value) (L : List Int) (w : World) (hD : Yl w d v L g s) (o : Opd) (ho : reM L s = o) (n : Int) (hn : reN L s = n) (k2 : Nat) (hs2 : Yab L s = ⟨k2, false, false⟩) (q : RI) (hq : ∀ w1, Yl w1 d v L g ⟨k2, false, false⟩ → Calls Tryz.prog 76 #[.pointer (some ⟨d, 0, none⟩), .int .u8 199, .agg #[.int .i64 o.k, .int .i64 o.r, .int .u32 o.imm, .int .i64 o.b, .int .i64 o.x, .int .u32 o.sc], .int .i64 n] w1 (Yr d v L g w1 q)), Calls Tryz.prog 61 #[.pointer (some ⟨d, 0, none⟩), .int .u8 199] w (Yr d v L g w ⟨q.i, q.e, q.s⟩)) ∧
 (∀ (d g : Nat) (s : Rd) (v : Value) (L : List Int) (w : World) (hD : Yl w d v L g s) (o : Opd) (ho : reM L s = o) (n : Int) (hn : reN L s = n) (k2 : Nat) (hs2 : Yab L s = ⟨k2, false, false⟩) (q : RI) (hq : ∀ w1, Yl w1 d v L g ⟨k2, false, false⟩ → Calls Tryz.prog 76 #[.pointer (some ⟨d, 0, none⟩), .int .u8 217, .agg #[.int .i64 o.k, .int .i64 o.r, .int .u32 o.imm, .int .i64 o.b, .int .i64 o.x, .int .u32 o.sc], .int .i64 n] w1 (Yr d v L g w1 q)), Calls Tryz.prog 61 #[.pointer (some ⟨d, 0, none⟩), .int .u8 217] w (Yr d v L g w ⟨q.i, q.e, q.s⟩)) ∧
 (∀ (d g : Nat) (s : Rd) (v : Value) (L : List Int) (w : World) (hD : Yl w d v L g s) (o : Opd) (ho : reM L s = o) (n : Int) (hn : reN L s = n) (k2 : Nat) (hs2 : Yab L s = ⟨k2, false, false⟩) (q : RI) (hq : ∀ w1, Yl w1 d v L g ⟨k2, false, false⟩ → Calls Tryz.prog 76 #[.pointer (some ⟨d, 0, none⟩), .int .u8 220, .agg #[.int .i64 o.k, .int .i64 o.r, .int .u32 o.imm, .int .i64 o.b, .int .i64 o.x, .int .u32 o.sc], .int .i64 n] w1 (Yr d v L g w1 q)), Calls Tryz.prog 61 #[.pointer (some ⟨d, 0, none⟩), .int .u8 220] w (Yr d v L g w ⟨q.i, q.e, q.s⟩)) ∧
 (∀ (d g : Nat) (s : Rd) (v : Value) (L : List Int) (w : World) (hD : Yl w d v L g s) (o : Opd) (ho : reM L s = o) (n : Int) (hn : reN L s = n) (k2 : Nat) (hs2 : Yab L s = ⟨k2, false, false⟩) (q : RI) (hq : ∀ w1, Yl w1 d v L g ⟨k2, false, false⟩ → Calls Tryz.prog 76 #[.pointer (some ⟨d, 0, none⟩), .int .u8 221, .agg #[.int .i64 o.k, .int .i64 o.r, .int .u32 o.imm, .int .i64 o.b, .int .i64 o.x, .int .u32 o.sc], .int .i64 n] w1 (Yr d v L g w1 q)), Calls Tryz.prog 61 #[.pointer (some ⟨d, 0, none⟩), .int .u8 221] w (Yr d v L g w ⟨q.i, q.e, q.s⟩)) ∧
 (∀ (d g : Nat) (s : Rd) (v : Value) (L : List Int) (w : World) (hD : Yl w d v L g s) (o : Opd) (ho : reM L s = o) (n : Int) (hn : reN L s = n) (k2 : Nat) (hs2 : Yab L s = ⟨k2, false, false⟩) (q : RI) (hq : ∀ w1, Yl w1 d v L g ⟨k2, false, false⟩ → Calls Tryz.prog 76 #[.pointer (some ⟨d, 0, none⟩), .int .u8 247, .agg #[.int .i64 o.k, .int .i64 o.r, .int .u32 o.imm, .int .i64 o.b, .int .i64 o.x, .int .u32 o.sc], .int .i64 n] w1 (Yr d v L g w1 q)), Calls Tryz.prog 61 #[.pointer (some ⟨d, 0, none⟩), .int .u8 247] w (Yr d v L g w ⟨q.i, q.e, q.s⟩)) ∧
 (∀ (d g : Nat) (s : Rd) (v : Value) (L : List Int) (w : World) (hD : Yl w d v L g s) (o : Opd) (ho : reM L s = o) (n : Int) (hn : reN L s = n) (k2 : Nat) (hs2 : Yab L s = ⟨k2, false, false⟩) (q : RI) (hq : ∀ w1, Yl w1 d v L g ⟨k2, false, false⟩ → Calls Tryz.prog 76 #[.pointer (some ⟨d, 0, none⟩), .int .u8 255, .agg #[.int .i64 o.k, .int .i64 o.r, .int .u32 o.imm, .int .i64 o.b, .int .i64 o.x, .int .u32 o.sc], .int .i64 n] w1 (Yr d v L g w1 q)), Calls Tryz.prog 61 #[.pointer (some ⟨d, 0, none⟩), .int .u8 255] w (Yr d v L g w ⟨q.i, q.e, q.s⟩)) := by
 refine ⟨fun d g s v L w hD o ho n hn k2 hs2 q hq => ?_, fun d g s v L w hD o ho n hn k2 hs2 q hq => ?_, fun d g s v L w hD o ho n hn k2 hs2 q hq => ?_, fun d g s v L w hD o ho n hn k2 hs2 q hq => ?_, fun d g s v L w hD o ho n hn k2 hs2 q hq => ?_, fun d g s v L w hD o ho n hn k2 hs2 q hq => ?_, fun d g s v L w hD o ho n hn k2 hs2 q hq => ?_⟩
 all_goals
  have HO := Yh_ ho
  have HN := Yh_ hn
  have HS2 := Yh_ hs2
  have HQ := Yh_ hq
  have H1 := Yh_ (RiS.start hD)
  clear hD ho hn hs2 hq
  go_enter Tryz.func61, Tryz.ntmps61
  go_wp2_with (first | (have _t := H1; clear _t; go_at_call 72; refine (Ya4 d g _ v L _ (H1.out).h).mono ?_; rintro e w2 ⟨rfl, h, hu⟩; rw [HO.out, HN.out]; rw [HS2.out] at h; unfold Opd.val; have H2 := Yh_ (((H1.out).call h hu).mvar o); have cs := Ya (Yc (.cells #[.int .i64 o.k, .int .i64 o.r, .int .u32 o.imm, .int .i64 o.b, .int .i64 o.x, .int .u32 o.sc] 40) h.h); have fs := Yh (Yc (.cells #[.int .i64 o.k, .int .i64 o.r, .int .u32 o.imm, .int .i64 o.b, .int .i64 o.x, .int .u32 o.sc] 40) h.h); clear h hu H1) | (have _t := H2; clear _t; go_at_call 76; refine (HQ.out _ (H2.out).h).mono ?_; rintro e w3 ⟨rfl, h, hu⟩; have H3 := Yh_ ((H2.out).call h hu); clear h hu H2 cs fs) | (have _t := H3; clear _t; refine Ye 42 rfl ?_; refine Yb q.i (w.heap.size) rfl _ _ rfl rfl rfl (H3.out).r (H3.out).z ?_; intro w4 hw; have H4 := Yh_ ((H3.out).store hw); clear hw H3))
  exact bodyPost_ret (Yg rfl (Yi 4 (w.heap.size) _ rfl H4.out.r) (Yk 5 rfl)) rfl ⟨rfl, H4.out.h, H4.out.u⟩
theorem rmod_129 (d g : Nat) (s : Rd) (v : Value) (L : List Int) (w : World) (hD : Yl w d v L g s) (o : Opd) (ho : reM L s = o) (n : Int) (hn : reN L s = n) (k2 : Nat) (hs2 : Yab L s = ⟨k2, false, false⟩) (hn8 : 0 ≤ n ∧ n < 8) :
  Calls Tryz.prog 61 #[.pointer (some ⟨d, 0, none⟩), .int .u8 129] w (Yr d v L g w ⟨⟨Yag n, 0, o, Yac (reW L ⟨k2, false, false⟩), false, 0⟩, false, (Yb1 L ⟨k2, false, false⟩)⟩) := by
 have HO := Yh_ ho
 have HN := Yh_ hn
 have HS2 := Yh_ hs2
 have hmo : Tryz.prog.follows .mixedOrders = true := by kernel_rfl
 have hix := fun w : World => Yig hn8.1 hn8.2 w
 have H1 := Yh_ (RiS.start hD)
 clear hD ho hn hs2 hn8
 go_enter Tryz.func61, Tryz.ntmps61
 go_wp2_with (have _t := H1; clear _t; go_at_call 72; refine (Ya4 d g _ v L _ (H1.out).h).mono ?_; rintro e w2 ⟨rfl, h, hu⟩; rw [HO.out, HN.out]; rw [HS2.out] at h; unfold Opd.val; have H2 := Yh_ (((H1.out).call h hu).mvar o); have cs := Ya (Yc (.cells #[.int .i64 o.k, .int .i64 o.r, .int .u32 o.imm, .int .i64 o.b, .int .i64 o.x, .int .u32 o.sc] 40) h.h); have fs := Yh (Yc (.cells #[.int .i64 o.k, .int .i64 o.r, .int .u32 o.imm, .int .i64 o.b, .int .i64 o.x, .int .u32 o.sc] 40) h.h); clear h hu H1)
 refine Yaq 7 (RiB w d v L g ⟨k2, false, false⟩ (Yb1 L ⟨k2, false, false⟩) 5 999 Ins.zero (w.heap.size) (w2.heap.size) o) (fun _ _ => False) (by kernel_rfl) (by decide +kernel) (RiB.start (H2.out)) (fun _ _ _ h => h.elim) ?_
 simp only [List.take_succ_cons, List.take_zero, List.drop_succ_cons, List.drop_zero]
 apply Yf rfl rfl
 ·intro dd K hd hK w5 hB1
  have HB := Yh_ hB1
  have c1 := Ya HB.out.o; unfold Opd.cells at c1
  clear hB1
  go_wp2_with (go_at_call 55; refine (Yfz _).mono ?_; rintro e w' ⟨rfl, hu⟩)
  first
  |exact hK _ (HB.out.quiet hu _ (by decide) (by decide))
  |exact HB.out.quiet hu _ (by decide) (by decide)
 ·exact ⟨_, rfl⟩
 iterate 4
  apply Yf rfl rfl
  ·intro dd K hd hK w5 hB1
   have HB := Yh_ hB1
   have c1 := Ya HB.out.o; unfold Opd.cells at c1
   clear hB1
   go_wp2_with fail
   first
   |exact hK _ (HB.out.same _ (by decide) (by decide))
   |exact HB.out.same _ (by decide) (by decide)
  ·exact ⟨_, rfl⟩
 apply Yf rfl rfl
 ·intro dd K hd hK w5 hB1
  have HB := Yh_ hB1
  have c1 := Ya HB.out.o; unfold Opd.cells at c1
  clear hB1
  go_wp2_with (go_at_call 59; refine (Yci d g _ v L _ (HB.out.rd hd)).mono ?_; rintro e w' ⟨rfl, h, hu⟩)
  first
  |exact hK _ (HB.out.call hd (by decide) h hu)
  |exact HB.out.call hd (by decide) h hu
 ·exact ⟨_, rfl⟩
 apply Yf rfl rfl
 ·intro dd K hd hK w5 hB1
  have HB := Yh_ hB1
  have c1 := Ya HB.out.o; unfold Opd.cells at c1
  clear hB1
  go_wp2_with (go_at_call 57; refine (Ycb _ _).mono ?_; rintro e w' ⟨rfl, hu⟩; rw [show (Yac (reW L ⟨k2, false, false⟩)).val = .agg #[.int .i64 2, .int .i64 0, .int .u32 (reW L ⟨k2, false, false⟩), .int .i64 0, .int .i64 0, .int .u32 0] from rfl])
  first
  |exact hK _ (HB.out.quiet hu _ (by decide) (by decide))
  |exact HB.out.quiet hu _ (by decide) (by decide)
 ·exact ⟨_, rfl⟩
 refine Yal (fun _ w3 dd hall hB1 => ?_)
 obtain ⟨C3, hC, hI⟩ := hB1.fin (.inl (hall 5 (by decide)))
 clear hI
 have H3 := Yh_ hC
 have cm := Ya H3.out.o
 unfold Opd.cells at cm
 clear hC hall hB1
 go_wp2_with (have _t := H3; clear _t; refine Ye 42 rfl ?_; refine Yb ⟨Yag n, 0, o, Yac (reW L ⟨k2, false, false⟩), false, 0⟩ (w.heap.size) rfl _ _ rfl rfl rfl (H3.out).r (H3.out).z ?_; intro w4 hw; have H4 := Yh_ ((H3.out).store hw); clear hw H3)
 exact bodyPost_ret (Yg rfl (Yi 4 (w.heap.size) _ rfl H4.out.r) (Yk 5 rfl)) rfl ⟨rfl, H4.out.h, H4.out.u⟩
theorem rmod_131 (d g : Nat) (s : Rd) (v : Value) (L : List Int) (w : World) (hD : Yl w d v L g s) (o : Opd) (ho : reM L s = o) (n : Int) (hn : reN L s = n) (k2 : Nat) (hs2 : Yab L s = ⟨k2, false, false⟩) (hn8 : 0 ≤ n ∧ n < 8) :
  Calls Tryz.prog 61 #[.pointer (some ⟨d, 0, none⟩), .int .u8 131] w (Yr d v L g w ⟨⟨Yag n, 0, o, Yac (sx8 (reB L ⟨k2, false, false⟩)), false, 0⟩, false, (Ym L ⟨k2, false, false⟩)⟩) := by
 have HO := Yh_ ho
 have HN := Yh_ hn
 have HS2 := Yh_ hs2
 have hmo : Tryz.prog.follows .mixedOrders = true := by kernel_rfl
 have hix := fun w : World => Yig hn8.1 hn8.2 w
 have H1 := Yh_ (RiS.start hD)
 clear hD ho hn hs2 hn8
 go_enter Tryz.func61, Tryz.ntmps61
 go_wp2_with (have _t := H1; clear _t; go_at_call 72; refine (Ya4 d g _ v L _ (H1.out).h).mono ?_; rintro e w2 ⟨rfl, h, hu⟩; rw [HO.out, HN.out]; rw [HS2.out] at h; unfold Opd.val; have H2 := Yh_ (((H1.out).call h hu).mvar o); have cs := Ya (Yc (.cells #[.int .i64 o.k, .int .i64 o.r, .int .u32 o.imm, .int .i64 o.b, .int .i64 o.x, .int .u32 o.sc] 40) h.h); have fs := Yh (Yc (.cells #[.int .i64 o.k, .int .i64 o.r, .int .u32 o.imm, .int .i64 o.b, .int .i64 o.x, .int .u32 o.sc] 40) h.h); clear h hu H1)
 refine Yaq 7 (RiB w d v L g ⟨k2, false, false⟩ (Ym L ⟨k2, false, false⟩) 5 999 Ins.zero (w.heap.size) (w2.heap.size) o) (fun _ _ => False) (by kernel_rfl) (by decide +kernel) (RiB.start (H2.out)) (fun _ _ _ h => h.elim) ?_
 simp only [List.take_succ_cons, List.take_zero, List.drop_succ_cons, List.drop_zero]
 apply Yf rfl rfl
 ·intro dd K hd hK w5 hB1
  have HB := Yh_ hB1
  have c1 := Ya HB.out.o; unfold Opd.cells at c1
  clear hB1
  go_wp2_with (go_at_call 55; refine (Yfz _).mono ?_; rintro e w' ⟨rfl, hu⟩)
  first
  |exact hK _ (HB.out.quiet hu _ (by decide) (by decide))
  |exact HB.out.quiet hu _ (by decide) (by decide)
 ·exact ⟨_, rfl⟩
 iterate 4
  apply Yf rfl rfl
  ·intro dd K hd hK w5 hB1
   have HB := Yh_ hB1
   have c1 := Ya HB.out.o; unfold Opd.cells at c1
   clear hB1
   go_wp2_with fail
   first
   |exact hK _ (HB.out.same _ (by decide) (by decide))
   |exact HB.out.same _ (by decide) (by decide)
  ·exact ⟨_, rfl⟩
 apply Yf rfl rfl
 ·intro dd K hd hK w5 hB1
  have HB := Yh_ hB1
  have c1 := Ya HB.out.o; unfold Opd.cells at c1
  clear hB1
  go_wp2_with (go_at_call 58; refine (Yez d g _ v L _ (HB.out.rd hd)).mono ?_; rintro e w' ⟨rfl, h, hu⟩)
  first
  |exact hK _ (HB.out.call hd (by decide) h hu)
  |exact HB.out.call hd (by decide) h hu
 ·exact ⟨_, rfl⟩
 apply Yf rfl rfl
 ·intro dd K hd hK w5 hB1
  have HB := Yh_ hB1
  have c1 := Ya HB.out.o; unfold Opd.cells at c1
  clear hB1
  go_wp2_with (go_at_call 57; refine (Ycb _ _).mono ?_; rintro e w' ⟨rfl, hu⟩; rw [show (Yac (sx8 (reB L ⟨k2, false, false⟩))).val = .agg #[.int .i64 2, .int .i64 0, .int .u32 (sx8 (reB L ⟨k2, false, false⟩)), .int .i64 0, .int .i64 0, .int .u32 0] from rfl])
  first
  |exact hK _ (HB.out.quiet hu _ (by decide) (by decide))
  |exact HB.out.quiet hu _ (by decide) (by decide)
 ·exact ⟨_, rfl⟩
 refine Yal (fun _ w3 dd hall hB1 => ?_)
 obtain ⟨C3, hC, hI⟩ := hB1.fin (.inl (hall 5 (by decide)))
 clear hI
 have H3 := Yh_ hC
 have cm := Ya H3.out.o
 unfold Opd.cells at cm
 clear hC hall hB1
 go_wp2_with (have _t := H3; clear _t; refine Ye 42 rfl ?_; refine Yb ⟨Yag n, 0, o, Yac (sx8 (reB L ⟨k2, false, false⟩)), false, 0⟩ (w.heap.size) rfl _ _ rfl rfl rfl (H3.out).r (H3.out).z ?_; intro w4 hw; have H4 := Yh_ ((H3.out).store hw); clear hw H3)
 exact bodyPost_ret (Yg rfl (Yi 4 (w.heap.size) _ rfl H4.out.r) (Yk 5 rfl)) rfl ⟨rfl, H4.out.h, H4.out.u⟩
theorem rmod_133 (d g : Nat) (s : Rd) (v : Value) (L : List Int) (w : World) (hD : Yl w d v L g s) (o : Opd) (ho : reM L s = o) (n : Int) (hn : reN L s = n) (k2 : Nat) (hs2 : Yab L s = ⟨k2, false, false⟩)  :
  Calls Tryz.prog 61 #[.pointer (some ⟨d, 0, none⟩), .int .u8 133] w (Yr d v L g w ⟨⟨11, 0, o, Yn n, false, 0⟩, false, ⟨k2, false, false⟩⟩) := by
 have HO := Yh_ ho
 have HN := Yh_ hn
 have HS2 := Yh_ hs2
 have hmo : Tryz.prog.follows .mixedOrders = true := by kernel_rfl
 have H1 := Yh_ (RiS.start hD)
 clear hD ho hn hs2
 go_enter Tryz.func61, Tryz.ntmps61
 go_wp2_with (have _t := H1; clear _t; go_at_call 72; refine (Ya4 d g _ v L _ (H1.out).h).mono ?_; rintro e w2 ⟨rfl, h, hu⟩; rw [HO.out, HN.out]; rw [HS2.out] at h; unfold Opd.val; have H2 := Yh_ (((H1.out).call h hu).mvar o); have cs := Ya (Yc (.cells #[.int .i64 o.k, .int .i64 o.r, .int .u32 o.imm, .int .i64 o.b, .int .i64 o.x, .int .u32 o.sc] 40) h.h); have fs := Yh (Yc (.cells #[.int .i64 o.k, .int .i64 o.r, .int .u32 o.imm, .int .i64 o.b, .int .i64 o.x, .int .u32 o.sc] 40) h.h); clear h hu H1)
 refine Yaq 3 (RiB w d v L g ⟨k2, false, false⟩ ⟨k2, false, false⟩ 999 999 Ins.zero (w.heap.size) (w2.heap.size) o) (fun _ _ => False) (by kernel_rfl) (by decide +kernel) (RiB.start (H2.out)) (fun _ _ _ h => h.elim) ?_
 simp only [List.take_succ_cons, List.take_zero, List.drop_succ_cons, List.drop_zero]
 iterate 2
  apply Yf rfl rfl
  ·intro dd K hd hK w5 hB1
   have HB := Yh_ hB1
   have c1 := Ya HB.out.o; unfold Opd.cells at c1
   clear hB1
   go_wp2_with fail
   first
   |exact hK _ (HB.out.same _ (by decide) (by decide))
   |exact HB.out.same _ (by decide) (by decide)
  ·exact ⟨_, rfl⟩
 apply Yf rfl rfl
 ·intro dd K hd hK w5 hB1
  have HB := Yh_ hB1
  have c1 := Ya HB.out.o; unfold Opd.cells at c1
  clear hB1
  go_wp2_with (go_at_call 56; refine (Yba _ _).mono ?_; rintro e w' ⟨rfl, hu⟩; rw [show (Yn (n)).val = .agg #[.int .i64 1, .int .i64 (n), .int .u32 0, .int .i64 0, .int .i64 0, .int .u32 0] from rfl])
  first
  |exact hK _ (HB.out.quiet hu _ (by decide) (by decide))
  |exact HB.out.quiet hu _ (by decide) (by decide)
 ·exact ⟨_, rfl⟩
 refine Yal (fun _ w3 dd hall hB1 => ?_)
 obtain ⟨C3, hC, hI⟩ := hB1.fin (.inr rfl)
 clear hI
 have H3 := Yh_ hC
 have cm := Ya H3.out.o
 unfold Opd.cells at cm
 clear hC hall hB1
 go_wp2_with (have _t := H3; clear _t; refine Ye 42 rfl ?_; refine Yb ⟨11, 0, o, Yn n, false, 0⟩ (w.heap.size) rfl _ _ rfl rfl rfl (H3.out).r (H3.out).z ?_; intro w4 hw; have H4 := Yh_ ((H3.out).store hw); clear hw H3)
 exact bodyPost_ret (Yg rfl (Yi 4 (w.heap.size) _ rfl H4.out.r) (Yk 5 rfl)) rfl ⟨rfl, H4.out.h, H4.out.u⟩
theorem rmod_135 (d g : Nat) (s : Rd) (v : Value) (L : List Int) (w : World) (hD : Yl w d v L g s) (o : Opd) (ho : reM L s = o) (n : Int) (hn : reN L s = n) (k2 : Nat) (hs2 : Yab L s = ⟨k2, false, false⟩)  :
  Calls Tryz.prog 61 #[.pointer (some ⟨d, 0, none⟩), .int .u8 135] w (Yr d v L g w ⟨⟨27, 0, o, Yn n, false, 0⟩, false, ⟨k2, false, false⟩⟩) := by
 have HO := Yh_ ho
 have HN := Yh_ hn
 have HS2 := Yh_ hs2
 have hmo : Tryz.prog.follows .mixedOrders = true := by kernel_rfl
 have H1 := Yh_ (RiS.start hD)
 clear hD ho hn hs2
 go_enter Tryz.func61, Tryz.ntmps61
 go_wp2_with (have _t := H1; clear _t; go_at_call 72; refine (Ya4 d g _ v L _ (H1.out).h).mono ?_; rintro e w2 ⟨rfl, h, hu⟩; rw [HO.out, HN.out]; rw [HS2.out] at h; unfold Opd.val; have H2 := Yh_ (((H1.out).call h hu).mvar o); have cs := Ya (Yc (.cells #[.int .i64 o.k, .int .i64 o.r, .int .u32 o.imm, .int .i64 o.b, .int .i64 o.x, .int .u32 o.sc] 40) h.h); have fs := Yh (Yc (.cells #[.int .i64 o.k, .int .i64 o.r, .int .u32 o.imm, .int .i64 o.b, .int .i64 o.x, .int .u32 o.sc] 40) h.h); clear h hu H1)
 refine Yaq 3 (RiB w d v L g ⟨k2, false, false⟩ ⟨k2, false, false⟩ 999 999 Ins.zero (w.heap.size) (w2.heap.size) o) (fun _ _ => False) (by kernel_rfl) (by decide +kernel) (RiB.start (H2.out)) (fun _ _ _ h => h.elim) ?_
 simp only [List.take_succ_cons, List.take_zero, List.drop_succ_cons, List.drop_zero]
 iterate 2
  apply Yf rfl rfl
  ·intro dd K hd hK w5 hB1
   have HB := Yh_ hB1
   have c1 := Ya HB.out.o; unfold Opd.cells at c1
   clear hB1
   go_wp2_with fail
   first
   |exact hK _ (HB.out.same _ (by decide) (by decide))
   |exact HB.out.same _ (by decide) (by decide)
  ·exact ⟨_, rfl⟩
 apply Yf rfl rfl
 ·intro dd K hd hK w5 hB1
  have HB := Yh_ hB1
  have c1 := Ya HB.out.o; unfold Opd.cells at c1
  clear hB1
  go_wp2_with (go_at_call 56; refine (Yba _ _).mono ?_; rintro e w' ⟨rfl, hu⟩; rw [show (Yn (n)).val = .agg #[.int .i64 1, .int .i64 (n), .int .u32 0, .int .i64 0, .int .i64 0, .int .u32 0] from rfl])
  first
  |exact hK _ (HB.out.quiet hu _ (by decide) (by decide))
  |exact HB.out.quiet hu _ (by decide) (by decide)
 ·exact ⟨_, rfl⟩
 refine Yal (fun _ w3 dd hall hB1 => ?_)
 obtain ⟨C3, hC, hI⟩ := hB1.fin (.inr rfl)
 clear hI
 have H3 := Yh_ hC
 have cm := Ya H3.out.o
 unfold Opd.cells at cm
 clear hC hall hB1
 go_wp2_with (have _t := H3; clear _t; refine Ye 42 rfl ?_; refine Yb ⟨27, 0, o, Yn n, false, 0⟩ (w.heap.size) rfl _ _ rfl rfl rfl (H3.out).r (H3.out).z ?_; intro w4 hw; have H4 := Yh_ ((H3.out).store hw); clear hw H3)
 exact bodyPost_ret (Yg rfl (Yi 4 (w.heap.size) _ rfl H4.out.r) (Yk 5 rfl)) rfl ⟨rfl, H4.out.h, H4.out.u⟩
theorem rmod_136 (d g : Nat) (s : Rd) (v : Value) (L : List Int) (w : World) (hD : Yl w d v L g s) (o : Opd) (ho : reM L s = o) (n : Int) (hn : reN L s = n) (k2 : Nat) (hs2 : Yab L s = ⟨k2, false, false⟩)  :
  Calls Tryz.prog 61 #[.pointer (some ⟨d, 0, none⟩), .int .u8 136] w (Yr d v L g w ⟨⟨2, 0, o, Yn n, false, 0⟩, false, ⟨k2, false, false⟩⟩) := by
 have HO := Yh_ ho
 have HN := Yh_ hn
 have HS2 := Yh_ hs2
 have hmo : Tryz.prog.follows .mixedOrders = true := by kernel_rfl
 have H1 := Yh_ (RiS.start hD)
 clear hD ho hn hs2
 go_enter Tryz.func61, Tryz.ntmps61
 go_wp2_with (have _t := H1; clear _t; go_at_call 72; refine (Ya4 d g _ v L _ (H1.out).h).mono ?_; rintro e w2 ⟨rfl, h, hu⟩; rw [HO.out, HN.out]; rw [HS2.out] at h; unfold Opd.val; have H2 := Yh_ (((H1.out).call h hu).mvar o); have cs := Ya (Yc (.cells #[.int .i64 o.k, .int .i64 o.r, .int .u32 o.imm, .int .i64 o.b, .int .i64 o.x, .int .u32 o.sc] 40) h.h); have fs := Yh (Yc (.cells #[.int .i64 o.k, .int .i64 o.r, .int .u32 o.imm, .int .i64 o.b, .int .i64 o.x, .int .u32 o.sc] 40) h.h); clear h hu H1)
 refine Yaq 3 (RiB w d v L g ⟨k2, false, false⟩ ⟨k2, false, false⟩ 999 999 Ins.zero (w.heap.size) (w2.heap.size) o) (fun _ _ => False) (by kernel_rfl) (by decide +kernel) (RiB.start (H2.out)) (fun _ _ _ h => h.elim) ?_
 simp only [List.take_succ_cons, List.take_zero, List.drop_succ_cons, List.drop_zero]
 iterate 2
  apply Yf rfl rfl
  ·intro dd K hd hK w5 hB1
   have HB := Yh_ hB1
   have c1 := Ya HB.out.o; unfold Opd.cells at c1
   clear hB1
   go_wp2_with fail
   first
   |exact hK _ (HB.out.same _ (by decide) (by decide))
   |exact HB.out.same _ (by decide) (by decide)
  ·exact ⟨_, rfl⟩
 apply Yf rfl rfl
 ·intro dd K hd hK w5 hB1
  have HB := Yh_ hB1
  have c1 := Ya HB.out.o; unfold Opd.cells at c1
  clear hB1
  go_wp2_with (go_at_call 56; refine (Yba _ _).mono ?_; rintro e w' ⟨rfl, hu⟩; rw [show (Yn (n)).val = .agg #[.int .i64 1, .int .i64 (n), .int .u32 0, .int .i64 0, .int .i64 0, .int .u32 0] from rfl])
  first
  |exact hK _ (HB.out.quiet hu _ (by decide) (by decide))
  |exact HB.out.quiet hu _ (by decide) (by decide)
 ·exact ⟨_, rfl⟩
 refine Yal (fun _ w3 dd hall hB1 => ?_)
 obtain ⟨C3, hC, hI⟩ := hB1.fin (.inr rfl)
 clear hI
 have H3 := Yh_ hC
 have cm := Ya H3.out.o
 unfold Opd.cells at cm
 clear hC hall hB1
 go_wp2_with (have _t := H3; clear _t; refine Ye 42 rfl ?_; refine Yb ⟨2, 0, o, Yn n, false, 0⟩ (w.heap.size) rfl _ _ rfl rfl rfl (H3.out).r (H3.out).z ?_; intro w4 hw; have H4 := Yh_ ((H3.out).store hw); clear hw H3)
 exact bodyPost_ret (Yg rfl (Yi 4 (w.heap.size) _ rfl H4.out.r) (Yk 5 rfl)) rfl ⟨rfl, H4.out.h, H4.out.u⟩
theorem rmod_137 (d g : Nat) (s : Rd) (v : Value) (L : List Int) (w : World) (hD : Yl w d v L g s) (o : Opd) (ho : reM L s = o) (n : Int) (hn : reN L s = n) (k2 : Nat) (hs2 : Yab L s = ⟨k2, false, false⟩)  :
  Calls Tryz.prog 61 #[.pointer (some ⟨d, 0, none⟩), .int .u8 137] w (Yr d v L g w ⟨⟨1, 0, o, Yn n, false, 0⟩, false, ⟨k2, false, false⟩⟩) := by
 have HO := Yh_ ho
 have HN := Yh_ hn
 have HS2 := Yh_ hs2
 have hmo : Tryz.prog.follows .mixedOrders = true := by kernel_rfl
 have H1 := Yh_ (RiS.start hD)
 clear hD ho hn hs2
 go_enter Tryz.func61, Tryz.ntmps61
 go_wp2_with (have _t := H1; clear _t; go_at_call 72; refine (Ya4 d g _ v L _ (H1.out).h).mono ?_; rintro e w2 ⟨rfl, h, hu⟩; rw [HO.out, HN.out]; rw [HS2.out] at h; unfold Opd.val; have H2 := Yh_ (((H1.out).call h hu).mvar o); have cs := Ya (Yc (.cells #[.int .i64 o.k, .int .i64 o.r, .int .u32 o.imm, .int .i64 o.b, .int .i64 o.x, .int .u32 o.sc] 40) h.h); have fs := Yh (Yc (.cells #[.int .i64 o.k, .int .i64 o.r, .int .u32 o.imm, .int .i64 o.b, .int .i64 o.x, .int .u32 o.sc] 40) h.h); clear h hu H1)
 refine Yaq 3 (RiB w d v L g ⟨k2, false, false⟩ ⟨k2, false, false⟩ 999 999 Ins.zero (w.heap.size) (w2.heap.size) o) (fun _ _ => False) (by kernel_rfl) (by decide +kernel) (RiB.start (H2.out)) (fun _ _ _ h => h.elim) ?_
 simp only [List.take_succ_cons, List.take_zero, List.drop_succ_cons, List.drop_zero]
 iterate 2
  apply Yf rfl rfl
  ·intro dd K hd hK w5 hB1
   have HB := Yh_ hB1
   have c1 := Ya HB.out.o; unfold Opd.cells at c1
   clear hB1
   go_wp2_with fail
   first
   |exact hK _ (HB.out.same _ (by decide) (by decide))
   |exact HB.out.same _ (by decide) (by decide)
  ·exact ⟨_, rfl⟩
 apply Yf rfl rfl
 ·intro dd K hd hK w5 hB1
  have HB := Yh_ hB1
  have c1 := Ya HB.out.o; unfold Opd.cells at c1
  clear hB1
  go_wp2_with (go_at_call 56; refine (Yba _ _).mono ?_; rintro e w' ⟨rfl, hu⟩; rw [show (Yn (n)).val = .agg #[.int .i64 1, .int .i64 (n), .int .u32 0, .int .i64 0, .int .i64 0, .int .u32 0] from rfl])
  first
  |exact hK _ (HB.out.quiet hu _ (by decide) (by decide))
  |exact HB.out.quiet hu _ (by decide) (by decide)
 ·exact ⟨_, rfl⟩
 refine Yal (fun _ w3 dd hall hB1 => ?_)
 obtain ⟨C3, hC, hI⟩ := hB1.fin (.inr rfl)
 clear hI
 have H3 := Yh_ hC
 have cm := Ya H3.out.o
 unfold Opd.cells at cm
 clear hC hall hB1
 go_wp2_with (have _t := H3; clear _t; refine Ye 42 rfl ?_; refine Yb ⟨1, 0, o, Yn n, false, 0⟩ (w.heap.size) rfl _ _ rfl rfl rfl (H3.out).r (H3.out).z ?_; intro w4 hw; have H4 := Yh_ ((H3.out).store hw); clear hw H3)
 exact bodyPost_ret (Yg rfl (Yi 4 (w.heap.size) _ rfl H4.out.r) (Yk 5 rfl)) rfl ⟨rfl, H4.out.h, H4.out.u⟩
theorem rmod_138 (d g : Nat) (s : Rd) (v : Value) (L : List Int) (w : World) (hD : Yl w d v L g s) (o : Opd) (ho : reM L s = o) (n : Int) (hn : reN L s = n) (k2 : Nat) (hs2 : Yab L s = ⟨k2, false, false⟩)  :
  Calls Tryz.prog 61 #[.pointer (some ⟨d, 0, none⟩), .int .u8 138] w (Yr d v L g w ⟨⟨2, 0, Yn n, o, false, 0⟩, false, ⟨k2, false, false⟩⟩) := by
 have HO := Yh_ ho
 have HN := Yh_ hn
 have HS2 := Yh_ hs2
 have hmo : Tryz.prog.follows .mixedOrders = true := by kernel_rfl
 have H1 := Yh_ (RiS.start hD)
 clear hD ho hn hs2
 go_enter Tryz.func61, Tryz.ntmps61
 go_wp2_with (have _t := H1; clear _t; go_at_call 72; refine (Ya4 d g _ v L _ (H1.out).h).mono ?_; rintro e w2 ⟨rfl, h, hu⟩; rw [HO.out, HN.out]; rw [HS2.out] at h; unfold Opd.val; have H2 := Yh_ (((H1.out).call h hu).mvar o); have cs := Ya (Yc (.cells #[.int .i64 o.k, .int .i64 o.r, .int .u32 o.imm, .int .i64 o.b, .int .i64 o.x, .int .u32 o.sc] 40) h.h); have fs := Yh (Yc (.cells #[.int .i64 o.k, .int .i64 o.r, .int .u32 o.imm, .int .i64 o.b, .int .i64 o.x, .int .u32 o.sc] 40) h.h); clear h hu H1)
 refine Yaq 3 (RiB w d v L g ⟨k2, false, false⟩ ⟨k2, false, false⟩ 999 999 Ins.zero (w.heap.size) (w2.heap.size) o) (fun _ _ => False) (by kernel_rfl) (by decide +kernel) (RiB.start (H2.out)) (fun _ _ _ h => h.elim) ?_
 simp only [List.take_succ_cons, List.take_zero, List.drop_succ_cons, List.drop_zero]
 apply Yf rfl rfl
 ·intro dd K hd hK w5 hB1
  have HB := Yh_ hB1
  have c1 := Ya HB.out.o; unfold Opd.cells at c1
  clear hB1
  go_wp2_with fail
  first
  |exact hK _ (HB.out.same _ (by decide) (by decide))
  |exact HB.out.same _ (by decide) (by decide)
 ·exact ⟨_, rfl⟩
 apply Yf rfl rfl
 ·intro dd K hd hK w5 hB1
  have HB := Yh_ hB1
  have c1 := Ya HB.out.o; unfold Opd.cells at c1
  clear hB1
  go_wp2_with (go_at_call 56; refine (Yba _ _).mono ?_; rintro e w' ⟨rfl, hu⟩; rw [show (Yn (n)).val = .agg #[.int .i64 1, .int .i64 (n), .int .u32 0, .int .i64 0, .int .i64 0, .int .u32 0] from rfl])
  first
  |exact hK _ (HB.out.quiet hu _ (by decide) (by decide))
  |exact HB.out.quiet hu _ (by decide) (by decide)
 ·exact ⟨_, rfl⟩
 apply Yf rfl rfl
 ·intro dd K hd hK w5 hB1
  have HB := Yh_ hB1
  have c1 := Ya HB.out.o; unfold Opd.cells at c1
  clear hB1
  go_wp2_with fail
  first
  |exact hK _ (HB.out.same _ (by decide) (by decide))
  |exact HB.out.same _ (by decide) (by decide)
 ·exact ⟨_, rfl⟩
 refine Yal (fun _ w3 dd hall hB1 => ?_)
 obtain ⟨C3, hC, hI⟩ := hB1.fin (.inr rfl)
 clear hI
 have H3 := Yh_ hC
 have cm := Ya H3.out.o
 unfold Opd.cells at cm
 clear hC hall hB1
 go_wp2_with (have _t := H3; clear _t; refine Ye 42 rfl ?_; refine Yb ⟨2, 0, Yn n, o, false, 0⟩ (w.heap.size) rfl _ _ rfl rfl rfl (H3.out).r (H3.out).z ?_; intro w4 hw; have H4 := Yh_ ((H3.out).store hw); clear hw H3)
 exact bodyPost_ret (Yg rfl (Yi 4 (w.heap.size) _ rfl H4.out.r) (Yk 5 rfl)) rfl ⟨rfl, H4.out.h, H4.out.u⟩
theorem rmod_139 (d g : Nat) (s : Rd) (v : Value) (L : List Int) (w : World) (hD : Yl w d v L g s) (o : Opd) (ho : reM L s = o) (n : Int) (hn : reN L s = n) (k2 : Nat) (hs2 : Yab L s = ⟨k2, false, false⟩)  :
  Calls Tryz.prog 61 #[.pointer (some ⟨d, 0, none⟩), .int .u8 139] w (Yr d v L g w ⟨⟨1, 0, Yn n, o, false, 0⟩, false, ⟨k2, false, false⟩⟩) := by
 have HO := Yh_ ho
 have HN := Yh_ hn
 have HS2 := Yh_ hs2
 have hmo : Tryz.prog.follows .mixedOrders = true := by kernel_rfl
 have H1 := Yh_ (RiS.start hD)
 clear hD ho hn hs2
 go_enter Tryz.func61, Tryz.ntmps61
 go_wp2_with (have _t := H1; clear _t; go_at_call 72; refine (Ya4 d g _ v L _ (H1.out).h).mono ?_; rintro e w2 ⟨rfl, h, hu⟩; rw [HO.out, HN.out]; rw [HS2.out] at h; unfold Opd.val; have H2 := Yh_ (((H1.out).call h hu).mvar o); have cs := Ya (Yc (.cells #[.int .i64 o.k, .int .i64 o.r, .int .u32 o.imm, .int .i64 o.b, .int .i64 o.x, .int .u32 o.sc] 40) h.h); have fs := Yh (Yc (.cells #[.int .i64 o.k, .int .i64 o.r, .int .u32 o.imm, .int .i64 o.b, .int .i64 o.x, .int .u32 o.sc] 40) h.h); clear h hu H1)
 refine Yaq 3 (RiB w d v L g ⟨k2, false, false⟩ ⟨k2, false, false⟩ 999 999 Ins.zero (w.heap.size) (w2.heap.size) o) (fun _ _ => False) (by kernel_rfl) (by decide +kernel) (RiB.start (H2.out)) (fun _ _ _ h => h.elim) ?_
 simp only [List.take_succ_cons, List.take_zero, List.drop_succ_cons, List.drop_zero]
 apply Yf rfl rfl
 ·intro dd K hd hK w5 hB1
  have HB := Yh_ hB1
  have c1 := Ya HB.out.o; unfold Opd.cells at c1
  clear hB1
  go_wp2_with fail
  first
  |exact hK _ (HB.out.same _ (by decide) (by decide))
  |exact HB.out.same _ (by decide) (by decide)
 ·exact ⟨_, rfl⟩
 apply Yf rfl rfl
 ·intro dd K hd hK w5 hB1
  have HB := Yh_ hB1
  have c1 := Ya HB.out.o; unfold Opd.cells at c1
  clear hB1
  go_wp2_with (go_at_call 56; refine (Yba _ _).mono ?_; rintro e w' ⟨rfl, hu⟩; rw [show (Yn (n)).val = .agg #[.int .i64 1, .int .i64 (n), .int .u32 0, .int .i64 0, .int .i64 0, .int .u32 0] from rfl])
  first
  |exact hK _ (HB.out.quiet hu _ (by decide) (by decide))
  |exact HB.out.quiet hu _ (by decide) (by decide)
 ·exact ⟨_, rfl⟩
 apply Yf rfl rfl
 ·intro dd K hd hK w5 hB1
  have HB := Yh_ hB1
  have c1 := Ya HB.out.o; unfold Opd.cells at c1
  clear hB1
  go_wp2_with fail
  first
  |exact hK _ (HB.out.same _ (by decide) (by decide))
  |exact HB.out.same _ (by decide) (by decide)
 ·exact ⟨_, rfl⟩
 refine Yal (fun _ w3 dd hall hB1 => ?_)
 obtain ⟨C3, hC, hI⟩ := hB1.fin (.inr rfl)
 clear hI
 have H3 := Yh_ hC
 have cm := Ya H3.out.o
 unfold Opd.cells at cm
 clear hC hall hB1
 go_wp2_with (have _t := H3; clear _t; refine Ye 42 rfl ?_; refine Yb ⟨1, 0, Yn n, o, false, 0⟩ (w.heap.size) rfl _ _ rfl rfl rfl (H3.out).r (H3.out).z ?_; intro w4 hw; have H4 := Yh_ ((H3.out).store hw); clear hw H3)
 exact bodyPost_ret (Yg rfl (Yi 4 (w.heap.size) _ rfl H4.out.r) (Yk 5 rfl)) rfl ⟨rfl, H4.out.h, H4.out.u⟩
theorem Yss (d g : Nat) (s : Rd) (v : Value) (L : List Int) (w : World) (hD : Yl w d v L g s) (o : Opd) (ho : reM L s = o) (n : Int) (hn : reN L s = n) (k2 : Nat) (hs2 : Yab L s = ⟨k2, false, false⟩) (hk : o.k = 1) :
  Calls Tryz.prog 61 #[.pointer (some ⟨d, 0, none⟩), .int .u8 141] w (Yr d v L g w ⟨⟨26, 0, Yn n, o, false, 0⟩, false, ⟨k2, false, true⟩⟩) := by
 have HO := Yh_ ho
 have HN := Yh_ hn
 have HS2 := Yh_ hs2
 have hmo : Tryz.prog.follows .mixedOrders = true := by kernel_rfl
 have q1 : (o.k == 1) = true := by simpa using hk
 have H1 := Yh_ (RiS.start hD)
 clear hD ho hn hs2 hk
 go_enter Tryz.func61, Tryz.ntmps61
 go_wp2_with (have _t := H1; clear _t; go_at_call 72; refine (Ya4 d g _ v L _ (H1.out).h).mono ?_; rintro e w2 ⟨rfl, h, hu⟩; rw [HO.out, HN.out]; rw [HS2.out] at h; unfold Opd.val; have H2 := Yh_ (((H1.out).call h hu).mvar o); have cs := Ya (Yc (.cells #[.int .i64 o.k, .int .i64 o.r, .int .u32 o.imm, .int .i64 o.b, .int .i64 o.x, .int .u32 o.sc] 40) h.h); have fs := Yh (Yc (.cells #[.int .i64 o.k, .int .i64 o.r, .int .u32 o.imm, .int .i64 o.b, .int .i64 o.x, .int .u32 o.sc] 40) h.h); clear h hu H1)
 go_wp2_with fail
 refine Yaq 3 (RiB w d v L g ⟨k2, false, true⟩ ⟨k2, false, true⟩ 999 999 Ins.zero (w.heap.size) (w2.heap.size) o) (fun _ _ => False) (by kernel_rfl) (by decide +kernel) (RiB.start ((H2.out.setB true))) (fun _ _ _ h => h.elim) ?_
 simp only [List.take_succ_cons, List.take_zero, List.drop_succ_cons, List.drop_zero]
 apply Yf rfl rfl
 ·intro dd K hd hK w5 hB1
  have HB := Yh_ hB1
  have c1 := Ya HB.out.o; unfold Opd.cells at c1
  clear hB1
  go_wp2_with fail
  first
  |exact hK _ (HB.out.same _ (by decide) (by decide))
  |exact HB.out.same _ (by decide) (by decide)
 ·exact ⟨_, rfl⟩
 apply Yf rfl rfl
 ·intro dd K hd hK w5 hB1
  have HB := Yh_ hB1
  have c1 := Ya HB.out.o; unfold Opd.cells at c1
  clear hB1
  go_wp2_with (go_at_call 56; refine (Yba _ _).mono ?_; rintro e w' ⟨rfl, hu⟩; rw [show (Yn (n)).val = .agg #[.int .i64 1, .int .i64 (n), .int .u32 0, .int .i64 0, .int .i64 0, .int .u32 0] from rfl])
  first
  |exact hK _ (HB.out.quiet hu _ (by decide) (by decide))
  |exact HB.out.quiet hu _ (by decide) (by decide)
 ·exact ⟨_, rfl⟩
 apply Yf rfl rfl
 ·intro dd K hd hK w5 hB1
  have HB := Yh_ hB1
  have c1 := Ya HB.out.o; unfold Opd.cells at c1
  clear hB1
  go_wp2_with fail
  first
  |exact hK _ (HB.out.same _ (by decide) (by decide))
  |exact HB.out.same _ (by decide) (by decide)
 ·exact ⟨_, rfl⟩
 refine Yal (fun _ w3 dd hall hB1 => ?_)
 obtain ⟨C3, hC, hI⟩ := hB1.fin (.inr rfl)
 clear hI
 have H3 := Yh_ hC
 have cm := Ya H3.out.o
 unfold Opd.cells at cm
 clear hC hall hB1
 go_wp2_with (have _t := H3; clear _t; refine Ye 42 rfl ?_; refine Yb ⟨26, 0, Yn n, o, false, 0⟩ (w.heap.size) rfl _ _ rfl rfl rfl (H3.out).r (H3.out).z ?_; intro w4 hw; have H4 := Yh_ ((H3.out).store hw); clear hw H3)
 exact bodyPost_ret (Yg rfl (Yi 4 (w.heap.size) _ rfl H4.out.r) (Yk 5 rfl)) rfl ⟨rfl, H4.out.h, H4.out.u⟩
theorem Yso (d g : Nat) (s : Rd) (v : Value) (L : List Int) (w : World) (hD : Yl w d v L g s) (o : Opd) (ho : reM L s = o) (n : Int) (hn : reN L s = n) (k2 : Nat) (hs2 : Yab L s = ⟨k2, false, false⟩) (hk : o.k ≠ 1) :
  Calls Tryz.prog 61 #[.pointer (some ⟨d, 0, none⟩), .int .u8 141] w (Yr d v L g w ⟨⟨26, 0, Yn n, o, false, 0⟩, false, ⟨k2, false, false⟩⟩) := by
 have HO := Yh_ ho
 have HN := Yh_ hn
 have HS2 := Yh_ hs2
 have hmo : Tryz.prog.follows .mixedOrders = true := by kernel_rfl
 have q1 : (o.k == 1) = false := by simpa using hk
 have H1 := Yh_ (RiS.start hD)
 clear hD ho hn hs2 hk
 go_enter Tryz.func61, Tryz.ntmps61
 go_wp2_with (have _t := H1; clear _t; go_at_call 72; refine (Ya4 d g _ v L _ (H1.out).h).mono ?_; rintro e w2 ⟨rfl, h, hu⟩; rw [HO.out, HN.out]; rw [HS2.out] at h; unfold Opd.val; have H2 := Yh_ (((H1.out).call h hu).mvar o); have cs := Ya (Yc (.cells #[.int .i64 o.k, .int .i64 o.r, .int .u32 o.imm, .int .i64 o.b, .int .i64 o.x, .int .u32 o.sc] 40) h.h); have fs := Yh (Yc (.cells #[.int .i64 o.k, .int .i64 o.r, .int .u32 o.imm, .int .i64 o.b, .int .i64 o.x, .int .u32 o.sc] 40) h.h); clear h hu H1)
 go_wp2_with fail
 refine Yaq 3 (RiB w d v L g ⟨k2, false, false⟩ ⟨k2, false, false⟩ 999 999 Ins.zero (w.heap.size) (w2.heap.size) o) (fun _ _ => False) (by kernel_rfl) (by decide +kernel) (RiB.start ((H2.out.setB false))) (fun _ _ _ h => h.elim) ?_
 simp only [List.take_succ_cons, List.take_zero, List.drop_succ_cons, List.drop_zero]
 apply Yf rfl rfl
 ·intro dd K hd hK w5 hB1
  have HB := Yh_ hB1
  have c1 := Ya HB.out.o; unfold Opd.cells at c1
  clear hB1
  go_wp2_with fail
  first
  |exact hK _ (HB.out.same _ (by decide) (by decide))
  |exact HB.out.same _ (by decide) (by decide)
 ·exact ⟨_, rfl⟩
 apply Yf rfl rfl
 ·intro dd K hd hK w5 hB1
  have HB := Yh_ hB1
  have c1 := Ya HB.out.o; unfold Opd.cells at c1
  clear hB1
  go_wp2_with (go_at_call 56; refine (Yba _ _).mono ?_; rintro e w' ⟨rfl, hu⟩; rw [show (Yn (n)).val = .agg #[.int .i64 1, .int .i64 (n), .int .u32 0, .int .i64 0, .int .i64 0, .int .u32 0] from rfl])
  first
  |exact hK _ (HB.out.quiet hu _ (by decide) (by decide))
  |exact HB.out.quiet hu _ (by decide) (by decide)
 ·exact ⟨_, rfl⟩
 apply Yf rfl rfl
 ·intro dd K hd hK w5 hB1
  have HB := Yh_ hB1
  have c1 := Ya HB.out.o; unfold Opd.cells at c1
  clear hB1
  go_wp2_with fail
  first
  |exact hK _ (HB.out.same _ (by decide) (by decide))
  |exact HB.out.same _ (by decide) (by decide)
 ·exact ⟨_, rfl⟩
 refine Yal (fun _ w3 dd hall hB1 => ?_)
 obtain ⟨C3, hC, hI⟩ := hB1.fin (.inr rfl)
 clear hI
 have H3 := Yh_ hC
 have cm := Ya H3.out.o
 unfold Opd.cells at cm
 clear hC hall hB1
 go_wp2_with (have _t := H3; clear _t; refine Ye 42 rfl ?_; refine Yb ⟨26, 0, Yn n, o, false, 0⟩ (w.heap.size) rfl _ _ rfl rfl rfl (H3.out).r (H3.out).z ?_; intro w4 hw; have H4 := Yh_ ((H3.out).store hw); clear hw H3)
 exact bodyPost_ret (Yg rfl (Yi 4 (w.heap.size) _ rfl H4.out.r) (Yk 5 rfl)) rfl ⟨rfl, H4.out.h, H4.out.u⟩
theorem Ysb (d g : Nat) (s : Rd) (v : Value) (L : List Int) (w : World) (hD : Yl w d v L g s) (o : Opd) (ho : reM L s = o) (n : Int) (hn : reN L s = n) (k2 : Nat) (hs2 : Yab L s = ⟨k2, false, false⟩) (hn8 : 0 ≤ n ∧ n < 8) (hz : Yaa n = 0) :
  Calls Tryz.prog 61 #[.pointer (some ⟨d, 0, none⟩), .int .u8 193] w (Yr d v L g w ⟨Ins.zero, true, ⟨k2, false, false⟩⟩) := by
 have HO := Yh_ ho
 have HN := Yh_ hn
 have HS2 := Yh_ hs2
 have hmo : Tryz.prog.follows .mixedOrders = true := by kernel_rfl
 have hix := fun w : World => Ydf hn8.1 hn8.2 w
 rw [hz] at hix
 have H1 := Yh_ (RiS.start hD)
 clear hD ho hn hs2 hn8 hz
 go_enter Tryz.func61, Tryz.ntmps61
 go_wp2_with (first | (have _t := H1; clear _t; go_at_call 72; refine (Ya4 d g _ v L _ (H1.out).h).mono ?_; rintro e w2 ⟨rfl, h, hu⟩; rw [HO.out, HN.out]; rw [HS2.out] at h; unfold Opd.val; have H2 := Yh_ (((H1.out).call h hu).mvar o); have cs := Ya (Yc (.cells #[.int .i64 o.k, .int .i64 o.r, .int .u32 o.imm, .int .i64 o.b, .int .i64 o.x, .int .u32 o.sc] 40) h.h); have fs := Yh (Yc (.cells #[.int .i64 o.k, .int .i64 o.r, .int .u32 o.imm, .int .i64 o.b, .int .i64 o.x, .int .u32 o.sc] 40) h.h); clear h hu H1) | (have _t := H2; clear _t; go_at_call 75; refine (Ych _).mono ?_; rintro e w3 ⟨rfl, hu⟩; have H3 := Yh_ ((H2.out).step hu); clear hu H2 cs fs) | (have _t := H3; clear _t; refine Ye 42 rfl ?_; refine Yb Ins.zero (w.heap.size) rfl _ _ rfl rfl rfl (H3.out).r (H3.out).z ?_; intro w4 hw; have H4 := Yh_ ((H3.out).store hw); clear hw H3))
 exact bodyPost_ret (Yg rfl (Yi 4 (w.heap.size) _ rfl H4.out.r) (Yk 5 rfl)) rfl ⟨rfl, H4.out.h, H4.out.u⟩
theorem Yr1 (d g : Nat) (s : Rd) (v : Value) (L : List Int) (w : World) (hD : Yl w d v L g s) (o : Opd) (ho : reM L s = o) (n : Int) (hn : reN L s = n) (k2 : Nat) (hs2 : Yab L s = ⟨k2, false, false⟩) (hn8 : 0 ≤ n ∧ n < 8) (hz : Yaa n ≠ 0) :
  Calls Tryz.prog 61 #[.pointer (some ⟨d, 0, none⟩), .int .u8 193] w (Yr d v L g w ⟨⟨Yaa n, 0, o, Yac (reB L ⟨k2, false, false⟩), false, 0⟩, false, (Ym L ⟨k2, false, false⟩)⟩) := by
 have HO := Yh_ ho
 have HN := Yh_ hn
 have HS2 := Yh_ hs2
 have hmo : Tryz.prog.follows .mixedOrders = true := by kernel_rfl
 have hix := fun w : World => Ydf hn8.1 hn8.2 w
 have q1 : (Yaa n == 0) = false := by simpa using hz
 have hb := Yae hD.r ⟨k2, false, false⟩
 have q2 : reB L ⟨k2, false, false⟩ % 4294967296 = reB L ⟨k2, false, false⟩ := by omega
 have H1 := Yh_ (RiS.start hD)
 clear hD ho hn hs2 hn8 hz hb
 go_enter Tryz.func61, Tryz.ntmps61
 go_wp2_with (first | (have _t := H1; clear _t; go_at_call 72; refine (Ya4 d g _ v L _ (H1.out).h).mono ?_; rintro e w2 ⟨rfl, h, hu⟩; rw [HO.out, HN.out]; rw [HS2.out] at h; unfold Opd.val; have H2 := Yh_ (((H1.out).call h hu).mvar o); have cs := Ya (Yc (.cells #[.int .i64 o.k, .int .i64 o.r, .int .u32 o.imm, .int .i64 o.b, .int .i64 o.x, .int .u32 o.sc] 40) h.h); have fs := Yh (Yc (.cells #[.int .i64 o.k, .int .i64 o.r, .int .u32 o.imm, .int .i64 o.b, .int .i64 o.x, .int .u32 o.sc] 40) h.h); clear h hu H1) | (have _t := H2; clear _t; go_at_call 75; refine (Ych _).mono ?_; rintro e w3 ⟨rfl, hu⟩; have H3 := Yh_ ((H2.out).step hu); clear hu H2 cs fs))
 refine Yaq 8 (RiB w d v L g ⟨k2, false, false⟩ (Ym L ⟨k2, false, false⟩) 5 999 Ins.zero (w.heap.size) (w2.heap.size) o) (fun _ _ => False) (by kernel_rfl) (by decide +kernel) (RiB.start (H3.out)) (fun _ _ _ h => h.elim) ?_
 simp only [List.take_succ_cons, List.take_zero, List.drop_succ_cons, List.drop_zero]
 apply Yf rfl rfl
 ·intro dd K hd hK w5 hB1
  have HB := Yh_ hB1
  have c1 := Ya HB.out.o; unfold Opd.cells at c1
  clear hB1
  go_wp2_with (go_at_call 75; refine (Ych _).mono ?_; rintro e w' ⟨rfl, hu⟩)
  first
  |exact hK _ (HB.out.quiet hu _ (by decide) (by decide))
  |exact HB.out.quiet hu _ (by decide) (by decide)
 ·exact ⟨_, rfl⟩
 iterate 4
  apply Yf rfl rfl
  ·intro dd K hd hK w5 hB1
   have HB := Yh_ hB1
   have c1 := Ya HB.out.o; unfold Opd.cells at c1
   clear hB1
   go_wp2_with fail
   first
   |exact hK _ (HB.out.same _ (by decide) (by decide))
   |exact HB.out.same _ (by decide) (by decide)
  ·exact ⟨_, rfl⟩
 apply Yf rfl rfl
 ·intro dd K hd hK w5 hB1
  have HB := Yh_ hB1
  have c1 := Ya HB.out.o; unfold Opd.cells at c1
  clear hB1
  go_wp2_with (go_at_call 53; refine (Yy d g _ v L _ (HB.out.rd hd)).mono ?_; rintro e w' ⟨rfl, h, hu⟩)
  first
  |exact hK _ (HB.out.call hd (by decide) h hu)
  |exact HB.out.call hd (by decide) h hu
 ·exact ⟨_, rfl⟩
 apply Yf rfl rfl
 ·intro dd K hd hK w5 hB1
  have HB := Yh_ hB1
  have c1 := Ya HB.out.o; unfold Opd.cells at c1
  clear hB1
  go_wp2_with fail
  first
  |exact hK _ (HB.out.same _ (by decide) (by decide))
  |exact HB.out.same _ (by decide) (by decide)
 ·exact ⟨_, rfl⟩
 apply Yf rfl rfl
 ·intro dd K hd hK w5 hB1
  have HB := Yh_ hB1
  have c1 := Ya HB.out.o; unfold Opd.cells at c1
  clear hB1
  go_wp2_with (go_at_call 57; refine (Ycb _ _).mono ?_; rintro e w' ⟨rfl, hu⟩; rw [show (Yac (reB L ⟨k2, false, false⟩)).val = .agg #[.int .i64 2, .int .i64 0, .int .u32 (reB L ⟨k2, false, false⟩), .int .i64 0, .int .i64 0, .int .u32 0] from rfl])
  first
  |exact hK _ (HB.out.quiet hu _ (by decide) (by decide))
  |exact HB.out.quiet hu _ (by decide) (by decide)
 ·exact ⟨_, rfl⟩
 refine Yal (fun _ w4 dd hall hB1 => ?_)
 obtain ⟨C4, hC, hI⟩ := hB1.fin (.inl (hall 5 (by decide)))
 clear hI
 have H4 := Yh_ hC
 have cm := Ya H4.out.o
 unfold Opd.cells at cm
 clear hC hall hB1
 go_wp2_with (have _t := H4; clear _t; refine Ye 42 rfl ?_; refine Yb ⟨Yaa n, 0, o, Yac (reB L ⟨k2, false, false⟩), false, 0⟩ (w.heap.size) rfl _ _ rfl rfl rfl (H4.out).r (H4.out).z ?_; intro w5 hw; have H5 := Yh_ ((H4.out).store hw); clear hw H4)
 exact bodyPost_ret (Yg rfl (Yi 4 (w.heap.size) _ rfl H5.out.r) (Yk 5 rfl)) rfl ⟨rfl, H5.out.h, H5.out.u⟩
theorem Ys8 (d g : Nat) (s : Rd) (v : Value) (L : List Int) (w : World) (hD : Yl w d v L g s) (o : Opd) (ho : reM L s = o) (n : Int) (hn : reN L s = n) (k2 : Nat) (hs2 : Yab L s = ⟨k2, false, false⟩) (hn8 : 0 ≤ n ∧ n < 8) (hz : Yaa n = 0) :
  Calls Tryz.prog 61 #[.pointer (some ⟨d, 0, none⟩), .int .u8 209] w (Yr d v L g w ⟨⟨0, 0, o, Yac 1, false, 0⟩, true, ⟨k2, false, false⟩⟩) := by
 have HO := Yh_ ho
 have HN := Yh_ hn
 have HS2 := Yh_ hs2
 have hmo : Tryz.prog.follows .mixedOrders = true := by kernel_rfl
 have hix := fun w : World => Ydf hn8.1 hn8.2 w
 rw [hz] at hix
 have H1 := Yh_ (RiS.start hD)
 clear hD ho hn hs2 hn8 hz
 go_enter Tryz.func61, Tryz.ntmps61
 go_wp2_with (have _t := H1; clear _t; go_at_call 72; refine (Ya4 d g _ v L _ (H1.out).h).mono ?_; rintro e w2 ⟨rfl, h, hu⟩; rw [HO.out, HN.out]; rw [HS2.out] at h; unfold Opd.val; have H2 := Yh_ (((H1.out).call h hu).mvar o); have cs := Ya (Yc (.cells #[.int .i64 o.k, .int .i64 o.r, .int .u32 o.imm, .int .i64 o.b, .int .i64 o.x, .int .u32 o.sc] 40) h.h); have fs := Yh (Yc (.cells #[.int .i64 o.k, .int .i64 o.r, .int .u32 o.imm, .int .i64 o.b, .int .i64 o.x, .int .u32 o.sc] 40) h.h); clear h hu H1)
 refine Yaq 11 (RiB w d v L g ⟨k2, false, false⟩ ⟨k2, false, false⟩ 999 10 ⟨0, 0, o, Yac 1, false, 0⟩ (w.heap.size) (w2.heap.size) o) (fun _ _ => False) (by kernel_rfl) (by decide +kernel) (RiB.start (H2.out)) (fun _ _ _ h => h.elim) ?_
 simp only [List.take_succ_cons, List.take_zero, List.drop_succ_cons, List.drop_zero]
 apply Yf rfl rfl
 ·intro dd K hd hK w5 hB1
  have HB := Yh_ hB1
  have c1 := Ya HB.out.o; unfold Opd.cells at c1
  clear hB1
  go_wp2_with (go_at_call 75; refine (Ych _).mono ?_; rintro e w' ⟨rfl, hu⟩)
  first
  |exact hK _ (HB.out.quiet hu _ (by decide) (by decide))
  |exact HB.out.quiet hu _ (by decide) (by decide)
 ·exact ⟨_, rfl⟩
 iterate 3
  apply Yf rfl rfl
  ·intro dd K hd hK w5 hB1
   have HB := Yh_ hB1
   have c1 := Ya HB.out.o; unfold Opd.cells at c1
   clear hB1
   go_wp2_with fail
   first
   |exact hK _ (HB.out.same _ (by decide) (by decide))
   |exact HB.out.same _ (by decide) (by decide)
  ·exact ⟨_, rfl⟩
 apply Yf rfl rfl
 ·intro dd K hd hK w5 hB1
  have HB := Yh_ hB1
  have c1 := Ya HB.out.o; unfold Opd.cells at c1
  clear hB1
  go_wp2_with (go_at_call 57; refine (Ycb _ _).mono ?_; rintro e w' ⟨rfl, hu⟩; rw [show (Yac (1)).val = .agg #[.int .i64 2, .int .i64 0, .int .u32 (1), .int .i64 0, .int .i64 0, .int .u32 0] from rfl])
  first
  |exact hK _ (HB.out.quiet hu _ (by decide) (by decide))
  |exact HB.out.quiet hu _ (by decide) (by decide)
 ·exact ⟨_, rfl⟩
 apply Yf rfl rfl
 ·intro dd K hd hK w5 hB1
  have HB := Yh_ hB1
  have c1 := Ya HB.out.o; unfold Opd.cells at c1
  clear hB1
  go_wp2_with fail
  first
  |exact hK _ (HB.out.same _ (by decide) (by decide))
  |exact HB.out.same _ (by decide) (by decide)
 ·exact ⟨_, rfl⟩
 apply Yf rfl rfl
 ·intro dd K hd hK w5 hB1
  have HB := Yh_ hB1
  have c1 := Ya HB.out.o; unfold Opd.cells at c1
  clear hB1
  go_wp2_with (go_at_call 75; refine (Ych _).mono ?_; rintro e w' ⟨rfl, hu⟩)
  first
  |exact hK _ (HB.out.quiet hu _ (by decide) (by decide))
  |exact HB.out.quiet hu _ (by decide) (by decide)
 ·exact ⟨_, rfl⟩
 iterate 3
  apply Yf rfl rfl
  ·intro dd K hd hK w5 hB1
   have HB := Yh_ hB1
   have c1 := Ya HB.out.o; unfold Opd.cells at c1
   clear hB1
   go_wp2_with fail
   first
   |exact hK _ (HB.out.same _ (by decide) (by decide))
   |exact HB.out.same _ (by decide) (by decide)
  ·exact ⟨_, rfl⟩
 apply Yf rfl rfl
 ·intro dd K hd hK w5 hB1
  obtain ⟨C, e2, e3, _⟩ := hB1.r
  refine Ya8 ⟨0, 0, o, Yac 1, false, 0⟩ (w.heap.size) _ _ rfl rfl rfl e2 e3 ?_
  intro w6 hw6
  exact hK _ (hB1.store (by decide) hw6)
 ·exact ⟨_, rfl⟩
 refine Yal (fun _ w3 dd hall hB1 => ?_)
 obtain ⟨C3, hC, hI⟩ := hB1.fin (.inr rfl)
 obtain rfl := hI (hall 10 (by decide))
 clear hI
 have H3 := Yh_ hC
 have cm := Ya H3.out.o
 unfold Opd.cells at cm
 clear hC hall hB1
 go_wp2_with fail
 go_wp2_with fail
 exact bodyPost_ret (Yg rfl (Yi 4 (w.heap.size) _ rfl H3.out.r) (Yk 5 rfl)) rfl ⟨rfl, H3.out.h, H3.out.u⟩
theorem Ys2 (d g : Nat) (s : Rd) (v : Value) (L : List Int) (w : World) (hD : Yl w d v L g s) (o : Opd) (ho : reM L s = o) (n : Int) (hn : reN L s = n) (k2 : Nat) (hs2 : Yab L s = ⟨k2, false, false⟩) (hn8 : 0 ≤ n ∧ n < 8) (hz : Yaa n ≠ 0) :
  Calls Tryz.prog 61 #[.pointer (some ⟨d, 0, none⟩), .int .u8 209] w (Yr d v L g w ⟨⟨Yaa n, 0, o, Yac 1, false, 0⟩, false, ⟨k2, false, false⟩⟩) := by
 have HO := Yh_ ho
 have HN := Yh_ hn
 have HS2 := Yh_ hs2
 have hmo : Tryz.prog.follows .mixedOrders = true := by kernel_rfl
 have hix := fun w : World => Ydf hn8.1 hn8.2 w
 have q1 : (Yaa n == 0) = false := by simpa using hz
 have H1 := Yh_ (RiS.start hD)
 clear hD ho hn hs2 hn8 hz
 go_enter Tryz.func61, Tryz.ntmps61
 go_wp2_with (have _t := H1; clear _t; go_at_call 72; refine (Ya4 d g _ v L _ (H1.out).h).mono ?_; rintro e w2 ⟨rfl, h, hu⟩; rw [HO.out, HN.out]; rw [HS2.out] at h; unfold Opd.val; have H2 := Yh_ (((H1.out).call h hu).mvar o); have cs := Ya (Yc (.cells #[.int .i64 o.k, .int .i64 o.r, .int .u32 o.imm, .int .i64 o.b, .int .i64 o.x, .int .u32 o.sc] 40) h.h); have fs := Yh (Yc (.cells #[.int .i64 o.k, .int .i64 o.r, .int .u32 o.imm, .int .i64 o.b, .int .i64 o.x, .int .u32 o.sc] 40) h.h); clear h hu H1)
 refine Yaq 11 (RiB w d v L g ⟨k2, false, false⟩ ⟨k2, false, false⟩ 999 10 ⟨Yaa n, 0, o, Yac 1, false, 0⟩ (w.heap.size) (w2.heap.size) o) (fun _ _ => False) (by kernel_rfl) (by decide +kernel) (RiB.start (H2.out)) (fun _ _ _ h => h.elim) ?_
 simp only [List.take_succ_cons, List.take_zero, List.drop_succ_cons, List.drop_zero]
 apply Yf rfl rfl
 ·intro dd K hd hK w5 hB1
  have HB := Yh_ hB1
  have c1 := Ya HB.out.o; unfold Opd.cells at c1
  clear hB1
  go_wp2_with (go_at_call 75; refine (Ych _).mono ?_; rintro e w' ⟨rfl, hu⟩)
  first
  |exact hK _ (HB.out.quiet hu _ (by decide) (by decide))
  |exact HB.out.quiet hu _ (by decide) (by decide)
 ·exact ⟨_, rfl⟩
 iterate 3
  apply Yf rfl rfl
  ·intro dd K hd hK w5 hB1
   have HB := Yh_ hB1
   have c1 := Ya HB.out.o; unfold Opd.cells at c1
   clear hB1
   go_wp2_with fail
   first
   |exact hK _ (HB.out.same _ (by decide) (by decide))
   |exact HB.out.same _ (by decide) (by decide)
  ·exact ⟨_, rfl⟩
 apply Yf rfl rfl
 ·intro dd K hd hK w5 hB1
  have HB := Yh_ hB1
  have c1 := Ya HB.out.o; unfold Opd.cells at c1
  clear hB1
  go_wp2_with (go_at_call 57; refine (Ycb _ _).mono ?_; rintro e w' ⟨rfl, hu⟩; rw [show (Yac (1)).val = .agg #[.int .i64 2, .int .i64 0, .int .u32 (1), .int .i64 0, .int .i64 0, .int .u32 0] from rfl])
  first
  |exact hK _ (HB.out.quiet hu _ (by decide) (by decide))
  |exact HB.out.quiet hu _ (by decide) (by decide)
 ·exact ⟨_, rfl⟩
 apply Yf rfl rfl
 ·intro dd K hd hK w5 hB1
  have HB := Yh_ hB1
  have c1 := Ya HB.out.o; unfold Opd.cells at c1
  clear hB1
  go_wp2_with fail
  first
  |exact hK _ (HB.out.same _ (by decide) (by decide))
  |exact HB.out.same _ (by decide) (by decide)
 ·exact ⟨_, rfl⟩
 apply Yf rfl rfl
 ·intro dd K hd hK w5 hB1
  have HB := Yh_ hB1
  have c1 := Ya HB.out.o; unfold Opd.cells at c1
  clear hB1
  go_wp2_with (go_at_call 75; refine (Ych _).mono ?_; rintro e w' ⟨rfl, hu⟩)
  first
  |exact hK _ (HB.out.quiet hu _ (by decide) (by decide))
  |exact HB.out.quiet hu _ (by decide) (by decide)
 ·exact ⟨_, rfl⟩
 iterate 3
  apply Yf rfl rfl
  ·intro dd K hd hK w5 hB1
   have HB := Yh_ hB1
   have c1 := Ya HB.out.o; unfold Opd.cells at c1
   clear hB1
   go_wp2_with fail
   first
   |exact hK _ (HB.out.same _ (by decide) (by decide))
   |exact HB.out.same _ (by decide) (by decide)
  ·exact ⟨_, rfl⟩
 apply Yf rfl rfl
 ·intro dd K hd hK w5 hB1
  obtain ⟨C, e2, e3, _⟩ := hB1.r
  refine Ya8 ⟨Yaa n, 0, o, Yac 1, false, 0⟩ (w.heap.size) _ _ rfl rfl rfl e2 e3 ?_
  intro w6 hw6
  exact hK _ (hB1.store (by decide) hw6)
 ·exact ⟨_, rfl⟩
 refine Yal (fun _ w3 dd hall hB1 => ?_)
 obtain ⟨C3, hC, hI⟩ := hB1.fin (.inr rfl)
 obtain rfl := hI (hall 10 (by decide))
 clear hI
 have H3 := Yh_ hC
 have cm := Ya H3.out.o
 unfold Opd.cells at cm
 clear hC hall hB1
 go_wp2_with fail
 go_wp2_with fail
 exact bodyPost_ret (Yg rfl (Yi 4 (w.heap.size) _ rfl H3.out.r) (Yk 5 rfl)) rfl ⟨rfl, H3.out.h, H3.out.u⟩
theorem Yru (d g : Nat) (s : Rd) (v : Value) (L : List Int) (w : World) (hD : Yl w d v L g s) (o : Opd) (ho : reM L s = o) (n : Int) (hn : reN L s = n) (k2 : Nat) (hs2 : Yab L s = ⟨k2, false, false⟩) (hn8 : 0 ≤ n ∧ n < 8) (hz : Yaa n = 0) :
  Calls Tryz.prog 61 #[.pointer (some ⟨d, 0, none⟩), .int .u8 211] w (Yr d v L g w ⟨⟨0, 0, o, Yn 1, false, 0⟩, true, ⟨k2, false, false⟩⟩) := by
 have HO := Yh_ ho
 have HN := Yh_ hn
 have HS2 := Yh_ hs2
 have hmo : Tryz.prog.follows .mixedOrders = true := by kernel_rfl
 have hix := fun w : World => Ydf hn8.1 hn8.2 w
 rw [hz] at hix
 have H1 := Yh_ (RiS.start hD)
 clear hD ho hn hs2 hn8 hz
 go_enter Tryz.func61, Tryz.ntmps61
 go_wp2_with (have _t := H1; clear _t; go_at_call 72; refine (Ya4 d g _ v L _ (H1.out).h).mono ?_; rintro e w2 ⟨rfl, h, hu⟩; rw [HO.out, HN.out]; rw [HS2.out] at h; unfold Opd.val; have H2 := Yh_ (((H1.out).call h hu).mvar o); have cs := Ya (Yc (.cells #[.int .i64 o.k, .int .i64 o.r, .int .u32 o.imm, .int .i64 o.b, .int .i64 o.x, .int .u32 o.sc] 40) h.h); have fs := Yh (Yc (.cells #[.int .i64 o.k, .int .i64 o.r, .int .u32 o.imm, .int .i64 o.b, .int .i64 o.x, .int .u32 o.sc] 40) h.h); clear h hu H1)
 refine Yaq 11 (RiB w d v L g ⟨k2, false, false⟩ ⟨k2, false, false⟩ 999 10 ⟨0, 0, o, Yn 1, false, 0⟩ (w.heap.size) (w2.heap.size) o) (fun _ _ => False) (by kernel_rfl) (by decide +kernel) (RiB.start (H2.out)) (fun _ _ _ h => h.elim) ?_
 simp only [List.take_succ_cons, List.take_zero, List.drop_succ_cons, List.drop_zero]
 apply Yf rfl rfl
 ·intro dd K hd hK w5 hB1
  have HB := Yh_ hB1
  have c1 := Ya HB.out.o; unfold Opd.cells at c1
  clear hB1
  go_wp2_with (go_at_call 75; refine (Ych _).mono ?_; rintro e w' ⟨rfl, hu⟩)
  first
  |exact hK _ (HB.out.quiet hu _ (by decide) (by decide))
  |exact HB.out.quiet hu _ (by decide) (by decide)
 ·exact ⟨_, rfl⟩
 iterate 3
  apply Yf rfl rfl
  ·intro dd K hd hK w5 hB1
   have HB := Yh_ hB1
   have c1 := Ya HB.out.o; unfold Opd.cells at c1
   clear hB1
   go_wp2_with fail
   first
   |exact hK _ (HB.out.same _ (by decide) (by decide))
   |exact HB.out.same _ (by decide) (by decide)
  ·exact ⟨_, rfl⟩
 apply Yf rfl rfl
 ·intro dd K hd hK w5 hB1
  have HB := Yh_ hB1
  have c1 := Ya HB.out.o; unfold Opd.cells at c1
  clear hB1
  go_wp2_with (go_at_call 56; refine (Yba _ _).mono ?_; rintro e w' ⟨rfl, hu⟩; rw [show (Yn (1)).val = .agg #[.int .i64 1, .int .i64 (1), .int .u32 0, .int .i64 0, .int .i64 0, .int .u32 0] from rfl])
  first
  |exact hK _ (HB.out.quiet hu _ (by decide) (by decide))
  |exact HB.out.quiet hu _ (by decide) (by decide)
 ·exact ⟨_, rfl⟩
 apply Yf rfl rfl
 ·intro dd K hd hK w5 hB1
  have HB := Yh_ hB1
  have c1 := Ya HB.out.o; unfold Opd.cells at c1
  clear hB1
  go_wp2_with fail
  first
  |exact hK _ (HB.out.same _ (by decide) (by decide))
  |exact HB.out.same _ (by decide) (by decide)
 ·exact ⟨_, rfl⟩
 apply Yf rfl rfl
 ·intro dd K hd hK w5 hB1
  have HB := Yh_ hB1
  have c1 := Ya HB.out.o; unfold Opd.cells at c1
  clear hB1
  go_wp2_with (go_at_call 75; refine (Ych _).mono ?_; rintro e w' ⟨rfl, hu⟩)
  first
  |exact hK _ (HB.out.quiet hu _ (by decide) (by decide))
  |exact HB.out.quiet hu _ (by decide) (by decide)
 ·exact ⟨_, rfl⟩
 iterate 3
  apply Yf rfl rfl
  ·intro dd K hd hK w5 hB1
   have HB := Yh_ hB1
   have c1 := Ya HB.out.o; unfold Opd.cells at c1
   clear hB1
   go_wp2_with fail
   first
   |exact hK _ (HB.out.same _ (by decide) (by decide))
   |exact HB.out.same _ (by decide) (by decide)
  ·exact ⟨_, rfl⟩
 apply Yf rfl rfl
 ·intro dd K hd hK w5 hB1
  obtain ⟨C, e2, e3, _⟩ := hB1.r
  refine Ya8 ⟨0, 0, o, Yn 1, false, 0⟩ (w.heap.size) _ _ rfl rfl rfl e2 e3 ?_
  intro w6 hw6
  exact hK _ (hB1.store (by decide) hw6)
 ·exact ⟨_, rfl⟩
 refine Yal (fun _ w3 dd hall hB1 => ?_)
 obtain ⟨C3, hC, hI⟩ := hB1.fin (.inr rfl)
 obtain rfl := hI (hall 10 (by decide))
 clear hI
 have H3 := Yh_ hC
 have cm := Ya H3.out.o
 unfold Opd.cells at cm
 clear hC hall hB1
 go_wp2_with fail
 go_wp2_with fail
 exact bodyPost_ret (Yg rfl (Yi 4 (w.heap.size) _ rfl H3.out.r) (Yk 5 rfl)) rfl ⟨rfl, H3.out.h, H3.out.u⟩
theorem Yrt (d g : Nat) (s : Rd) (v : Value) (L : List Int) (w : World) (hD : Yl w d v L g s) (o : Opd) (ho : reM L s = o) (n : Int) (hn : reN L s = n) (k2 : Nat) (hs2 : Yab L s = ⟨k2, false, false⟩) (hn8 : 0 ≤ n ∧ n < 8) (hz : Yaa n ≠ 0) :
  Calls Tryz.prog 61 #[.pointer (some ⟨d, 0, none⟩), .int .u8 211] w (Yr d v L g w ⟨⟨Yaa n, 0, o, Yn 1, false, 0⟩, false, ⟨k2, false, false⟩⟩) := by
 have HO := Yh_ ho
 have HN := Yh_ hn
 have HS2 := Yh_ hs2
 have hmo : Tryz.prog.follows .mixedOrders = true := by kernel_rfl
 have hix := fun w : World => Ydf hn8.1 hn8.2 w
 have q1 : (Yaa n == 0) = false := by simpa using hz
 have H1 := Yh_ (RiS.start hD)
 clear hD ho hn hs2 hn8 hz
 go_enter Tryz.func61, Tryz.ntmps61
 go_wp2_with (have _t := H1; clear _t; go_at_call 72; refine (Ya4 d g _ v L _ (H1.out).h).mono ?_; rintro e w2 ⟨rfl, h, hu⟩; rw [HO.out, HN.out]; rw [HS2.out] at h; unfold Opd.val; have H2 := Yh_ (((H1.out).call h hu).mvar o); have cs := Ya (Yc (.cells #[.int .i64 o.k, .int .i64 o.r, .int .u32 o.imm, .int .i64 o.b, .int .i64 o.x, .int .u32 o.sc] 40) h.h); have fs := Yh (Yc (.cells #[.int .i64 o.k, .int .i64 o.r, .int .u32 o.imm, .int .i64 o.b, .int .i64 o.x, .int .u32 o.sc] 40) h.h); clear h hu H1)
 refine Yaq 11 (RiB w d v L g ⟨k2, false, false⟩ ⟨k2, false, false⟩ 999 10 ⟨Yaa n, 0, o, Yn 1, false, 0⟩ (w.heap.size) (w2.heap.size) o) (fun _ _ => False) (by kernel_rfl) (by decide +kernel) (RiB.start (H2.out)) (fun _ _ _ h => h.elim) ?_
 simp only [List.take_succ_cons, List.take_zero, List.drop_succ_cons, List.drop_zero]
 apply Yf rfl rfl
 ·intro dd K hd hK w5 hB1
  have HB := Yh_ hB1
  have c1 := Ya HB.out.o; unfold Opd.cells at c1
  clear hB1
  go_wp2_with (go_at_call 75; refine (Ych _).mono ?_; rintro e w' ⟨rfl, hu⟩)
  first
  |exact hK _ (HB.out.quiet hu _ (by decide) (by decide))
  |exact HB.out.quiet hu _ (by decide) (by decide)
 ·exact ⟨_, rfl⟩
 iterate 3
  apply Yf rfl rfl
  ·intro dd K hd hK w5 hB1
   have HB := Yh_ hB1
   have c1 := Ya HB.out.o; unfold Opd.cells at c1
   clear hB1
   go_wp2_with fail
   first
   |exact hK _ (HB.out.same _ (by decide) (by decide))
   |exact HB.out.same _ (by decide) (by decide)
  ·exact ⟨_, rfl⟩
 apply Yf rfl rfl
 ·intro dd K hd hK w5 hB1
  have HB := Yh_ hB1
  have c1 := Ya HB.out.o; unfold Opd.cells at c1
  clear hB1
  go_wp2_with (go_at_call 56; refine (Yba _ _).mono ?_; rintro e w' ⟨rfl, hu⟩; rw [show (Yn (1)).val = .agg #[.int .i64 1, .int .i64 (1), .int .u32 0, .int .i64 0, .int .i64 0, .int .u32 0] from rfl])
  first
  |exact hK _ (HB.out.quiet hu _ (by decide) (by decide))
  |exact HB.out.quiet hu _ (by decide) (by decide)
 ·exact ⟨_, rfl⟩
 apply Yf rfl rfl
 ·intro dd K hd hK w5 hB1
  have HB := Yh_ hB1
  have c1 := Ya HB.out.o; unfold Opd.cells at c1
  clear hB1
  go_wp2_with fail
  first
  |exact hK _ (HB.out.same _ (by decide) (by decide))
  |exact HB.out.same _ (by decide) (by decide)
 ·exact ⟨_, rfl⟩
 apply Yf rfl rfl
 ·intro dd K hd hK w5 hB1
  have HB := Yh_ hB1
  have c1 := Ya HB.out.o; unfold Opd.cells at c1
  clear hB1
  go_wp2_with (go_at_call 75; refine (Ych _).mono ?_; rintro e w' ⟨rfl, hu⟩)
  first
  |exact hK _ (HB.out.quiet hu _ (by decide) (by decide))
  |exact HB.out.quiet hu _ (by decide) (by decide)
 ·exact ⟨_, rfl⟩
 iterate 3
  apply Yf rfl rfl
  ·intro dd K hd hK w5 hB1
   have HB := Yh_ hB1
   have c1 := Ya HB.out.o; unfold Opd.cells at c1
   clear hB1
   go_wp2_with fail
   first
   |exact hK _ (HB.out.same _ (by decide) (by decide))
   |exact HB.out.same _ (by decide) (by decide)
  ·exact ⟨_, rfl⟩
 apply Yf rfl rfl
 ·intro dd K hd hK w5 hB1
  obtain ⟨C, e2, e3, _⟩ := hB1.r
  refine Ya8 ⟨Yaa n, 0, o, Yn 1, false, 0⟩ (w.heap.size) _ _ rfl rfl rfl e2 e3 ?_
  intro w6 hw6
  exact hK _ (hB1.store (by decide) hw6)
 ·exact ⟨_, rfl⟩
 refine Yal (fun _ w3 dd hall hB1 => ?_)
 obtain ⟨C3, hC, hI⟩ := hB1.fin (.inr rfl)
 obtain rfl := hI (hall 10 (by decide))
 clear hI
 have H3 := Yh_ hC
 have cm := Ya H3.out.o
 unfold Opd.cells at cm
 clear hC hall hB1
 go_wp2_with fail
 go_wp2_with fail
 exact bodyPost_ret (Yg rfl (Yi 4 (w.heap.size) _ rfl H3.out.r) (Yk 5 rfl)) rfl ⟨rfl, H3.out.h, H3.out.u⟩
theorem rmod_no (d g : Nat) (s : Rd) (v : Value) (L : List Int) (w : World) (hD : Yl w d v L g s) (c : Int) (n15 : c ≠ 15) (n129 : c ≠ 129) (n131 : c ≠ 131) (n133 : c ≠ 133) (n135 : c ≠ 135) (n136 : c ≠ 136) (n137 : c ≠ 137) (n138 : c ≠ 138) (n139 : c ≠ 139) (n141 : c ≠ 141) (n193 : c ≠ 193) (n198 : c ≠ 198) (n199 : c ≠ 199) (n209 : c ≠ 209) (n211 : c ≠ 211) (n217 : c ≠ 217) (n220 : c ≠ 220) (n221 : c ≠ 221) (n247 : c ≠ 247) (n255 : c ≠ 255) :
  Calls Tryz.prog 61 #[.pointer (some ⟨d, 0, none⟩), .int .u8 c] w (Yr d v L g w ⟨Ins.zero, true, s⟩) := by
 have q15 : (c == 15) = false := by simpa using n15
 have q129 : (c == 129) = false := by simpa using n129
 have q131 : (c == 131) = false := by simpa using n131
 have q133 : (c == 133) = false := by simpa using n133
 have q135 : (c == 135) = false := by simpa using n135
 have q136 : (c == 136) = false := by simpa using n136
 have q137 : (c == 137) = false := by simpa using n137
 have q138 : (c == 138) = false := by simpa using n138
 have q139 : (c == 139) = false := by simpa using n139
 have q141 : (c == 141) = false := by simpa using n141
 have q193 : (c == 193) = false := by simpa using n193
 have q198 : (c == 198) = false := by simpa using n198
 have q199 : (c == 199) = false := by simpa using n199
 have q209 : (c == 209) = false := by simpa using n209
 have q211 : (c == 211) = false := by simpa using n211
 have q217 : (c == 217) = false := by simpa using n217
 have q220 : (c == 220) = false := by simpa using n220
 have q221 : (c == 221) = false := by simpa using n221
 have q247 : (c == 247) = false := by simpa using n247
 have q255 : (c == 255) = false := by simpa using n255
 have H1 := Yh_ (RiS.start hD)
 clear hD n15 n129 n131 n133 n135 n136 n137 n138 n139 n141 n193 n198 n199 n209 n211 n217 n220 n221 n247 n255
 go_enter Tryz.func61, Tryz.ntmps61
 go_wp2_with (have _t := H1; clear _t; refine Ye 42 rfl ?_; refine Yb Ins.zero (w.heap.size) rfl _ _ rfl rfl rfl (H1.out).r (H1.out).z ?_; intro w2 hw; have H2 := Yh_ ((H1.out).store hw); clear hw H1)
 exact bodyPost_ret (Yg rfl (Yi 4 (w.heap.size) _ rfl H2.out.r) (Yk 5 rfl)) rfl ⟨rfl, H2.out.h, H2.out.u⟩
theorem rmod_15 (d g : Nat) (s : Rd) (v : Value) (L : List Int) (w : World) (hD : Yl w d v L g s) (q : RI) (hq : ∀ w1, Yl w1 d v L g s → Calls Tryz.prog 73 #[.pointer (some ⟨d, 0, none⟩)] w1 (Yr d v L g w1 q)) :
  Calls Tryz.prog 61 #[.pointer (some ⟨d, 0, none⟩), .int .u8 15] w (Yr d v L g w ⟨q.i, q.e, q.s⟩) := by
 have HQ := Yh_ hq
 have H1 := Yh_ (RiS.start hD)
 clear hD hq
 go_enter Tryz.func61, Tryz.ntmps61
 go_wp2_with (first | (have _t := H1; clear _t; go_at_call 73; refine (HQ.out _ (H1.out).h).mono ?_; rintro e w3 ⟨rfl, h, hu⟩; have H3 := Yh_ ((H1.out).call h hu); clear h hu H1) | (have _t := H3; clear _t; refine Ye 42 rfl ?_; refine Yb q.i (w.heap.size) rfl _ _ rfl rfl rfl (H3.out).r (H3.out).z ?_; intro w4 hw; have H4 := Yh_ ((H3.out).store hw); clear hw H3))
 exact bodyPost_ret (Yg rfl (Yi 4 (w.heap.size) _ rfl H4.out.r) (Yk 5 rfl)) rfl ⟨rfl, H4.out.h, H4.out.u⟩
theorem Yo1 (d g k : Nat) (v : Value) (L : List Int) (w : World) (hD : Yl w d v L g ⟨k, false, false⟩) (c : Int) (htwo : ∀ w1, Yl w1 d v L g ⟨k, false, false⟩ → Calls Tryz.prog 73 #[.pointer (some ⟨d, 0, none⟩)] w1 (Yr d v L g w1 (Yiz L ⟨k, false, false⟩))) :
  Calls Tryz.prog 61 #[.pointer (some ⟨d, 0, none⟩), .int .u8 c] w (Yr d v L g w (Ybk L c ⟨k, false, false⟩)) := by
 by_cases h15 : c = 15
 ·subst h15
  exact rmod_15 d g _ v L w hD _ htwo
 by_cases hc : Yh0.contains c = true
 ·have hn8 := Ylu hD.r ⟨k, false, false⟩
  obtain ⟨o, ho⟩ : ∃ o, reM L ⟨k, false, false⟩ = o := ⟨_, rfl⟩
  obtain ⟨n, hn⟩ : ∃ n, reN L ⟨k, false, false⟩ = n := ⟨_, rfl⟩
  obtain ⟨k2, sh, bd, hs2⟩ : ∃ k2 sh bd, Yab L ⟨k, false, false⟩ = ⟨k2, sh, bd⟩ := ⟨_, _, _, rfl⟩
  have hb : bd = false := by
   have := Yiw L ⟨k, false, false⟩
   rw [hs2] at this
   exact this
  subst hb
  have hq : Ybk L c ⟨k, false, false⟩ = if sh = true then Ycz L c ⟨k2, sh, false⟩ else Yav L c o n ⟨k2, sh, false⟩ := by
   unfold Ybk
   rw [if_neg h15, if_pos hc, hs2, ho, hn]
  rw [hn] at hn8
  rw [hq]
  have hE := fun w1 (h : Yl w1 d v L g ⟨k2, sh, false⟩) => Ysc d g k2 sh v L w1 h c hc
  have hm : c = 129 ∨ c = 131 ∨ c = 133 ∨ c = 135 ∨ c = 136 ∨ c = 137 ∨ c = 138 ∨ c = 139 ∨ c = 141 ∨ c = 193 ∨ c = 198 ∨ c = 199 ∨ c = 209 ∨ c = 211 ∨ c = 217 ∨ c = 220 ∨ c = 221 ∨ c = 247 ∨ c = 255 := by simpa [Yh0] using hc
  cases sh
  ·rw [if_neg (by simp)]
   rcases hm with rfl | rfl | rfl | rfl | rfl | rfl | rfl | rfl | rfl | rfl | rfl | rfl | rfl | rfl | rfl | rfl | rfl | rfl | rfl
   ·exact rmod_129 d g _ v L w hD o ho n hn k2 hs2 hn8
   ·exact rmod_131 d g _ v L w hD o ho n hn k2 hs2 hn8
   ·exact rmod_133 d g _ v L w hD o ho n hn k2 hs2
   ·exact rmod_135 d g _ v L w hD o ho n hn k2 hs2
   ·exact rmod_136 d g _ v L w hD o ho n hn k2 hs2
   ·exact rmod_137 d g _ v L w hD o ho n hn k2 hs2
   ·exact rmod_138 d g _ v L w hD o ho n hn k2 hs2
   ·exact rmod_139 d g _ v L w hD o ho n hn k2 hs2
   ·by_cases hk : o.k = 1
    ·rw [show Yav L 141 o n ⟨k2, false, false⟩ = ⟨⟨26, 0, Yn n, o, false, 0⟩, false, ⟨k2, false, true⟩⟩ from by simp [Yav, hk]]
     exact Yss d g _ v L w hD o ho n hn k2 hs2 hk
    ·rw [show Yav L 141 o n ⟨k2, false, false⟩ = ⟨⟨26, 0, Yn n, o, false, 0⟩, false, ⟨k2, false, false⟩⟩ from by simp [Yav, hk]]
     exact Yso d g _ v L w hD o ho n hn k2 hs2 hk
   ·by_cases hz : Yaa n = 0
    ·rw [show Yav L 193 o n ⟨k2, false, false⟩ = ⟨Ins.zero, true, ⟨k2, false, false⟩⟩ from by simp [Yav, hz]]
     exact Ysb d g _ v L w hD o ho n hn k2 hs2 hn8 hz
    ·rw [show Yav L 193 o n ⟨k2, false, false⟩ = ⟨⟨Yaa n, 0, o, Yac (reB L ⟨k2, false, false⟩), false, 0⟩, false, Ym L ⟨k2, false, false⟩⟩ from by simp [Yav, hz]]
     exact Yr1 d g _ v L w hD o ho n hn k2 hs2 hn8 hz
   ·exact Yg39.1 d g _ v L w hD o ho n hn k2 hs2 _ (fun w1 h => Yff d g _ v L w1 h 198 o n hn8 (by decide))
   ·exact Yg39.2.1 d g _ v L w hD o ho n hn k2 hs2 _ (fun w1 h => Yff d g _ v L w1 h 199 o n hn8 (by decide))
   ·by_cases hz : Yaa n = 0
    ·rw [show Yav L 209 o n ⟨k2, false, false⟩ = ⟨⟨0, 0, o, Yac 1, false, 0⟩, true, ⟨k2, false, false⟩⟩ from by simp [Yav, hz]]
     exact Ys8 d g _ v L w hD o ho n hn k2 hs2 hn8 hz
    ·rw [show Yav L 209 o n ⟨k2, false, false⟩ = ⟨⟨Yaa n, 0, o, Yac 1, false, 0⟩, false, ⟨k2, false, false⟩⟩ from by simp [Yav, hz]]
     exact Ys2 d g _ v L w hD o ho n hn k2 hs2 hn8 hz
   ·by_cases hz : Yaa n = 0
    ·rw [show Yav L 211 o n ⟨k2, false, false⟩ = ⟨⟨0, 0, o, Yn 1, false, 0⟩, true, ⟨k2, false, false⟩⟩ from by simp [Yav, hz]]
     exact Yru d g _ v L w hD o ho n hn k2 hs2 hn8 hz
    ·rw [show Yav L 211 o n ⟨k2, false, false⟩ = ⟨⟨Yaa n, 0, o, Yn 1, false, 0⟩, false, ⟨k2, false, false⟩⟩ from by simp [Yav, hz]]
     exact Yrt d g _ v L w hD o ho n hn k2 hs2 hn8 hz
   ·exact Yg39.2.2.1 d g _ v L w hD o ho n hn k2 hs2 _ (fun w1 h => Yff d g _ v L w1 h 217 o n hn8 (by decide))
   ·exact Yg39.2.2.2.1 d g _ v L w hD o ho n hn k2 hs2 _ (fun w1 h => Yff d g _ v L w1 h 220 o n hn8 (by decide))
   ·exact Yg39.2.2.2.2.1 d g _ v L w hD o ho n hn k2 hs2 _ (fun w1 h => Yff d g _ v L w1 h 221 o n hn8 (by decide))
   ·exact Yg39.2.2.2.2.2.1 d g _ v L w hD o ho n hn k2 hs2 _ (fun w1 h => Yff d g _ v L w1 h 247 o n hn8 (by decide))
   ·exact Yg39.2.2.2.2.2.2 d g _ v L w hD o ho n hn k2 hs2 _ (fun w1 h => Yff d g _ v L w1 h 255 o n hn8 (by decide))
  ·rw [if_pos rfl]
   rcases hm with rfl | rfl | rfl | rfl | rfl | rfl | rfl | rfl | rfl | rfl | rfl | rfl | rfl | rfl | rfl | rfl | rfl | rfl | rfl
   ·exact Yg36.1 d g _ v L w hD o ho n hn k2 hs2 _ hE
   ·exact Yg36.2.1 d g _ v L w hD o ho n hn k2 hs2 _ hE
   ·exact Yg36.2.2.1 d g _ v L w hD o ho n hn k2 hs2 _ hE
   ·exact Yg36.2.2.2.1 d g _ v L w hD o ho n hn k2 hs2 _ hE
   ·exact Yg36.2.2.2.2.1 d g _ v L w hD o ho n hn k2 hs2 _ hE
   ·exact Yg36.2.2.2.2.2.1 d g _ v L w hD o ho n hn k2 hs2 _ hE
   ·exact Yg36.2.2.2.2.2.2.1 d g _ v L w hD o ho n hn k2 hs2 _ hE
   ·exact Yg36.2.2.2.2.2.2.2 d g _ v L w hD o ho n hn k2 hs2 _ hE
   ·exact Yg37.1 d g _ v L w hD o ho n hn k2 hs2 _ hE
   ·exact Yg37.2.1 d g _ v L w hD o ho n hn k2 hs2 _ hE
   ·exact Yg37.2.2.1 d g _ v L w hD o ho n hn k2 hs2 _ hE
   ·exact Yg37.2.2.2.1 d g _ v L w hD o ho n hn k2 hs2 _ hE
   ·exact Yg37.2.2.2.2.1 d g _ v L w hD o ho n hn k2 hs2 _ hE
   ·exact Yg37.2.2.2.2.2.1 d g _ v L w hD o ho n hn k2 hs2 _ hE
   ·exact Yg37.2.2.2.2.2.2.1 d g _ v L w hD o ho n hn k2 hs2 _ hE
   ·exact Yg37.2.2.2.2.2.2.2 d g _ v L w hD o ho n hn k2 hs2 _ hE
   ·exact Yg38.1 d g _ v L w hD o ho n hn k2 hs2 _ hE
   ·exact Yg38.2.1 d g _ v L w hD o ho n hn k2 hs2 _ hE
   ·exact Yg38.2.2 d g _ v L w hD o ho n hn k2 hs2 _ hE
 ·rw [show Ybk L c ⟨k, false, false⟩ = ⟨Ins.zero, true, ⟨k, false, false⟩⟩ from by unfold Ybk; rw [if_neg h15, if_neg hc]]
  have hm : c ≠ 129 ∧ c ≠ 131 ∧ c ≠ 133 ∧ c ≠ 135 ∧ c ≠ 136 ∧ c ≠ 137 ∧ c ≠ 138 ∧ c ≠ 139 ∧ c ≠ 141 ∧ c ≠ 193 ∧ c ≠ 198 ∧ c ≠ 199 ∧ c ≠ 209 ∧ c ≠ 211 ∧ c ≠ 217 ∧ c ≠ 220 ∧ c ≠ 221 ∧ c ≠ 247 ∧ c ≠ 255 := by simpa [Yh0] using hc
  obtain ⟨n129, n131, n133, n135, n136, n137, n138, n139, n141, n193, n198, n199, n209, n211, n217, n220, n221, n247, n255⟩ := hm
  exact rmod_no d g _ v L w hD c h15 n129 n131 n133 n135 n136 n137 n138 n139 n141 n193 n198 n199 n209 n211 n217 n220 n221 n247 n255
end Go.Proofs.YteiplidhkelkbaaGreat
